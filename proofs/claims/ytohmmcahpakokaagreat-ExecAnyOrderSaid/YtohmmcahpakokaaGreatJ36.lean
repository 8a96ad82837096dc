/- exec.change. -/
import Derived.Test.YtohmmcahpakokaaGreatJ34
import Derived.Test.YtohmmcahpakokaaGreatJ35
set_option maxRecDepth 100000
set_option maxHeartbeats 8000000
set_option linter.unusedVariables false
set_option linter.unusedSimpArgs false
namespace Go.Proofs.YtohmmcahpakokaaGreat
section
open Go.RowKit
attribute [local go_sem ↓] Go.wp_at_zero Go.wp_at_succ
section
variable {o:Oper} {a:Act} {w:World} {K:Act→World→Prop} {Q:Exit→Act→World→Prop}
theorem aED {ty:TypeId} {i1 i2 i3 i4 i5:Nat} (x1 x2 x3 x4 x5:Operand) (ho:o.op=.build ty #[(i1,x1),(i2,x2),(i3,x3),(i4,x4),(i5,x5)]) {v1 v2 v3 v4 v5 v:Value} (h1:a.eval x1=v1) (h2:a.eval x2=v2) (h3:a.eval x3=v3) (h4:a.eval x4=v4) (h5:a.eval x5=v5)
  (hr:(Instr.build ty #[(i1,v1),(i2,v2),(i3,v3),(i4,v4),(i5,v5)]).run Tryz.prog w=.ok v w) (h:K (a.put o.dst v) w):o.wp Tryz.prog a w K Q:=by
 unfold Oper.wp execOp
 simp only [ho,List.map_toArray,List.map_cons,List.map_nil,h1,h2,h3,h4,h5,Sem.run_bind,hr,Result.andThen_ok,Sem.run_pure]
 exact h
end
theorem aEY (d:LkR) (w:World):(Instr.build 94 #[(0,.agg (nmc d.nm)),(1,.agg (nmc d.hs)),(2,.int .i64 d.ow),(3,.int .i64 d.tO),(4,.int .i64 d.ul)]).run Tryz.prog w=.ok (.agg (lkA d)) w:=by
 rw [← gH d.nm,← gH d.hs];kernel_rfl
def aLX (w:World) (base:Nat) (V:StV) (e:Ending) (w':World):Prop:=∃ s,e=.returned (.agg (ssA s))∧OwnS w' base s∧s.V=V∧Ext w w'
theorem vU (s0:StR) (ac sq:Int) (A:Option Addr) (n c:Nat) (L:List OpR) (i:Nat) (base:Nat) (w:World) (h:OwnS w base s0) (hbs:base≤w.heap.size) (hS:SlO w A n c L) (hi:i < n) (hv:vTx ac sq L=true) (hn:s0.n1≤900000∧s0.n2≤1000000∧s0.n3≤1000000∧s0.n4≤1000000) :
  Calls Tryz.prog 53 #[.agg (ssA s0),.agg (txA ac sq A n c),.int .i64 (i:Int)] w (aLX w base (kM ac sq L s0.V i)):=by
 have HOW:=zh h
 have HBS:=zh hbs
 have HN9:=zh hn
 have HN:=zh (show s0.n1≤1000000∧s0.n2≤1000000∧s0.n3≤1000000∧s0.n4≤1000000 from ⟨by omega,hn.2⟩)
 obtain ⟨⟨q1,q2,q3,q4,q5,q6⟩,hop⟩:=eO hv
 have hLEN:=hS.len
 have hle:=hS.le
 have hcap:=hS.cap
 obtain ⟨hkk,hto,ham,hva,hul,-,hvb,-,-⟩:=qR (hop i (by omega))
 have hac:wfI ac:=wfS ⟨by omega,by omega⟩
 have HS:=zh hS
 obtain ⟨W,hW⟩:∃ W,((w.alloc (.cells (ssA s0) 44)).alloc (.cells (txA ac sq A n c) 24)).alloc (.cells #[.slice none 0 0,.slice none 0 0,.slice none 0 0,.slice none 0 0,.int .i64 0] 44)=W:=⟨_,rfl⟩
 have HB0:=zh (show Blk W w.heap.size 44 (ssA s0) from by rw [← hW];exact ((Blk.new w 44 (ssA s0)).alloc _).alloc _)
 have HT0:=zh (show Blk W (w.heap.size+1) 24 (txA ac sq A n c) from by rw [← hW];exact Blk.alloc (Blk.newAt _ _ _ _ (by simp)) _)
 have HR0:=zh (show Blk W (w.heap.size+2) 44 (ssA ss0) from by rw [← hW];exact Blk.newAt _ _ _ _ (by simp))
 have HE:=zh (show Ext w W from by rw [← hW];exact (((Ext.refl w).alloc' _).alloc' _).alloc' _)
 have HX9:W.heap.size=w.heap.size+3:=by rw [← hW];simp
 obtain ⟨b,o,hA,hrow,-⟩:=(HS.out.ext HE.out).g.at (by omega)
 subst hA
 have t0:=HT0.out.cell 0
 have t1:=HT0.out.cell 1
 have t2:=HT0.out.cell 2
 obtain ⟨R,hR⟩:∃ R,aY L i=R:=⟨_,rfl⟩
 rw [hR] at hkk hto ham hva hul hvb
 have HK:=zh hR
 have hr:W.rangeAt b (o+i * 23) (RowT.enc R):=by rw [← hR,uN];exact cG hrow (by omega)
 have HLW:=zh (show lkW (⟨cB ac sq L (i:Int),R.hs,ac,R.tO,R.ul⟩:LkR) from ⟨hac,hto,hul⟩)
 obtain ⟨B,hB⟩:∃ B:Int,IntKind.i64.wrap (2 ^ R.va.toNat)=B:=⟨_,rfl⟩
 have HBB:=zh hB
 have HW2:=zh (show B=(2:Int) ^ R.va.toNat from by rw [← hB];exact gT (zY (by omega)))
 have HVW:=zh (show wfI B from by rw [HW2.out];exact fH.2 (zY (by omega)))
 clear hB
 have i0:(0:Int)≤(i:Int):=by omega
 have i1:(i:Int) < (n:Int):=by omega
 have v0:(0:Int)≤R.va:=hvb.1
 have v1:R.va≤64:=by omega
 obtain ⟨v,hv⟩:∃ v,Value.agg (opA R)=v:=⟨_,rfl⟩
 have HV:=zh hv
 obtain ⟨X,hX⟩:∃ X,W.heap.size=X:=⟨_,rfl⟩
 have HXS:=zh hX
 have HX0:=zh (show X=w.heap.size+3 from by omega)
 clear hrow hR hv hX hop hLEN hS ham hul hva hto hac hvb q1 q2 q3 q4 q5 q6 HX9 h hn hbs
 rcases (by omega:R.k=1 ∨ R.k=2 ∨ R.k=3 ∨ R.k=4 ∨ R.k=5 ∨ R.k=6) with hk | hk | hk | hk | hk | hk
 ·have HSP := zh (show kM ac sq L s0.V i = s0.V from by unfold kM; rw [HK.out, hk]; rfl)
  have b1:(R.k == 1)=true:=by rw [hk];rfl
  have d1:decide (R.k=1)=true:=by rw [hk];rfl
  have b2:(R.k == 2)=false:=by rw [hk];rfl
  have d2:decide (R.k=2)=false:=by rw [hk];rfl
  have b3:(R.k == 3)=false:=by rw [hk];rfl
  have d3:decide (R.k=3)=false:=by rw [hk];rfl
  have b4:(R.k == 4)=false:=by rw [hk];rfl
  have d4:decide (R.k=4)=false:=by rw [hk];rfl
  have b5:(R.k == 5)=false:=by rw [hk];rfl
  have d5:decide (R.k=5)=false:=by rw [hk];rfl
  have b6:(R.k == 6)=false:=by rw [hk];rfl
  have d6:decide (R.k=6)=false:=by rw [hk];rfl
  clear hk
  go_enter Tryz.func53,Tryz.ntmps53
  go_upto_region 2 with (first | (with_reducible refine aB opP rfl (.tmp 11) rfl b (o+i * 23) rfl R v HV.out hr ?_) | ((with_reducible refine aP opP rfl (.tmp 7) (.tmp 12) rfl jU rfl R v HV.out rfl rfl ?_);intro W4 h4))
  have HX4:=zh (show Ext W W4 from by rw [← h4.out];exact (Ext.refl W).alloc' _)
  have HD:=zh (show Blk W4 X 69 (opA R) from by rw [← h4.out,← HXS.out];exact Blk.new W 69 (opA R))
  have HB:=zh (HB0.out.ext HX4.out)
  have HTX:=zh (HT0.out.ext HX4.out)
  have HR:=zh (HR0.out.ext HX4.out)
  have HEX:=zh (HE.out.trans HX4.out)
  have k0:W4.cell? ⟨X,0,none⟩=some (.int .i64 R.k):=HD.out.cell 0
  clear h4 hr t0 t1 t2 hW
  rw [HXS.out]
  obtain ⟨q0,q1,q2,q3,q4⟩:=aE HB.out
  go_wp2_with (first | ((with_reducible refine aK rfl (.tmp 6) (.tmp 45) rfl (w.heap.size+2) s0 rfl rfl HR.out ?_);intro W9 h9))
  have hst:Blk W9 (w.heap.size+2) 44 (ssA s0):=by rw [← h9.out];exact aR (ds:=ssA s0) HR.out rfl
  have HXE:=zh (show Ext w W9 from by rw [← h9.out];exact Below.setCells' HEX.out (by omega) _ _)
  clear h9
  exact bodyPost_ret (v:=.agg (ssA s0)) (gB rfl _ _ (w.heap.size+2) _ rfl (run_loadVar_row _ _ _ _ _ (0,0) _ hst Tryz.underlying44 rfl (by kernel_rfl))) rfl ⟨s0,rfl,HOW.out.ext HXE.out,by rw [HSP.out],HXE.out⟩
 ·have HSP := zh (show kM ac sq L s0.V i = ⟨s0.C, s0.Q, lV s0.K (⟨(cB ac sq L (i : Int)), R.hs, ac, R.tO, R.ul⟩ : LkR), s0.P, s0.G⟩ from by unfold kM; rw [HK.out, hk]; rfl)
  have b1:(R.k == 1)=false:=by rw [hk];rfl
  have d1:decide (R.k=1)=false:=by rw [hk];rfl
  have b2:(R.k == 2)=true:=by rw [hk];rfl
  have d2:decide (R.k=2)=true:=by rw [hk];rfl
  have b3:(R.k == 3)=false:=by rw [hk];rfl
  have d3:decide (R.k=3)=false:=by rw [hk];rfl
  have b4:(R.k == 4)=false:=by rw [hk];rfl
  have d4:decide (R.k=4)=false:=by rw [hk];rfl
  have b5:(R.k == 5)=false:=by rw [hk];rfl
  have d5:decide (R.k=5)=false:=by rw [hk];rfl
  have b6:(R.k == 6)=false:=by rw [hk];rfl
  have d6:decide (R.k=6)=false:=by rw [hk];rfl
  clear hk
  go_enter Tryz.func53,Tryz.ntmps53
  go_upto_region 2 with (first | (with_reducible refine aB opP rfl (.tmp 11) rfl b (o+i * 23) rfl R v HV.out hr ?_) | ((with_reducible refine aP opP rfl (.tmp 7) (.tmp 12) rfl jU rfl R v HV.out rfl rfl ?_);intro W4 h4))
  have HX4:=zh (show Ext W W4 from by rw [← h4.out];exact (Ext.refl W).alloc' _)
  have HD:=zh (show Blk W4 X 69 (opA R) from by rw [← h4.out,← HXS.out];exact Blk.new W 69 (opA R))
  have HB:=zh (HB0.out.ext HX4.out)
  have HTX:=zh (HT0.out.ext HX4.out)
  have HR:=zh (HR0.out.ext HX4.out)
  have HEX:=zh (HE.out.trans HX4.out)
  have k0:W4.cell? ⟨X,0,none⟩=some (.int .i64 R.k):=HD.out.cell 0
  clear h4 hr t0 t1 t2 hW
  rw [HXS.out]
  go_upto_region 4 with (fail)
  refine wp_region_held_drew (S:=fun V=>Blk V w.heap.size 44 (ssA s0)∧Blk V (w.heap.size+1) 24 (txA ac sq (some ⟨b,o,none⟩) n c)∧Blk V X 69 (opA R)∧(∃ z,Blk V (w.heap.size+2) 44 (ssA z))∧Ext w V) (by kernel_rfl) (⟨HB.out.drew,HTX.out.drew,HD.out.drew,⟨_,HR.out.drew⟩,HEX.out.trans ((Ext.refl _).drew')⟩) (fun aA=>?_)
  refine zz0 [0,1,2,4] ?_;repeat first | refine zz1 ?_ (hy:=by intro W aM;obtain ⟨q0,q1,q2,q3,q4⟩:=aE aM.1;have t0:=aM.2.1.cell 0;have t1:=aM.2.1.cell 1;have t2:=aM.2.1.cell 2;have p0:=aM.2.2.1.cell 0;have p1:=aM.2.2.1.cell 1;have p2:=aM.2.2.1.cell 2;have p3:=aM.2.2.1.cell 3;have p4:=aM.2.2.1.cell 4;go_simp <;> with_reducible rfl) | refine zz2 ?_ | refine zz9 ?_
  refine zu 5 (v:=.agg (nmc R.hs)) aA ?_ (hy:=by exact aF nmP (by rfl) (.tmp 21) rfl X 13 rfl R.hs _ rfl (fun V h=>aJW h.2.2.1))
  refine zz0 [6,7,8,9,10,11] ?_;repeat first | refine zz1 ?_ (hy:=by intro W aM;obtain ⟨q0,q1,q2,q3,q4⟩:=aE aM.1;have t0:=aM.2.1.cell 0;have t1:=aM.2.1.cell 1;have t2:=aM.2.1.cell 2;have p0:=aM.2.2.1.cell 0;have p1:=aM.2.2.1.cell 1;have p2:=aM.2.2.1.cell 2;have p3:=aM.2.2.1.cell 3;have p4:=aM.2.2.1.cell 4;go_simp <;> with_reducible rfl) | refine zz2 ?_ | refine zz9 ?_
  refine zzj (VE 3 (.agg (nmc (cB ac sq L (i:Int)))) (VE 12 (.agg (lkA (⟨(cB ac sq L (i:Int)),R.hs,ac,R.tO,R.ul⟩:LkR))) (VV 13 (fun v V=>∃ s2,v=.agg (ssA s2)∧OwnS V w.heap.size s2∧s2.V=⟨s0.C,s0.Q,lV s0.K (⟨(cB ac sq L (i:Int)),R.hs,ac,R.tO,R.ul⟩:LkR),s0.P,s0.G⟩) VN))) [(3,some 20),(12,some 29),(13,some 30)] 1 (fun V V' h e=>⟨h.1.ext e,h.2.1.ext e,h.2.2.1.ext e,(by obtain ⟨z,hz⟩:=h.2.2.2.1;exact ⟨z,hz.ext e⟩),h.2.2.2.2.trans e⟩) (ve (ve (VV.ext (fun v w w' ⟨s2,h1,h2,h3⟩ e=>⟨s2,h1,h2.ext e,h3⟩) VN.ext))) (zzc ?_ (zzc ?_ (zzc ?_ zzn))) ?_
  ·refine zzp fun W hE hS K hK => ?_
   go_simp
   go_at_call 84
   refine (pX ac sq (some ⟨b,o,none⟩) n c L (i:Int) _ (HS.out.ext hS.2.2.2.2)).mono ?_
   rintro e w5 ⟨rfl,he5⟩
   exact zzK (hK.out (.agg (nmc (cB ac sq L (i:Int)))) _ (he5) (rfl))
  ·refine zm [(3, some 20)] fun env W hE hS hD K hK => ?_
   obtain ⟨h3,-⟩:=zzV hD
   clear hD
   simp only [aO,h3] at hK ⊢
   clear h3
   refine aED (.tmp 20) (.tmp 22) (.tmp 24) (.tmp 26) (.tmp 28) rfl (v1:=.agg (nmc (cB ac sq L (i:Int)))) (v2:=.agg (nmc R.hs)) (v3:=.int .i64 ac) (v4:=.int .i64 R.tO) (v5:=.int .i64 R.ul) rfl rfl rfl rfl rfl (aEY (⟨(cB ac sq L (i:Int)),R.hs,ac,R.tO,R.ul⟩:LkR) _) ?_
   exact zzF hK (.agg (lkA (⟨(cB ac sq L (i:Int)),R.hs,ac,R.tO,R.ul⟩:LkR)))
  ·refine zm [(12, some 29)] fun env W hE hS hD K hK => ?_
   obtain ⟨h12,-⟩:=zzV hD
   clear hD
   simp only [aO,h12] at hK ⊢
   clear h12
   go_simp
   go_at_call 99
   refine (aCR s0 (⟨(cB ac sq L (i:Int)),R.hs,ac,R.tO,R.ul⟩:LkR) _ (HOW.out.ok.ext hS.2.2.2.2) HLW.out HN.out).mono ?_
   rintro e w5 ⟨s2,rfl,ho2,hv2,he5⟩
   exact zzK (hK.out (.agg (ssA s2)) _ (he5) (⟨s2,rfl,bJ ho2 hS.2.2.2.2.size,hv2⟩))
  intro env W hE hS hV
  obtain ⟨h3,h12,h13,-⟩:=zzV hV
  clear hV
  simp only [aO,h3,h12]
  clear h3
  clear h12
  generalize env 13=x13 at h13 ⊢
  obtain ⟨s2,rfl,ho2,hv2⟩:=h13
  have aA:=hS
  refine za 14 (fun K hK=>?_)
  (obtain ⟨z6,hz6⟩:=aA.2.2.2.1;refine bC rfl (.tmp 6) (.tmp 30) (by rfl) (w.heap.size+2) (.agg (ssA s2)) s2 rfl (by rfl) (by rfl) hz6 ?_;intro W6 h6)
  refine hK.out _ _ (⟨aA.1.grown (by rw [← h6.out.1];exact aC _ _ _ _) (fun e=>by injection e;omega),aA.2.1.grown (by rw [← h6.out.1];exact aC _ _ _ _) (fun e=>by injection e;omega),aA.2.2.1.grown (by rw [← h6.out.1];exact aC _ _ _ _) (fun e=>by injection e;have:=HX0.out;omega),⟨_,h6.out.2⟩,by rw [← h6.out.1];exact Below.setCells' aA.2.2.2.2 (by omega) _ _⟩) (fun aA=>?_)
  clear hK K
  try simp only [aS]
  refine wpAnyH_done (by kernel_rfl) ?_ _
  have HOW2:=zh (show OwnS W6 base s2 from by
   rw [← h6.out.1]
   exact (ho2.kept (aC _ _ _ _) hz6 (by decide) (by decide) (by decide) (by decide)).mono HBS.out)
  have HV2:=zh hv2
  have HXE:=zh aA.2.2.2.2
  have hst:=h6.out.2
  clear h6 ho2 hv2 hE hS aA hz6
  go_wp2_with fail
  exact bodyPost_ret (v:=.agg (ssA s2)) (gB rfl _ _ (w.heap.size+2) _ rfl (run_loadVar_row _ _ _ _ _ (0,0) _ hst Tryz.underlying44 rfl (by kernel_rfl))) rfl ⟨s2,rfl,HOW2.out,by rw [HSP.out,HV2.out],HXE.out⟩
 ·have HSP := zh (show kM ac sq L s0.V i = ⟨s0.C, s0.Q, fU R.lk s0.K, s0.P, s0.G⟩ from by unfold kM; rw [HK.out, hk]; rfl)
  have b1:(R.k == 1)=false:=by rw [hk];rfl
  have d1:decide (R.k=1)=false:=by rw [hk];rfl
  have b2:(R.k == 2)=false:=by rw [hk];rfl
  have d2:decide (R.k=2)=false:=by rw [hk];rfl
  have b3:(R.k == 3)=true:=by rw [hk];rfl
  have d3:decide (R.k=3)=true:=by rw [hk];rfl
  have b4:(R.k == 4)=false:=by rw [hk];rfl
  have d4:decide (R.k=4)=false:=by rw [hk];rfl
  have b5:(R.k == 5)=false:=by rw [hk];rfl
  have d5:decide (R.k=5)=false:=by rw [hk];rfl
  have b6:(R.k == 6)=false:=by rw [hk];rfl
  have d6:decide (R.k=6)=false:=by rw [hk];rfl
  clear hk
  go_enter Tryz.func53,Tryz.ntmps53
  go_upto_region 2 with (first | (with_reducible refine aB opP rfl (.tmp 11) rfl b (o+i * 23) rfl R v HV.out hr ?_) | ((with_reducible refine aP opP rfl (.tmp 7) (.tmp 12) rfl jU rfl R v HV.out rfl rfl ?_);intro W4 h4))
  have HX4:=zh (show Ext W W4 from by rw [← h4.out];exact (Ext.refl W).alloc' _)
  have HD:=zh (show Blk W4 X 69 (opA R) from by rw [← h4.out,← HXS.out];exact Blk.new W 69 (opA R))
  have HB:=zh (HB0.out.ext HX4.out)
  have HTX:=zh (HT0.out.ext HX4.out)
  have HR:=zh (HR0.out.ext HX4.out)
  have HEX:=zh (HE.out.trans HX4.out)
  have k0:W4.cell? ⟨X,0,none⟩=some (.int .i64 R.k):=HD.out.cell 0
  clear h4 hr t0 t1 t2 hW
  rw [HXS.out]
  obtain ⟨q0,q1,q2,q3,q4⟩:=aE HB.out
  have r5:W4.rangeAt X 5 (RowT.enc R.lk):=rA HD.out
  go_wp2_with (first | (with_reducible refine aB nmP rfl (.tmp 35) rfl X 5 rfl R.lk _ rfl r5 ?_) | fail "A")
  refine (rQ s0 R.lk W4 (HOW.out.ok.ext HEX.out) HN.out).mono ?_
  rintro e w5 ⟨s2,rfl,ho2,hv2,he5⟩
  have HO2:=zh ho2
  have HV2:=zh hv2
  have HX5:=zh he5
  have HR5:=zh (HR.out.ext he5)
  clear ho2 hv2 he5 r5
  go_wp2_with ((with_reducible refine aK rfl (.tmp 6) (.tmp 37) rfl (w.heap.size+2) s2 rfl rfl HR5.out ?_);intro W9 h9)
  have hst:Blk W9 (w.heap.size+2) 44 (ssA s2):=by rw [← h9.out];exact aR (ds:=ssA s2) HR5.out rfl
  have HOW2:=zh (show OwnS W9 base s2 from by
   rw [← h9.out]
   exact (HO2.out.kept (aC _ _ _ _) HR5.out (by decide) (by decide) (by decide) (by decide)).mono (Nat.le_trans HBS.out HEX.out.size))
  have HXE:=zh (show Ext w W9 from by rw [← h9.out];exact Below.setCells' (HEX.out.trans HX5.out) (by omega) _ _)
  clear h9
  exact bodyPost_ret (v:=.agg (ssA s2)) (gB rfl _ _ (w.heap.size+2) _ rfl (run_loadVar_row _ _ _ _ _ (0,0) _ hst Tryz.underlying44 rfl (by kernel_rfl))) rfl ⟨s2,rfl,HOW2.out,by rw [HSP.out,HV2.out],HXE.out⟩
 ·have HSP := zh (show kM ac sq L s0.V i = ⟨s0.C, s0.Q, fU R.lk s0.K, s0.P, s0.G⟩ from by unfold kM; rw [HK.out, hk]; rfl)
  have b1:(R.k == 1)=false:=by rw [hk];rfl
  have d1:decide (R.k=1)=false:=by rw [hk];rfl
  have b2:(R.k == 2)=false:=by rw [hk];rfl
  have d2:decide (R.k=2)=false:=by rw [hk];rfl
  have b3:(R.k == 3)=false:=by rw [hk];rfl
  have d3:decide (R.k=3)=false:=by rw [hk];rfl
  have b4:(R.k == 4)=true:=by rw [hk];rfl
  have d4:decide (R.k=4)=true:=by rw [hk];rfl
  have b5:(R.k == 5)=false:=by rw [hk];rfl
  have d5:decide (R.k=5)=false:=by rw [hk];rfl
  have b6:(R.k == 6)=false:=by rw [hk];rfl
  have d6:decide (R.k=6)=false:=by rw [hk];rfl
  clear hk
  go_enter Tryz.func53,Tryz.ntmps53
  go_upto_region 2 with (first | (with_reducible refine aB opP rfl (.tmp 11) rfl b (o+i * 23) rfl R v HV.out hr ?_) | ((with_reducible refine aP opP rfl (.tmp 7) (.tmp 12) rfl jU rfl R v HV.out rfl rfl ?_);intro W4 h4))
  have HX4:=zh (show Ext W W4 from by rw [← h4.out];exact (Ext.refl W).alloc' _)
  have HD:=zh (show Blk W4 X 69 (opA R) from by rw [← h4.out,← HXS.out];exact Blk.new W 69 (opA R))
  have HB:=zh (HB0.out.ext HX4.out)
  have HTX:=zh (HT0.out.ext HX4.out)
  have HR:=zh (HR0.out.ext HX4.out)
  have HEX:=zh (HE.out.trans HX4.out)
  have k0:W4.cell? ⟨X,0,none⟩=some (.int .i64 R.k):=HD.out.cell 0
  clear h4 hr t0 t1 t2 hW
  rw [HXS.out]
  obtain ⟨q0,q1,q2,q3,q4⟩:=aE HB.out
  have r5:W4.rangeAt X 5 (RowT.enc R.lk):=rA HD.out
  go_wp2_with (first | (with_reducible refine aB nmP rfl (.tmp 35) rfl X 5 rfl R.lk _ rfl r5 ?_) | fail "A")
  refine (rQ s0 R.lk W4 (HOW.out.ok.ext HEX.out) HN.out).mono ?_
  rintro e w5 ⟨s2,rfl,ho2,hv2,he5⟩
  have HO2:=zh ho2
  have HV2:=zh hv2
  have HX5:=zh he5
  have HR5:=zh (HR.out.ext he5)
  clear ho2 hv2 he5 r5
  go_wp2_with ((with_reducible refine aK rfl (.tmp 6) (.tmp 37) rfl (w.heap.size+2) s2 rfl rfl HR5.out ?_);intro W9 h9)
  have hst:Blk W9 (w.heap.size+2) 44 (ssA s2):=by rw [← h9.out];exact aR (ds:=ssA s2) HR5.out rfl
  have HOW2:=zh (show OwnS W9 base s2 from by
   rw [← h9.out]
   exact (HO2.out.kept (aC _ _ _ _) HR5.out (by decide) (by decide) (by decide) (by decide)).mono (Nat.le_trans HBS.out HEX.out.size))
  have HXE:=zh (show Ext w W9 from by rw [← h9.out];exact Below.setCells' (HEX.out.trans HX5.out) (by omega) _ _)
  clear h9
  exact bodyPost_ret (v:=.agg (ssA s2)) (gB rfl _ _ (w.heap.size+2) _ rfl (run_loadVar_row _ _ _ _ _ (0,0) _ hst Tryz.underlying44 rfl (by kernel_rfl))) rfl ⟨s2,rfl,HOW2.out,by rw [HSP.out,HV2.out],HXE.out⟩
 ·have HSP := zh (show kM ac sq L s0.V i = s0.V from by unfold kM; rw [HK.out, hk]; rfl)
  have b1:(R.k == 1)=false:=by rw [hk];rfl
  have d1:decide (R.k=1)=false:=by rw [hk];rfl
  have b2:(R.k == 2)=false:=by rw [hk];rfl
  have d2:decide (R.k=2)=false:=by rw [hk];rfl
  have b3:(R.k == 3)=false:=by rw [hk];rfl
  have d3:decide (R.k=3)=false:=by rw [hk];rfl
  have b4:(R.k == 4)=false:=by rw [hk];rfl
  have d4:decide (R.k=4)=false:=by rw [hk];rfl
  have b5:(R.k == 5)=true:=by rw [hk];rfl
  have d5:decide (R.k=5)=true:=by rw [hk];rfl
  have b6:(R.k == 6)=false:=by rw [hk];rfl
  have d6:decide (R.k=6)=false:=by rw [hk];rfl
  clear hk
  go_enter Tryz.func53,Tryz.ntmps53
  go_upto_region 2 with (first | (with_reducible refine aB opP rfl (.tmp 11) rfl b (o+i * 23) rfl R v HV.out hr ?_) | ((with_reducible refine aP opP rfl (.tmp 7) (.tmp 12) rfl jU rfl R v HV.out rfl rfl ?_);intro W4 h4))
  have HX4:=zh (show Ext W W4 from by rw [← h4.out];exact (Ext.refl W).alloc' _)
  have HD:=zh (show Blk W4 X 69 (opA R) from by rw [← h4.out,← HXS.out];exact Blk.new W 69 (opA R))
  have HB:=zh (HB0.out.ext HX4.out)
  have HTX:=zh (HT0.out.ext HX4.out)
  have HR:=zh (HR0.out.ext HX4.out)
  have HEX:=zh (HE.out.trans HX4.out)
  have k0:W4.cell? ⟨X,0,none⟩=some (.int .i64 R.k):=HD.out.cell 0
  clear h4 hr t0 t1 t2 hW
  rw [HXS.out]
  obtain ⟨q0,q1,q2,q3,q4⟩:=aE HB.out
  go_wp2_with (first | ((with_reducible refine aK rfl (.tmp 6) (.tmp 45) rfl (w.heap.size+2) s0 rfl rfl HR.out ?_);intro W9 h9))
  have hst:Blk W9 (w.heap.size+2) 44 (ssA s0):=by rw [← h9.out];exact aR (ds:=ssA s0) HR.out rfl
  have HXE:=zh (show Ext w W9 from by rw [← h9.out];exact Below.setCells' HEX.out (by omega) _ _)
  clear h9
  exact bodyPost_ret (v:=.agg (ssA s0)) (gB rfl _ _ (w.heap.size+2) _ rfl (run_loadVar_row _ _ _ _ _ (0,0) _ hst Tryz.underlying44 rfl (by kernel_rfl))) rfl ⟨s0,rfl,HOW.out.ext HXE.out,by rw [HSP.out],HXE.out⟩
 have HSP:=zh (show kM ac sq L s0.V i=aFH (2 ^ R.va.toNat) s0.V from by unfold kM;rw [HK.out,hk];rfl)
 have b1:(R.k == 1)=false:=by rw [hk];rfl
 have d1:decide (R.k=1)=false:=by rw [hk];rfl
 have b2:(R.k == 2)=false:=by rw [hk];rfl
 have d2:decide (R.k=2)=false:=by rw [hk];rfl
 have b3:(R.k == 3)=false:=by rw [hk];rfl
 have d3:decide (R.k=3)=false:=by rw [hk];rfl
 have b4:(R.k == 4)=false:=by rw [hk];rfl
 have d4:decide (R.k=4)=false:=by rw [hk];rfl
 have b5:(R.k == 5)=false:=by rw [hk];rfl
 have d5:decide (R.k=5)=false:=by rw [hk];rfl
 have b6:(R.k == 6)=true:=by rw [hk];rfl
 have d6:decide (R.k=6)=true:=by rw [hk];rfl
 clear hk
 go_enter Tryz.func53,Tryz.ntmps53
 go_upto_region 2 with (first | (with_reducible refine aB opP rfl (.tmp 11) rfl b (o+i * 23) rfl R v HV.out hr ?_) | ((with_reducible refine aP opP rfl (.tmp 7) (.tmp 12) rfl jU rfl R v HV.out rfl rfl ?_);intro W4 h4))
 have HX4:=zh (show Ext W W4 from by rw [← h4.out];exact (Ext.refl W).alloc' _)
 have HD:=zh (show Blk W4 X 69 (opA R) from by rw [← h4.out,← HXS.out];exact Blk.new W 69 (opA R))
 have HB:=zh (HB0.out.ext HX4.out)
 have HTX:=zh (HT0.out.ext HX4.out)
 have HR:=zh (HR0.out.ext HX4.out)
 have HEX:=zh (HE.out.trans HX4.out)
 have k0:W4.cell? ⟨X,0,none⟩=some (.int .i64 R.k):=HD.out.cell 0
 clear h4 hr t0 t1 t2 hW
 rw [HXS.out]
 go_upto_region 9 with (fail)
 refine wp_region_held_drew (S:=fun V=>Blk V w.heap.size 44 (ssA s0)∧Blk V (w.heap.size+1) 24 (txA ac sq (some ⟨b,o,none⟩) n c)∧Blk V X 69 (opA R)∧(∃ z,Blk V (w.heap.size+2) 44 (ssA z))∧Ext w V) (by kernel_rfl) (⟨HB.out.drew,HTX.out.drew,HD.out.drew,⟨_,HR.out.drew⟩,HEX.out.trans ((Ext.refl _).drew')⟩) (fun aA=>?_)
 refine zz0 [0,1,2] ?_;repeat first | refine zz1 ?_ (hy:=by intro W aM;obtain ⟨q0,q1,q2,q3,q4⟩:=aE aM.1;have t0:=aM.2.1.cell 0;have t1:=aM.2.1.cell 1;have t2:=aM.2.1.cell 2;have p0:=aM.2.2.1.cell 0;have p1:=aM.2.2.1.cell 1;have p2:=aM.2.2.1.cell 2;have p3:=aM.2.2.1.cell 3;have p4:=aM.2.2.1.cell 4;go_simp <;> with_reducible rfl) | refine zz2 ?_ | refine zz9 ?_
 refine zu 3 (v:=.int .i64 B) aA ?_ (hy:=by refine .inl ⟨by rfl,fun V _=>?_⟩;rw [← HBB.out];go_simp;try rfl)
 refine zzj (VV 4 (fun v V=>∃ s2,v=.agg (ssA s2)∧OwnS V w.heap.size s2∧s2.V=aFH B s0.V) VN) [(4,some 44)] 1 (fun V V' h e=>⟨h.1.ext e,h.2.1.ext e,h.2.2.1.ext e,(by obtain ⟨z,hz⟩:=h.2.2.2.1;exact ⟨z,hz.ext e⟩),h.2.2.2.2.trans e⟩) (VV.ext (fun v w w' ⟨s2,h1,h2,h3⟩ e=>⟨s2,h1,h2.ext e,h3⟩) VN.ext) (zzc ?_ zzn) ?_
 ·refine zzp fun W hE hS K hK => ?_
  go_simp
  go_at_call 43
  refine (yG s0 B _ (HOW.out.ok.ext hS.2.2.2.2) HVW.out HN9.out).mono ?_
  rintro e w5 ⟨s2,rfl,ho2,hv2,he5⟩
  exact zzK (hK.out (.agg (ssA s2)) _ (he5) (⟨s2,rfl,bJ ho2 hS.2.2.2.2.size,hv2⟩))
 intro env W hE hS hV
 obtain ⟨h4,-⟩:=zzV hV
 clear hV
 simp only [aO]
 generalize env 4=x4 at h4 ⊢
 obtain ⟨s2,rfl,ho2,hv2⟩:=h4
 have aA:=hS
 refine za 5 (fun K hK=>?_)
 (obtain ⟨z6,hz6⟩:=aA.2.2.2.1;refine bC rfl (.tmp 6) (.tmp 44) (by rfl) (w.heap.size+2) (.agg (ssA s2)) s2 rfl (by rfl) (by rfl) hz6 ?_;intro W6 h6)
 refine hK.out _ _ (⟨aA.1.grown (by rw [← h6.out.1];exact aC _ _ _ _) (fun e=>by injection e;omega),aA.2.1.grown (by rw [← h6.out.1];exact aC _ _ _ _) (fun e=>by injection e;omega),aA.2.2.1.grown (by rw [← h6.out.1];exact aC _ _ _ _) (fun e=>by injection e;have:=HX0.out;omega),⟨_,h6.out.2⟩,by rw [← h6.out.1];exact Below.setCells' aA.2.2.2.2 (by omega) _ _⟩) (fun aA=>?_)
 clear hK K
 try simp only [aS]
 refine wpAnyH_done (by kernel_rfl) ?_ _
 have HOW2:=zh (show OwnS W6 base s2 from by
  rw [← h6.out.1]
  exact (ho2.kept (aC _ _ _ _) hz6 (by decide) (by decide) (by decide) (by decide)).mono HBS.out)
 have HV2:=zh hv2
 have HXE:=zh aA.2.2.2.2
 have hst:=h6.out.2
 clear h6 ho2 hv2 hE hS aA hz6
 go_wp2_with fail
 exact bodyPost_ret (v:=.agg (ssA s2)) (gB rfl _ _ (w.heap.size+2) _ rfl (run_loadVar_row _ _ _ _ _ (0,0) _ hst Tryz.underlying44 rfl (by kernel_rfl))) rfl ⟨s2,rfl,HOW2.out,by rw [HSP.out,HV2.out,HW2.out],HXE.out⟩
end
end Go.Proofs.YtohmmcahpakokaaGreat
