/- exec.Expel. -/
import Derived.Test.YtohmmcahpakokaaGreatJ26
import Derived.Test.YtohmmcahpakokaaGreatJ31
import Derived.Test.YtohmmcahpakokaaGreatJ32
set_option maxRecDepth 100000
set_option maxHeartbeats 8000000
set_option linter.unusedVariables false
set_option linter.unusedSimpArgs false
namespace Go.Proofs.YtohmmcahpakokaaGreat
section
open Go.RowKit
attribute [local go_sem ↓] Go.wp_at_zero Go.wp_at_succ
theorem aEt (g:Int) (S:StV) (n:Nat):(expN g S n).C.length≤S.C.length+2 * n:=by
 induction n with
 | zero=>exact Nat.le_refl _
 | succ n ih =>
  rw [jG];unfold sD;split
  ·have := qP (dQ (cK (n : Int)) bU (bW (expN g S n).C (cK (n : Int)))) (expN g S n).C
   simp only [dQ,List.length_cons,List.length_nil] at this ⊢
   omega
  omega
theorem aJt (g:Int) (S:StV) (n:Nat):(expN g S n).K=S.K:=by
 induction n with
 | zero=>rfl
 | succ n ih=>rw [jG];unfold sD;split <;> exact ih
theorem zY {k:Nat} (hk:k≤9):jS ((2:Int) ^ k):=by
 unfold jS
 obtain rfl | rfl | rfl | rfl | rfl | rfl | rfl | rfl | rfl | rfl:k=0 ∨ k=1 ∨ k=2 ∨ k=3 ∨ k=4 ∨ k=5 ∨ k=6 ∨ k=7 ∨ k=8 ∨ k=9:=by omega
 all_goals decide
theorem aAi {C:List DeR} {c:CeR} (h:∀ d ∈ C,deW d):wfI (bW C c):=by
 cases e:fdC C c with
 | none=>rw [dV e];exact wfS ⟨by decide,by decide⟩
 | some d=>rw [dV e];exact (h d (vI e).1).2
structure ExpS (w wr:World) (g:Nat) (z:Int) (S0:StV) (k:Nat) (s:StR):Prop where
 st:StB w wr g s
 res:Blk wr (w.heap.size+1) 44 (ssA ss0)
 v:s.V=expN z S0 k
theorem ExpS.ext {w wr w':World} {g:Nat} {z:Int} {S0:StV} {k:Nat} {s:StR} (h:ExpS w wr g z S0 k s) (e:Ext wr w'):ExpS w w' g z S0 k s:=⟨h.st.ext e,h.res.ext e,h.v⟩
theorem yG (s0:StR) (z:Int) (w:World) (h:s0.ok w) (hz:wfI z) (hn:s0.n1≤900000∧s0.n2≤1000000∧s0.n3≤1000000∧s0.n4≤1000000):Calls Tryz.prog 43 #[.agg (ssA s0),.int .i64 z] w (lZ w (aFH z s0.V)):=by
 have HS0:=zh h
 have HZ:=zh hz
 obtain ⟨W,hW⟩:∃ W,((w.alloc (.cells (ssA s0) 44)).alloc (.cells #[.slice none 0 0,.slice none 0 0,.slice none 0 0,.slice none 0 0,.int .i64 0] 44))=W:=⟨_,rfl⟩
 have HB:=zh (show Blk W w.heap.size 44 (ssA s0) from by rw [← hW];exact (Blk.new w 44 (ssA s0)).alloc _)
 have HD:=zh (show Blk W (w.heap.size+1) 44 (ssA ss0) from by rw [← hW];exact Blk.newAt _ _ _ _ (by simp))
 have HE:=zh (show Ext w W from by rw [← hW];exact ((Ext.refl w).alloc' _).alloc' _)
 have HN:=zh hn
 obtain ⟨q0,q1,q2,q3,q4⟩:=aE HB.out
 clear h hn hz
 go_enter Tryz.func43,Tryz.ntmps43
 go_upto_region 2 with (first | (go_at_call 51;refine (cR s0 W (HS0.out.ext HE.out) ⟨by have:=HN.out;omega,HN.out.2⟩).mono ?_;rintro e w5 ⟨s1,rfl,ho1,hv1,he1⟩;have HB1:=zh (HB.out.ext he1);have HD1:=zh (HD.out.ext he1);have HO1:=zh (bJ ho1 HE.out.size);have HV1:=zh hv1;have HX1:=zh (HE.out.trans he1);clear ho1 hv1 he1) | ((with_reducible refine aK rfl (.tmp 2) (.tmp 8) rfl w.heap.size s1 rfl rfl HB1.out ?_);intro W2 h2))
 have HA0:=zh (show ExpS w W2 w.heap.size z s0.V 0 s1 from by
  rw [← h2.out]
  exact ⟨StB.start HO1.out HB1.out HX1.out (Nat.le_refl _),HD1.out.grown (aC _ _ _ _) (fun e=>by injection e;omega),HV1.out⟩)
 clear h2 HB1 HD1 HO1 HV1 HX1 HB HD q0 q1 q2 q3 q4 hW HE
 go_wp2_with fail
 go_loopw [9] (fun vi wr=>∃ (k:Nat) (s:StR),vi=.int .i64 (k:Int)∧k≤10∧Hid (ExpS w wr w.heap.size z s0.V k s)) (fun i _=>10 - (intOf i).toNat)
 case atStart=>exact ⟨0,s1,rfl,Nat.zero_le _,HA0⟩
 case round =>
  clear HA0
  obtain ⟨k,s,rfl,hk,HA⟩:=hrel
  by_cases hlt:k < 10
  ·have i0 : (0 : Int) ≤ (k : Int) := by omega
   have i1:(k:Int) < 10:=by omega
   have i2:(k:Int)≤64:=by omega
   have HLT:=zh hlt
   obtain ⟨q0,q1,q2,q3,q4⟩:=aE HA.out.st.blk
   go_upto_region 6 with fail
   have HBK:=zh (show wrap64 (2 ^ k)=(2:Int) ^ k from by
    rw [← xK];exact gT (zY (by omega)))
   obtain ⟨B,hB⟩:∃ B:Int,wrap64 (2 ^ k)=B:=⟨_,rfl⟩
   rw [hB] at HBK ⊢
   have HP1:=zh (show (2:Int) ^ k ≠ 0 from Int.ne_of_gt (Int.pow_pos (by decide)))
   have HB1:=zh (show bits .and .i64 z B=if iV z k=true then 2 ^ k else 0 from by rw [HBK.out];exact lQ z (by omega))
   have HB2:=zh (show bits .and .i64 s.G B=if iV s.G k=true then 2 ^ k else 0 from by rw [HBK.out];exact lQ s.G (by omega))
   have HB3:=zh (show bits .or .i64 s.G B=xJ s.G k from by rw [HBK.out];exact aCw HA.out.st.own.g (by omega))
   clear hB
   by_cases c1:iV z k=true
   ·have b1 : (bits .and .i64 z B != 0) = true := by rw [HB1.out, if_pos c1]; exact bne_iff_ne.2 HP1.out
    by_cases c2:iV s.G k=true
    ·have b2 : (bits .and .i64 s.G B == 0) = false := by rw [HB2.out, if_pos c2]; exact beq_false_of_ne HP1.out
     have HF:=zh (show ExpS w wr w.heap.size z s0.V (k+1) s from ⟨HA.out.st,HA.out.res,by
      rw [jG,← HA.out.v];unfold sD;rw [if_neg (fun h=>by have:=h.2;rw [show s.V.G=s.G from rfl,c2] at this;cases this)]⟩)
     clear c1 c2
     go_wp2_with fail
     go_roundw
     case rel=>exact ⟨k+1,s,by go_num,hlt,HF⟩
     case measure=>simp [intOf];omega
    have b2:(bits .and .i64 s.G B == 0)=true:=by rw [HB2.out,if_neg c2];rfl
    have HC1:=zh c1
    have HC2:=zh c2
    clear c1 c2
    go_upto_region 7 with fail
    clear b1 b2
    have HAW:=zh (HA.out.ext ((Ext.refl wr).drew'))
    have HCE:=zh (show ceW (cK (k:Int)) from fO (k:=3) (i:=(k:Int)) (wfS ⟨by omega,by omega⟩) (wfS ⟨by omega,by omega⟩))
    have HCP:=zh (show ceW bU from fO (k:=4) (i:=0) (wfS ⟨by omega,by omega⟩) (wfS ⟨by omega,by omega⟩))
    have HGW:=zh (show wfI (bW s.C (cK (k:Int))) from aAi HA.out.st.own.k1)
    have HBD:=zh (show s.n1≤1000000∧s.n2≤1000000∧s.n3≤1000000∧s.n4≤1000000 from by
     have hv:=HA.out.v
     have h5:=HN.out
     have l1:=HA.out.st.own.l1
     have l2:=HA.out.st.own.l2
     have l3:=HA.out.st.own.l3
     have l4:=HA.out.st.own.l4
     have m1:=HS0.out.s1.len
     have m2:=HS0.out.s2.len
     have m3:=HS0.out.s3.len
     have m4:=HS0.out.s4.len
     have e1:s.C=(expN z s0.V k).C:=congrArg StV.C hv
     have e2:s.Q=s0.Q:=(congrArg StV.Q hv).trans (aAt z s0.V k).1
     have e3:s.K=s0.K:=(congrArg StV.K hv).trans (aJt z s0.V k)
     have e4:s.P=s0.P:=(congrArg StV.P hv).trans (aAt z s0.V k).2
     have e5:=aEt z s0.V k
     rw [e1] at l1;rw [e2] at l2;rw [e3] at l3;rw [e4] at l4
     have e6:s0.V.C=s0.C:=rfl
     rw [e6] at e5
     omega)
    clear q0 q1 q2 q3 q4
    refine wp_region_held_drew (S:=fun _=>True) (by kernel_rfl) (trivial) (fun aA=>?_)
    refine zzr [1,5] ?_
    refine zzj (VE 0 (.agg (ssA s)) (VE 2 (.agg (ceA (cK (k:Int)))) (VE 3 (.agg (ceA bU)) (VE 4 (.agg (ssA s)) (VE 6 (.agg (ceA (cK (k:Int)))) (VE 7 (.int .i64 (bW s.C (cK (k:Int)))) (VV 8 (fun v V=>∃ A n c,v=.slice A n c∧SlG V A n c (dQ (cK (k:Int)) bU (bW s.C (cK (k:Int))))) (VV 9 (fun v V=>∃ s2,v=.agg (ssA s2)∧OwnS V w.heap.size s2∧s2.V=⟨addL s.C (dQ (cK (k:Int)) bU (bW s.C (cK (k:Int)))),s.Q,s.K,s.P,s.G⟩) VN)))))))) [(0,some 25),(2,some 27),(3,some 28),(4,some 29),(6,some 31),(7,some 32),(8,some 33),(9,some 34)] 1 (fun _ _ h _=>h) (ve (ve (ve (ve (ve (ve (VV.ext (fun v w w' ⟨A,n,c,h1,h2⟩ e=>⟨A,n,c,h1,h2.ext e⟩) (VV.ext (fun v w w' ⟨s2,h1,h2,h3⟩ e=>⟨s2,h1,h2.ext e,h3⟩) VN.ext)))))))) (zzc ?_ (zzc ?_ (zzc ?_ (zzc ?_ (zzc ?_ (zzc ?_ (zzc ?_ (zzc ?_ zzn)))))))) ?_
    ·refine zzp fun W5 hE hS K hK => ?_
     obtain ⟨q0,q1,q2,q3,q4⟩:=aE (HAW.out.st.blk.ext hE)
     go_simp
     exact zzF hK (.agg (ssA s))
    ·refine zzp fun W5 hE hS K hK => ?_
     go_simp
     go_at_call 80
     refine (qS (k:Int) _).mono ?_
     rintro e w5 ⟨rfl,he5⟩
     exact zzK (hK.out (.agg (ceA (cK (k:Int)))) _ (he5) (rfl))
    ·refine zzp fun W5 hE hS K hK => ?_
     go_simp
     go_at_call 68
     refine (pO _).mono ?_
     rintro e w5 ⟨rfl,he5⟩
     exact zzK (hK.out (.agg (ceA bU)) _ (he5) (rfl))
    ·refine zzp fun W5 hE hS K hK => ?_
     obtain ⟨q0,q1,q2,q3,q4⟩:=aE (HAW.out.st.blk.ext hE)
     go_simp
     exact zzF hK (.agg (ssA s))
    ·refine zzp fun W5 hE hS K hK => ?_
     go_simp
     go_at_call 80
     refine (qS (k:Int) _).mono ?_
     rintro e w5 ⟨rfl,he5⟩
     exact zzK (hK.out (.agg (ceA (cK (k:Int)))) _ (he5) (rfl))
    ·refine zm [(4, some 29), (6, some 31)] fun env W5 hE hS hD K hK => ?_
     obtain ⟨h4,h6,-⟩:=zzV hD
     clear hD
     simp only [aO,h4,h6] at hK ⊢
     clear h4
     clear h6
     go_simp
     go_at_call 67
     refine (gY s (cK (k:Int)) _ (HAW.out.st.own.ok.ext hE) HCE.out).mono ?_
     rintro e w5 ⟨rfl,he5⟩
     exact zzK (hK.out (.int .i64 (bW s.C (cK (k:Int)))) _ (he5) (rfl))
    ·refine zm [(2, some 27), (3, some 28), (7, some 32)] fun env W5 hE hS hD K hK => ?_
     obtain ⟨h2,h3,h7,-⟩:=zzV hD
     clear hD
     simp only [aO,h2,h3,h7] at hK ⊢
     clear h2
     clear h3
     clear h7
     go_simp
     go_at_call 69
     refine (iQ (cK (k:Int)) bU (bW s.C (cK (k:Int))) _ HCE.out HCP.out HGW.out).mono ?_
     rintro e w5 ⟨A5,n5,c5,rfl,hs5,he5⟩
     exact zzK (hK.out (.slice A5 n5 c5) _ (he5) (⟨A5,n5,c5,rfl,hs5⟩))
    ·refine zm [(0, some 25), (8, some 33)] fun env W5 hE hS hD K hK => ?_
     obtain ⟨h0,h8,-⟩:=zzV hD
     clear hD
     simp only [aO,h0] at hK ⊢
     clear h0
     generalize env 8=x8 at h8 hK ⊢
     obtain ⟨A8,n8,c8,rfl,hs8⟩:=h8
     go_simp
     go_at_call 54
     refine (kS s A8 n8 c8 (dQ (cK (k:Int)) bU (bW s.C (cK (k:Int)))) _ (HAW.out.st.own.ok.ext hE) hs8 ⟨by rw [← hs8.len];show 2≤100000;omega,HBD.out⟩).mono ?_
     rintro e w5 ⟨s2,rfl,ho2,hv2,he5⟩
     exact zzK (hK.out (.agg (ssA s2)) _ (he5) (⟨s2,rfl,bJ ho2 (Nat.le_trans HAW.out.st.low.size hE.size),hv2⟩))
    intro env W5 hE hS hV
    obtain ⟨h0,h2,h3,h4,h6,h7,h8,h9,-⟩:=zzV hV
    clear hV
    simp only [aO,h0,h2,h3,h4,h6,h7]
    clear h0
    clear h2
    clear h3
    clear h4
    clear h6
    clear h7
    generalize env 8=x8 at h8 ⊢
    generalize env 9=x9 at h9 ⊢
    obtain ⟨A8,n8,c8,rfl,hs8⟩:=h8
    obtain ⟨s2,rfl,ho2,hv2⟩:=h9
    clear hs8
    have aA:=hS
    refine za 10 (fun K hK=>?_)
    (refine bC rfl (.tmp 2) (.tmp 34) (by rfl) w.heap.size (.agg (ssA s2)) s2 rfl (by rfl) (by rfl) (HAW.out.st.blk.ext hE) ?_;intro W6 h6)
    refine hK.out _ _ (trivial) (fun aA=>?_)
    clear hK K
    try simp only [aS]
    refine wpAnyH_done (by kernel_rfl) ?_ _
    have HS2:=zh (show StB w W6 w.heap.size s2 from by rw [← h6.out.1];exact StB.start ho2 (HAW.out.st.blk.ext hE) (HAW.out.st.low.trans hE) (Nat.le_refl _))
    have HR2:=zh (show Blk W6 (w.heap.size+1) 44 (ssA ss0) from by rw [← h6.out.1];exact (HAW.out.res.ext hE).grown (aC _ _ _ _) (fun e=>by injection e;omega))
    have HV2:=zh hv2
    clear h6 ho2 hv2 hE hS aA HAW
    obtain ⟨q0,q1,q2,q3,q4⟩:=aE HS2.out.blk
    have e4:s2.G=s.G:=congrArg StV.G HV2.out
    rw [e4] at q4
    have f4:=HS2.out.blk.frozen 4
    have HST:=zh (HS2.out.guilty (xJ s.G k) (aAT HA.out.st.own.g (by omega)))
    have HF:=zh (show ExpS w (W6.setCell ⟨w.heap.size,4,none⟩ (.int .i64 (xJ s.G k))) w.heap.size z s0.V (k+1) { s2 with G:=xJ s.G k } from ⟨HST.out,HR2.out.far (p:=⟨w.heap.size,4,none⟩) (by simp) _,by
     rw [jG,← HA.out.v];unfold sD
     have c2':iV s.V.G k=false:=by show iV s.G k=false;simpa using HC2.out
     rw [if_pos ⟨HC1.out,c2'⟩]
     have hv:=HV2.out
     unfold StR.V at hv ⊢
     injection hv with e1 e2 e3 e4 e5
     simp only [e1,e2,e3,e4]⟩)
    rw [← HB3.out] at HF
    clear HST HS2 HR2 e4
    go_wp2_with fail
    go_roundw
    case rel=>exact ⟨k+1,_,by go_num,hlt,HF⟩
    case measure=>simp [intOf];omega
   have b1:(bits .and .i64 z B != 0)=false:=by rw [HB1.out,if_neg c1];rfl
   have HF:=zh (show ExpS w wr w.heap.size z s0.V (k+1) s from ⟨HA.out.st,HA.out.res,by
    rw [jG,← HA.out.v];unfold sD;rw [if_neg (fun h=>c1 h.1)]⟩)
   clear c1
   go_wp2_with fail
   go_roundw
   case rel=>exact ⟨k+1,s,by go_num,hlt,HF⟩
   case measure=>simp [intOf];omega
  obtain rfl:k=10:=by omega
  have i1:¬ (10:Int) < 10:=by omega
  obtain ⟨q0,q1,q2,q3,q4⟩:=aE HA.out.st.blk
  go_wp2_with (first | ((with_reducible refine aK rfl (.tmp 4) (.tmp 41) rfl (w.heap.size+1) s rfl rfl HA.out.res ?_);intro W9 h9))
  have hst:Blk W9 (w.heap.size+1) 44 (ssA s):=by rw [← h9.out];exact aR (ds:=ssA s) HA.out.res rfl
  have HOW:=zh (show OwnS W9 w.heap.size s from by
   rw [← h9.out]
   exact HA.out.st.own.kept (aC _ _ _ _) HA.out.res (by decide) (by decide) (by decide) (by decide))
  have HXE:=zh (show Ext w W9 from by rw [← h9.out];exact Below.setCells' HA.out.st.low (Nat.le_succ _) _ _)
  clear h9
  exact bodyPost_ret (v:=.agg (ssA s)) (gB rfl _ _ (w.heap.size+1) _ rfl (run_loadVar_row _ _ _ _ _ (0,0) _ hst Tryz.underlying44 rfl (by kernel_rfl))) rfl ⟨s,rfl,HOW.out,HA.out.v,HXE.out⟩
structure StpR where
 gN:Int
 gZ:Int
 B1:Option Addr
 m1:Nat
 d1:Nat
 B2:Option Addr
 m2:Nat
 d2:Nat
 B3:Option Addr
 m3:Nat
 d3:Nat
 s:StR
 ac:Int
 sq:Int
 A:Option Addr
 n:Nat
 c:Nat
 ht:Int
abbrev stpA (x:StpR):Array Value:=#[.int .i64 x.gN,.int .i64 x.gZ,.slice x.B1 x.m1 x.d1,.slice x.B2 x.m2 x.d2,.slice x.B3 x.m3 x.d3,.slice x.s.A1 x.s.n1 x.s.c1,.slice x.s.A2 x.s.n2 x.s.c2,.slice x.s.A3 x.s.n3 x.s.c3,.slice x.s.A4 x.s.n4 x.s.c4,.int .i64 x.s.G,.int .i64 x.ac,.int .i64 x.sq,.slice x.A x.n x.c,.int .i64 x.ht]
def aJP (x:StpR):List Value:=(stpA x).toList
theorem aGr (x:StpR):∀ u ∈ aJP x,u.oneCell'=true:=by
 intro u hu
 simp only [aJP,List.mem_cons,List.not_mem_nil,or_false] at hu
 rcases hu with rfl | rfl | rfl | rfl | rfl | rfl | rfl | rfl | rfl | rfl | rfl | rfl | rfl | rfl <;> rfl
instance:RowT StpR where
 sz:=14
 z:=⟨0,0,none,0,0,none,0,0,none,0,0,ss0,0,0,none,0,0,0⟩
 enc:=aJP
 ok _ _:=True
 pos:=by decide
 len _:=rfl
 one:=aGr
 ext _ _ _ h _:=h
theorem gP:RowP StpR 86 stpA:=⟨fun _=>rfl,by kernel_rfl,_,Tryz.underlying86,rfl⟩
theorem kP {w:World} {g:Nat} {t:TypeId} {x:StpR} (h:Blk w g t (stpA x)):w.cell? ⟨g,5,none⟩=some (.slice x.s.A1 x.s.n1 x.s.c1)∧w.cell? ⟨g,6,none⟩=some (.slice x.s.A2 x.s.n2 x.s.c2)∧w.cell? ⟨g,7,none⟩=some (.slice x.s.A3 x.s.n3 x.s.c3)∧w.cell? ⟨g,8,none⟩=some (.slice x.s.A4 x.s.n4 x.s.c4)∧w.cell? ⟨g,9,none⟩=some (.int .i64 x.s.G) :=
 ⟨h.cell 5,h.cell 6,h.cell 7,h.cell 8,h.cell 9⟩
theorem aAs (x:StpR) (i:Nat) (w:World) (hi:i≤9):Calls Tryz.prog 97 #[.agg (stpA x),.int .i64 (i:Int)] w fun e w'=>e=.returned (.bool (iV x.s.G i))∧Ext w w':=by
 have HP:=zh (Blk.new w 86 (stpA x))
 have HX:=zh ((Ext.refl w).alloc' (.cells (stpA x) 86))
 have i0:(0:Int)≤(i:Int):=by omega
 have i1:(i:Int)≤64:=by omega
 obtain ⟨B,hB⟩:∃ B:Int,IntKind.i64.wrap (2 ^ i)=B:=⟨_,rfl⟩
 have HBB:=zh hB
 have HB2:=zh (show B=(2:Int) ^ i from by rw [← hB];exact gT (zY hi))
 have HB1:=zh (show (bits .and .i64 x.s.G B != 0)=iV x.s.G i from by
  rw [HB2.out,lQ x.s.G hi]
  by_cases h:iV x.s.G i=true
  ·rw [if_pos h,h];exact bne_iff_ne.2 (Int.ne_of_gt (Int.pow_pos (by decide)))
  rw [if_neg h];simp only [Bool.not_eq_true] at h;rw [h];rfl)
 obtain ⟨b,hb⟩:∃ b,(bits .and .i64 x.s.G B != 0)=b:=⟨_,rfl⟩
 rw [hb] at HB1
 clear hB
 obtain ⟨W,hW⟩:∃ W,w.alloc (.cells (stpA x) 86)=W:=⟨_,rfl⟩
 rw [hW] at HP HX
 go_enter Tryz.func97,Tryz.ntmps97
 go_upto_region 1 with fail
 refine wp_region_held_drew (S:=fun V=>Blk V w.heap.size 86 (stpA x)) (by kernel_rfl) (HP.out.drew) (fun aA=>?_)
 refine zz0 [0,1,2,3] ?_;repeat first | refine zz1 ?_ (hy:=by intro W aM;obtain ⟨q0,q1,q2,q3,q4⟩:=kP aM;go_simp <;> with_reducible rfl) | refine zz2 ?_ | refine zz9 ?_
 refine zu 4 (v:=.int .i64 B) aA ?_ (hy:=by refine .inl ⟨by rfl,fun V _=>?_⟩;rw [← HBB.out];go_simp;try rfl)
 refine zt 5 aA ?_
 refine zu 6 (v:=.bool b) aA ?_ (hy:=by refine .inl ⟨by rfl,fun V _=>?_⟩;rw [← hb];go_simp;try rfl)
 refine zt 7 aA ?_
 refine wpAnyH_done (by kernel_rfl) ?_ _
 have HXX:=zh (HX.out.trans ((Ext.refl _).drew'))
 clear aA
 go_wp2_with fail
 go_ret
 exact ⟨by rw [HB1.out];rfl,HXX.out⟩
theorem rD (x:StpR) (n:Int) (w:World) (hs:x.s.ok w) (hac:wfI x.ac):Calls Tryz.prog 98 #[.agg (stpA x),.int .i64 n] w fun e w'=>e=.returned (.int .i64 (if bW x.s.C (aZ x.ac) < n then 100 else 0))∧Ext w w':=by
 have HS:=zh hs
 have HC:=zh (show ceW (aZ x.ac) from fO (k:=1) (wfS ⟨by omega,by omega⟩) hac)
 have HP:=zh (Blk.new w 86 (stpA x))
 have HX:=zh ((Ext.refl w).alloc' (.cells (stpA x) 86))
 obtain ⟨W,hW⟩:∃ W,w.alloc (.cells (stpA x) 86)=W:=⟨_,rfl⟩
 rw [hW] at HP HX
 clear hs hac
 by_cases hlt:bW x.s.C (aZ x.ac) < n
 ·rw [if_pos hlt]
  go_enter Tryz.func98,Tryz.ntmps98
  go_upto_region 1 with fail
  refine wp_region_held_drew (S:=fun V=>Blk V w.heap.size 86 (stpA x)∧Ext w V) (by kernel_rfl) (⟨HP.out.drew,HX.out.trans ((Ext.refl _).drew')⟩) (fun aA=>?_)
  refine zz0 [0,1,2,3,4,7] ?_;repeat first | refine zz1 ?_ (hy:=by intro W aM;obtain ⟨q0,q1,q2,q3,q4⟩:=kP aM.1;have a0:=aM.1.cell 10;go_simp <;> with_reducible rfl) | refine zz2 ?_ | refine zz9 ?_
  refine zzj (VE 5 (.agg (ceA (aZ x.ac))) (VE 6 (.int .i64 (bW x.s.C (aZ x.ac))) VN)) [(5,some 10),(6,some 11)] 1 (fun V V' h e=>⟨h.1.ext e,h.2.trans e⟩) (ve (ve VN.ext)) (zzc ?_ (zzc ?_ zzn)) ?_
  ·refine zzp fun W hE hS K hK => ?_
   go_simp
   go_at_call 82
   refine (eF x.ac _).mono ?_
   rintro e w5 ⟨rfl,he5⟩
   exact zzK (hK.out (.agg (ceA (aZ x.ac))) _ (he5) (rfl))
  ·refine zm [(5, some 10)] fun env W hE hS hD K hK => ?_
   obtain ⟨h5,-⟩:=zzV hD
   clear hD
   simp only [aO,h5] at hK ⊢
   clear h5
   go_simp
   go_at_call 67
   refine (gY x.s (aZ x.ac) _ (HS.out.ext hS.2) HC.out).mono ?_
   rintro e w5 ⟨rfl,he5⟩
   exact zzK (hK.out (.int .i64 (bW x.s.C (aZ x.ac))) _ (he5) (rfl))
  intro env W hE hS hV
  obtain ⟨h5,h6,-⟩:=zzV hV
  clear hV
  simp only [aO,h5,h6]
  clear h5
  clear h6
  have aA:=hS
  refine zt 8 aA ?_
  refine wpAnyH_done (by kernel_rfl) ?_ _
  have HXX:=zh aA.2
  clear aA hE hS
  go_wp2_with fail
  go_ret
  exact ⟨rfl,HXX.out⟩
 rw [if_neg hlt]
 go_enter Tryz.func98,Tryz.ntmps98
 go_upto_region 1 with fail
 refine wp_region_held_drew (S:=fun V=>Blk V w.heap.size 86 (stpA x)∧Ext w V) (by kernel_rfl) (⟨HP.out.drew,HX.out.trans ((Ext.refl _).drew')⟩) (fun aA=>?_)
 refine zz0 [0,1,2,3,4,7] ?_;repeat first | refine zz1 ?_ (hy:=by intro W aM;obtain ⟨q0,q1,q2,q3,q4⟩:=kP aM.1;have a0:=aM.1.cell 10;go_simp <;> with_reducible rfl) | refine zz2 ?_ | refine zz9 ?_
 refine zzj (VE 5 (.agg (ceA (aZ x.ac))) (VE 6 (.int .i64 (bW x.s.C (aZ x.ac))) VN)) [(5,some 10),(6,some 11)] 1 (fun V V' h e=>⟨h.1.ext e,h.2.trans e⟩) (ve (ve VN.ext)) (zzc ?_ (zzc ?_ zzn)) ?_
 ·refine zzp fun W hE hS K hK => ?_
  go_simp
  go_at_call 82
  refine (eF x.ac _).mono ?_
  rintro e w5 ⟨rfl,he5⟩
  exact zzK (hK.out (.agg (ceA (aZ x.ac))) _ (he5) (rfl))
 ·refine zm [(5, some 10)] fun env W hE hS hD K hK => ?_
  obtain ⟨h5,-⟩:=zzV hD
  clear hD
  simp only [aO,h5] at hK ⊢
  clear h5
  go_simp
  go_at_call 67
  refine (gY x.s (aZ x.ac) _ (HS.out.ext hS.2) HC.out).mono ?_
  rintro e w5 ⟨rfl,he5⟩
  exact zzK (hK.out (.int .i64 (bW x.s.C (aZ x.ac))) _ (he5) (rfl))
 intro env W hE hS hV
 obtain ⟨h5,h6,-⟩:=zzV hV
 clear hV
 simp only [aO,h5,h6]
 clear h5
 clear h6
 have aA:=hS
 refine zt 8 aA ?_
 refine wpAnyH_done (by kernel_rfl) ?_ _
 have HXX:=zh aA.2
 clear aA hE hS
 go_wp2_with fail
 go_ret
 exact ⟨rfl,HXX.out⟩
theorem iD (x:StpR) (R:OpR) (w:World) (hs:x.s.ok w):Calls Tryz.prog 148 #[.agg (stpA x),.agg (opA R)] w fun e w'=>e=.returned (.bool (R.am == bW x.s.C (dS R.lk)))∧Ext w w':=by
 have HS:=zh hs
 have HC:=zh (show ceW (dS R.lk) from fO (k:=2) (i:=0) (wfS ⟨by omega,by omega⟩) (wfS ⟨by omega,by omega⟩))
 obtain ⟨W,hW⟩:∃ W,(w.alloc (.cells (stpA x) 86)).alloc (.cells (opA R) 69)=W:=⟨_,rfl⟩
 have HP:=zh (show Blk W w.heap.size 86 (stpA x) from by rw [← hW];exact (Blk.new w 86 (stpA x)).alloc _)
 have HO:=zh (show Blk W (w.heap.size+1) 69 (opA R) from by rw [← hW];exact Blk.newAt _ _ _ _ (by simp))
 have HX:=zh (show Ext w W from by rw [← hW];exact ((Ext.refl w).alloc' _).alloc' _)
 clear hs
 go_enter Tryz.func148,Tryz.ntmps148
 go_upto_region 1 with fail
 refine wp_region_held_drew (S:=fun V=>Blk V w.heap.size 86 (stpA x)∧Blk V (w.heap.size+1) 69 (opA R)∧Ext w V) (by kernel_rfl) (⟨HP.out.drew,HO.out.drew,HX.out.trans ((Ext.refl _).drew')⟩) (fun aA=>?_)
 refine zz0 [0,1,2,3,4] ?_;repeat first | refine zz1 ?_ (hy:=by intro W aM;obtain ⟨q0,q1,q2,q3,q4⟩:=kP aM.1;have a0:=aM.2.1.cell 2;go_simp <;> with_reducible rfl) | refine zz2 ?_ | refine zz9 ?_
 refine zu 5 (v:=.agg (nmc R.lk)) aA ?_ (hy:=by exact aF nmP (by rfl) (.tmp 9) rfl (w.heap.size+1) 5 rfl R.lk _ rfl (fun V h=>rA h.2.1))
 refine zzj (VE 6 (.agg (ceA (dS R.lk))) (VE 7 (.int .i64 (bW x.s.C (dS R.lk))) VN)) [(6,some 11),(7,some 12)] 2 (fun V V' h e=>⟨h.1.ext e,h.2.1.ext e,h.2.2.trans e⟩) (ve (ve VN.ext)) (zzc ?_ (zzc ?_ zzn)) ?_
 ·refine zzp fun W hE hS K hK => ?_
  go_simp
  go_at_call 83
  refine (lN R.lk _).mono ?_
  rintro e w5 ⟨rfl,he5⟩
  exact zzK (hK.out (.agg (ceA (dS R.lk))) _ (he5) (rfl))
 ·refine zm [(6, some 11)] fun env W hE hS hD K hK => ?_
  obtain ⟨h6,-⟩:=zzV hD
  clear hD
  simp only [aO,h6] at hK ⊢
  clear h6
  go_simp
  go_at_call 67
  refine (gY x.s (dS R.lk) _ (HS.out.ext hS.2.2) HC.out).mono ?_
  rintro e w5 ⟨rfl,he5⟩
  exact zzK (hK.out (.int .i64 (bW x.s.C (dS R.lk))) _ (he5) (rfl))
 intro env W hE hS hV
 obtain ⟨h6,h7,-⟩:=zzV hV
 clear hV
 simp only [aO,h6,h7]
 clear h6
 clear h7
 have aA:=hS
 refine zzr [8,9] ?_
 refine wpAnyH_done (by kernel_rfl) ?_ _
 have HXX:=zh aA.2.2
 clear aA hE hS
 go_wp2_with fail
 go_ret
 exact ⟨rfl,HXX.out⟩
theorem pE (x:StpR) (R:OpR) (w:World) (hs:x.s.ok w):Calls Tryz.prog 147 #[.agg (stpA x),.agg (opA R)] w fun e w'=>e=.returned (.tuple #[.agg (lkA (lkO (fdK x.s.K R.lk))),.int .i64 (if (fdK x.s.K R.lk).isSome=true then 0 else 6)])∧Ext w w':=by
 obtain ⟨W,hW⟩:∃ W,((w.alloc (.cells (stpA x) 86)).alloc (.cells (opA R) 69)).alloc (.cells lk0 94)=W:=⟨_,rfl⟩
 have HP:=zh (show Blk W w.heap.size 86 (stpA x) from by rw [← hW];exact ((Blk.new w 86 (stpA x)).alloc _).alloc _)
 have HO:=zh (show Blk W (w.heap.size+1) 69 (opA R) from by rw [← hW];exact Blk.alloc (Blk.newAt _ _ _ _ (by simp)) _)
 have HR:=zh (show Blk W (w.heap.size+2) 94 lk0 from by rw [← hW];exact Blk.newAt _ _ _ _ (by simp))
 have HX:=zh (show Ext w W from by rw [← hW];exact (((Ext.refl w).alloc' _).alloc' _).alloc' _)
 have HF:=zh (aCS x.s R.lk W (hs.ext HX.out))
 obtain ⟨q0,q1,q2,q3,q4⟩:=kP HP.out
 have r5:W.rangeAt (w.heap.size+1) 5 (RowT.enc R.lk):=rA HO.out
 obtain ⟨l,hl⟩:∃ l,lkO (fdK x.s.K R.lk)=l:=⟨_,rfl⟩
 obtain ⟨b,hb⟩:∃ b,(fdK x.s.K R.lk).isSome=b:=⟨_,rfl⟩
 obtain ⟨v,hv⟩:∃ v,Value.agg (lkA l)=v:=⟨_,rfl⟩
 have HV:=zh hv
 rw [hl,hb,hv] at HF
 rw [hl,hb,hv]
 clear hl hb hv hs
 cases b
 ·go_enter Tryz.func147, Tryz.ntmps147
  go_wp2_with (first | (with_reducible refine aB nmP rfl (.tmp 11) rfl (w.heap.size+1) 5 rfl R.lk _ rfl r5 ?_) | fail "A")
  refine HF.out.mono ?_
  rintro e w5 ⟨rfl,he5⟩
  have HXX:=zh (HX.out.trans he5)
  have HR5:=zh (HR.out.ext he5)
  clear he5 q0 q1 q2 q3 q4 r5
  obtain ⟨X,hX⟩:∃ X,w5.heap.size=X:=⟨_,rfl⟩
  have HXS:=zh hX
  clear hX
  go_upto_region 2 with ((with_reducible refine aP lkP rfl (.tmp 6) (.tmp 14) rfl lk0 rfl l v HV.out rfl rfl ?_);intro W6 h6)
  have HX6:=zh (show Ext w5 W6 from by rw [← h6.out];exact (Ext.refl w5).alloc' _)
  have HB6:=zh (show Blk W6 X 94 (lkA l) from by rw [← h6.out,← HXS.out];exact Blk.new w5 94 (lkA l))
  have HR6:=zh (HR5.out.ext HX6.out)
  have ht:W6.there (w.heap.size+2) 0 (RowT.sz LkR):=aT HR6.out
  have r6:W6.rangeAt X 0 (RowT.enc l):=aD HB6.out
  rw [HXS.out]
  clear h6
  go_wp2_with (first | (with_reducible refine aB lkP rfl (.tmp 6) rfl X 0 rfl l v HV.out r6 ?_) | (with_reducible refine bK lkP rfl (.tmp 4) (.tmp 18) rfl (w.heap.size+2) 0 rfl l v HV.out rfl ht ?_))
  have hst:=aR (ds:=lkA l) HR6.out rfl
  rw [← HV.out]
  exact bodyPost_ret (xS rfl _ _ (w.heap.size+2) _ _ rfl rfl (run_loadVar_row _ _ _ _ _ (0,0) _ hst Tryz.underlying94 rfl (by kernel_rfl))) rfl ⟨rfl,Below.setCells' (HXX.out.trans HX6.out) (by omega) _ _⟩
 go_enter Tryz.func147,Tryz.ntmps147
 go_wp2_with (first | (with_reducible refine aB nmP rfl (.tmp 11) rfl (w.heap.size+1) 5 rfl R.lk _ rfl r5 ?_) | fail "A")
 refine HF.out.mono ?_
 rintro e w5 ⟨rfl,he5⟩
 have HXX:=zh (HX.out.trans he5)
 have HR5:=zh (HR.out.ext he5)
 clear he5 q0 q1 q2 q3 q4 r5
 obtain ⟨X,hX⟩:∃ X,w5.heap.size=X:=⟨_,rfl⟩
 have HXS:=zh hX
 clear hX
 go_upto_region 2 with ((with_reducible refine aP lkP rfl (.tmp 6) (.tmp 14) rfl lk0 rfl l v HV.out rfl rfl ?_);intro W6 h6)
 have HX6:=zh (show Ext w5 W6 from by rw [← h6.out];exact (Ext.refl w5).alloc' _)
 have HB6:=zh (show Blk W6 X 94 (lkA l) from by rw [← h6.out,← HXS.out];exact Blk.new w5 94 (lkA l))
 have HR6:=zh (HR5.out.ext HX6.out)
 have ht:W6.there (w.heap.size+2) 0 (RowT.sz LkR):=aT HR6.out
 have r6:W6.rangeAt X 0 (RowT.enc l):=aD HB6.out
 rw [HXS.out]
 clear h6
 go_wp2_with (first | (with_reducible refine aB lkP rfl (.tmp 6) rfl X 0 rfl l v HV.out r6 ?_) | (with_reducible refine bK lkP rfl (.tmp 4) (.tmp 19) rfl (w.heap.size+2) 0 rfl l v HV.out rfl ht ?_))
 have hst:=aR (ds:=lkA l) HR6.out rfl
 rw [← HV.out]
 exact bodyPost_ret (xS rfl _ _ (w.heap.size+2) _ _ rfl rfl (run_loadVar_row _ _ _ _ _ (0,0) _ hst Tryz.underlying94 rfl (by kernel_rfl))) rfl ⟨rfl,Below.setCells' (HXX.out.trans HX6.out) (by omega) _ _⟩
end
end Go.Proofs.YtohmmcahpakokaaGreat
