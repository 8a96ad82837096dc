import Derived.Test.YtgmnmjeccfnmbaaGreatE18
import Derived.Test.YtgmnmjeccfnmbaaGreatE19
set_option maxRecDepth 100000
set_option maxHeartbeats 8000000
set_option linter.unusedVariables false
set_option linter.unusedSimpArgs false
namespace Go.Proofs.YtgmnmjeccfnmbaaGreat
theorem tf {p:Prop} (h:p:=by
 have HSL:=zh (show SlG W8 s1.A1 s1.n1 s1.c1 s1.C from HS8.out.own.ok.s1)
 have hkn:k≤s1.n1:=HKN.out
 have hnc:s1.n1≤s1.c1:=HSL.out.le
 have hcm:s1.c1≤9223372036854775807:=HSL.out.cap
 have hn9:=HBD.out
 have z0:(0:Int)≤(k:Int):=aa
 have z1:(k:Int)≤(s1.n1:Int):=aa
 have z2:(k:Int)≤(s1.c1:Int):=aa
 have z3:(s1.n1:Int)≤(s1.c1:Int):=aa
 have q9:W8.cell? ⟨w.heap.size,0,none⟩=some (.slice s1.A1 s1.n1 s1.c1):=HS8.out.blk.cell 0
 go_upto_region 14 with (first | ((with_reducible refine jH (size:=11) rfl rfl tC ?_);intro A5 W5 h5;have HO5:=zh h5.out.1;have HX5:=zh h5.out.2;have HU5:=zh ((HSL.out.ext h5.out.2).upto hkn (Nat.le_trans hkn hnc) hcm);have HL5:=zh (show (gcs (s1.C.take k)).length=k * 11 from jh);have q9:W5.cell? ⟨w.heap.size,0,none⟩=some (.slice s1.A1 s1.n1 s1.c1):=(HS8.out.blk.ext h5.out.2).cell 0) | (at_builtin;go_must (refine iH deE rfl (.tmp 70) (.tmp 74) rfl W8.heap.size A5 rfl HO5.out s1.A1 k s1.c1 (gcs (s1.C.take k)) rfl HU5.out.rd HL5.out (bP _) aa aa HX5.out.size ?_;intro A6 c6 W6 ho6 he6)))
 have HO6:=zh ho6
 have HX6:=zh (HX5.out.trans he6)
 have HC6:=zh (HC8.out.ext HX6.out)
 clear ho6 he6 h5 HO5 HX5 HU5 HL5 q9
 have rc:W6.rangeAt (w.heap.size+1) 0 (RowT.enc c):=aC HC6.out
 have HBD2:=zh (fun W=>dR c a W)
 rw [HVC.out] at HBD2
 obtain ⟨vd,hvd⟩:=gx (Value.agg (deA ⟨c,a⟩))
 rw [hvd] at HBD2
 have HVD:=zh hvd
 have HBS:=zh (fun W=>oL (⟨c,a⟩:DeR) W)
 rw [hvd] at HBS
 clear hvd
 go_upto_region 15 with (first | (with_reducible refine aD ceP rfl (.tmp 4) rfl (w.heap.size+1) 0 rfl c vc HVC.out rc ?_) | (with_reducible refine dV rfl (cV (vx:=vc) (vy:=.int .i64 a) (.tmp 77) (.tmp 78) rfl rfl rfl HBD2.out) ?_) | ((with_reducible refine fG (vx:=vd) rfl (.tmp 79) rfl rfl (HBS.out _) ?_);intro g7 W7' h7;have HO7:=zh (bC HO6.out h7.out.2.1);have HZ7:=zh (Nat.le_trans HX6.out.size h7.out.2.1.size);have HRE:=zh (show Rd W7' (some ⟨g7,0,none⟩) (RowT.enc (⟨c,a⟩:DeR)) from Rd.of_blk h7.out.1);have HLE:=zh (show (RowT.enc (⟨c,a⟩:DeR)).length=1 * 11 from ip)) | (at_builtin;go_must (refine bK deE rfl (.tmp 76) (.tmp 80) rfl W8.heap.size A6 k c6 _ rfl HO7.out (some ⟨g7,0,none⟩) 1 1 (RowT.enc (⟨c,a⟩:DeR)) rfl HRE.out HLE.out (RowT.one (⟨c,a⟩:DeR)) aa aa HZ7.out ?_;intro A9 c9 W9 ho9 hg9)))
 have HX9:=zh (show Ext W8 W9 from Below.grown (HX6.out.trans h7.out.2.1) hg9 (HX6.out.trans h7.out.2.1).size (fun q hq=>(World.ownsRow.lt HO7.out q hq).1))
 have HO9:=zh (show W9.ownsRow W8.heap.size 92 11 (.slice A9 (k+1) c9) (k+1) (gcs (s1.C.take k ++ [(⟨c,a⟩:DeR)])) from ga)
 have q9:W9.cell? ⟨w.heap.size,0,none⟩=some (.slice s1.A1 s1.n1 s1.c1):=(HS8.out.blk.ext HX9.out).cell 0
 have HRD:=zh (HSL.out.ext HX9.out).rd
 have HSN:=zh HSL.out.len
 clear h7 ho9 hg9 HO7 HRE HX6 HO6 HC6
 go_upto_region 16 with (first | ((with_reducible refine rH rfl (.tmp 84) (.tmp 85) rfl s1.A1 s1.n1 s1.c1 k rfl rfl hkn hnc ?_);intro A8 h8;have HR8':=zh (show Rd W9 A8 (gcs (s1.C.drop k)) from ci);have HL8:=zh (show (gcs (s1.C.drop k)).length=(s1.n1 - k) * 11 from gq)) | (at_builtin;go_must (refine bK deE rfl (.tmp 82) (.tmp 86) rfl W8.heap.size A9 (k+1) c9 _ rfl HO9.out A8 (s1.n1 - k) (s1.c1 - k) (gcs (s1.C.drop k)) rfl HR8'.out HL8.out (bP _) aa aa HX9.out.size ?_;intro A10 c10 W10 ho10 hg10;have HX10:=zh (show Ext W8 W10 from Below.grown HX9.out hg10 HX9.out.size (fun q hq=>(World.ownsRow.lt HO9.out q hq).1));have q9:W10.cell? ⟨w.heap.size,0,none⟩=some (.slice s1.A1 s1.n1 s1.c1):=(HS8.out.blk.ext HX10.out).cell 0;have f9:=(HS8.out.blk.ext HX10.out).frozen 0)))
 have HO10:=zh (show W10.ownsRow w.heap.size 92 11 (.slice A10 (k+1+(s1.n1 - k)) c10) (k+1+(s1.n1 - k)) (gcs (s1.C.take k ++ (⟨c,a⟩:DeR) :: s1.C.drop k)) from by
  exact Cm)
 have hwf:∀ d ∈ s1.C.take k ++ (⟨c,a⟩:DeR) :: s1.C.drop k,deW d:=(by
  intro d hd
  rcases List.mem_append.1 hd with hd | hd
  ·exact HS8.out.own.k1 d (List.mem_of_mem_take hd)
  rcases List.mem_cons.1 hd with rfl | hd
  ·exact ⟨HCW.out,HAW.out⟩
  exact HS8.out.own.k1 d (List.mem_of_mem_drop hd))
 have HF:=zh (HS8.out.row1 (Ext.grown HX10.out _) HO10.out hwf)
 obtain ⟨WF,hWF⟩:=gx (W10.setCell ⟨w.heap.size,0,none⟩ (.slice A10 (k+1+(s1.n1 - k)) c10))
 rw [hWF] at HF ⊢
 have HRF:=zh (show Blk WF (w.heap.size+2) 30 (ssA ss0) from fo)
 clear hWF ho10 hg10 h8 HR8' HL8 HRD q9 f9 HO9 HX9 HO10 HX10 hwf
 obtain ⟨q0,q1,q2,q3,q4⟩:=aE HF.out.blk
 go_wp2_with ((with_reducible refine aH rfl (.tmp 6) (.tmp 89) rfl (w.heap.size+2) ({ s1 with A1:=A10,n1:=k+1+(s1.n1 - k),c1:=c10,C:=s1.C.take k ++ (⟨c,a⟩:DeR) :: s1.C.drop k }) rfl rfl HRF.out ?_);intro W9 h9)
 exact rtS _ _ HF.out HRF.out aa h9 im):p:=h
open Go.Proofs.Tryz
section
open Go.RowKit
attribute [local go_sem ↓] Go.wp_at_zero Go.wp_at_succ
theorem aCQ (c:CeR) (w:World):(Instr.buildSlice 90 1 #[(0,.agg (ceA c))]).run prog w=.ok (.slice (some ⟨w.heap.size,0,none⟩) 1 1) (w.alloc (.cells (ceA c) 61)):=by kernel_rfl
section
variable {ops:Array Oper} {rest:List Oper} {o:Oper} {a:Act} {w:World} {K:Act→World→Prop} {Q:Exit→Act→World→Prop} {S:World→Prop}
theorem aJn {ty:TypeId} (x:Operand) (ho:o.op=.buildSlice ty 1 #[(0,x)]) {vx v:Value} {w2:World} (hx:a.eval x=vx) (hr:(Instr.buildSlice ty 1 #[(0,vx)]).run prog w=.ok v w2):(execOp a.eval o).run prog w=.ok (.value v) w2:=by
 unfold execOp
 simp only [ho,List.map_toArray,List.map_cons,List.map_nil,hx,Sem.run_bind,hr,Result.andThen_ok,Sem.run_pure]
theorem fG (hgd:o.guard=none) {ty e:TypeId} (x:Operand) (ho:o.op=.buildSlice ty 1 #[(0,x)]) {vx:Value} {cs:Array Value} (hx:a.eval x=vx) (hr:(Instr.buildSlice ty 1 #[(0,vx)]).run prog w=.ok (.slice (some ⟨w.heap.size,0,none⟩) 1 1) (w.alloc (.cells cs e)))
  (h:∀ (g:Nat) (W2:World),Hid (Blk W2 g e cs∧Ext w W2∧w.heap.size≤g)→wpList prog ops Q rest (a.put o.dst (.slice (some ⟨g,0,none⟩) 1 1)) W2):wpList prog ops Q (o :: rest) a w :=
 qB hgd (aJn x ho hx hr) (h _ _ (zh ⟨Blk.new w e cs,(Ext.refl w).alloc' _,Nat.le_refl _⟩))
end
def covD (C:List DeR) (k:Nat):List CeR:=((C.take k).map DeR.c).filter oT
theorem pI {C:List DeR} {k:Nat} (h:k < C.length):covD C (k+1)=if oT (aS C k).c=true then covD C k ++ [(aS C k).c] else covD C k:=by
 unfold covD
 rw [iI h,List.map_append,List.filter_append,List.map_cons,List.map_nil,List.filter_cons,List.filter_nil]
 split
 ·rfl
 rw [List.append_nil]
theorem aJx (C:List DeR):qY iU (covD C C.length)=aKF C:=by unfold covD aKF;rw [List.take_length]
theorem aKG {C:List DeR} {k:Nat} (h:∀ d ∈ C,deW d):∀ c ∈ covD C k,ceW c:=by
 intro c hc
 obtain ⟨h1,-⟩:=List.mem_filter.1 hc
 obtain ⟨d,hd,rfl⟩:=List.mem_map.1 h1
 exact (h d (List.mem_of_mem_take hd)).1
theorem aDQ (C:List DeR) (k:Nat):(covD C k).length≤C.length:=by
 unfold covD
 refine Nat.le_trans (List.length_filter_le _ _) ?_
 rw [List.length_map,List.length_take];omega
theorem aJw (L:List CeR):∀ (C:List DeR),(L.foldl cov1 C).length≤C.length+2 * L.length:=by
 induction L with
 | nil=>intro C;exact Nat.le_refl _
 | cons c r ih =>
  intro C
  rw [List.foldl_cons,List.length_cons]
  have h1:=ih (cov1 C c)
  have h2:(cov1 C c).length≤C.length+2:=by
   unfold cov1;split
   ·omega
   exact mW _ _
  omega
theorem aGZ {w w':World} {base b2:Nat} {s:StR} {A:Option Addr} {n c:Nat} {xs:List Value} (h:OwnS w base s) (ho:w.ownsRow b2 61 10 (.slice A n c) n xs) (hg:w.grownBy w' (Value.ownBlock (.slice A n c))):OwnS w' base s :=
 ⟨h.o1.kept hg (eF h.o1 ho (by decide)),h.o2.kept hg (eF h.o2 ho (by decide)),h.o3.kept hg (eF h.o3 ho (by decide)),h.o4.kept hg (eF h.o4 ho (by decide)),h.k1,h.k2,h.k3,h.g⟩
structure CvA (w wr:World) (s:StR) (k:Nat) (A:Option Addr) (n c:Nat):Prop where
 blk:Blk wr w.heap.size 30 (ssA s)
 res:Blk wr (w.heap.size+1) 30 (ssA ss0)
 own:wr.ownsRow w.heap.size 61 10 (.slice A n c) n (gcs (covD s.C k))
 low:Ext w wr
structure CvB (w wr:World) (V0:StV) (A:Option Addr) (n c:Nat) (L:List CeR) (k:Nat) (s:StR):Prop where
 st:StB w wr w.heap.size s
 res:Blk wr (w.heap.size+1) 30 (ssA ss0)
 row:wr.ownsRow w.heap.size 61 10 (.slice A n c) n (gcs L)
 v:s.V=⟨(L.take k).foldl cov1 V0.C,V0.Q,V0.K,V0.P,V0.G⟩
theorem CvB.ext {w wr w':World} {V0:StV} {A:Option Addr} {n c:Nat} {L:List CeR} {k:Nat} {s:StR} (h:CvB w wr V0 A n c L k s) (e:Ext wr w'):CvB w w' V0 A n c L k s:=⟨h.st.ext e,h.res.ext e,bC h.row e,h.v⟩
theorem CvB.bd {w wr w':World} {s0:StR} {A:Option Addr} {n c:Nat} {L:List CeR} {k:Nat} {s:StR} (h:CvB w wr s0.V A n c L k s) (h0:s0.ok w') (hL:L.length≤200000) (hn:s0.n1≤200000∧s0.n2≤200000∧s0.n3≤200000∧s0.n4≤200000):s.n1≤1000000∧s.n2≤1000000∧s.n3≤1000000∧s.n4≤1000000:=by
 have e1:s.C=_:=congrArg StV.C h.v
 have e2:s.Q=s0.Q:=congrArg StV.Q h.v
 have e3:s.K=s0.K:=congrArg StV.K h.v
 have e4:s.P=s0.P:=congrArg StV.P h.v
 have m1:=h.st.own.l1
 have m2:=h.st.own.l2
 have m3:=h.st.own.l3
 have m4:=h.st.own.l4
 have l1:=h0.s1.len
 have l2:=h0.s2.len
 have l3:=h0.s3.len
 have l4:=h0.s4.len
 rw [e1] at m1;rw [e2] at m2;rw [e3] at m3;rw [e4] at m4
 have h5:=aJw (L.take k) s0.V.C
 have e6:s0.V.C=s0.C:=rfl
 have h8:(L.take k).length≤200000:=Nat.le_trans py hL
 rw [e6] at h5
 rw [e6] at m1
 generalize (List.foldl cov1 s0.C (List.take k L)).length=z at *
 generalize (List.take k L).length=y at *
 omega
theorem yK {L:List CeR} {k:Nat} (h:k < L.length) (C:List DeR):(L.take (k+1)).foldl cov1 C=cov1 ((L.take k).foldl cov1 C) (aS L k):=by
 rw [iI h,List.foldl_append];rfl
theorem aHG (s0:StR) (w:World) (h:s0.ok w) (hn:s0.n1≤200000∧s0.n2≤200000∧s0.n3≤200000∧s0.n4≤200000):Calls prog 16 #[.agg (ssA s0)] w (jB w (aKE s0.V)):=by
 have HS0:=zh h
 have HN:=zh hn
 have HLEN:=zh h.s1.len
 have hle:=h.s1.le
 have hcap:=h.s1.cap
 have hn1:=hn.1
 have HKW:=zh (show ∀ d ∈ s0.C,deW d from fun d hd=>h.s1.ok d hd)
 obtain ⟨W,hW⟩:=gx ((w.alloc (.cells (ssA s0) 30)).alloc (.cells #[.slice none 0 0,.slice none 0 0,.slice none 0 0,.slice none 0 0,.int .i64 0] 30))
 have HB:=zh (show Blk W w.heap.size 30 (ssA s0) from ge)
 have HR:=zh (show Blk W (w.heap.size+1) 30 (ssA ss0) from ag)
 have HE:=zh (show Ext w W from ai)
 have HWS:=zh (show w.heap.size+2≤W.heap.size from kf)
 obtain ⟨q0,q1,q2,q3,q4⟩:=aE HB.out
 clear h hn
 go_enter func16,ntmps16
 go_wp2_with fail
 have HA0:=zh (show CvA w W s0 0 none 0 0 from ⟨HB.out,HR.out,World.ownsRow_nil _ _ _ _,HE.out⟩)
 obtain ⟨A1,hA1⟩:=gx (s0.A1)
 rw [hA1]
 have HA1:=zh hA1
 clear hA1 q0 q1 q2 q3 q4 HB HR HE HWS hW
 go_loopw [3,15] (fun vc vi wr=>∃ (k:Nat) (A:Option Addr) (n c:Nat),vc=.slice A n c∧vi=.int .i64 (k:Int)∧k≤s0.n1∧Hid (CvA w wr s0 k A n c)) (fun _ i _=>s0.n1 - (intOf i).toNat)
 case atStart=>exact ⟨0,none,0,0,rfl,rfl,Nat.zero_le _,HA0⟩
 case round =>
  clear HA0
  obtain ⟨k,A,n,c,rfl,rfl,hk,HA⟩:=hrel
  by_cases hlt:k < s0.n1
  ·have i0 : (0 : Int) ≤ (k : Int) := aa
   have i1:(k:Int) < (s0.n1:Int):=aa
   obtain ⟨d,hd⟩:=gx (aS s0.C k)
   obtain ⟨b,o,hab,hrow,-⟩:=(HS0.out.ext HA.out.low).s1.at aa
   rw [HA1.out] at hab
   subst hab
   have hr:wr.rangeAt b (o+k * 11) (RowT.enc d):=by rw [← hd];exact cN hrow ak
   have HDD:=zh hd
   obtain ⟨vd,hvd⟩:=gx (Value.agg (deA d))
   obtain ⟨vc,hvc⟩:=gx (Value.agg (ceA d.c))
   have HVD:=zh hvd
   have HVC:=zh hvc
   have HBC:=zh (fun W=>aCQ d.c W)
   rw [hvc] at HBC
   obtain ⟨X,hX⟩:=gx (wr.heap.size)
   have HXS:=zh hX
   have HLC:=zh (show (RowT.enc d.c).length=1 * 10 from rfl)
   have HNB:=zh (show n≤200000 from by
    have h1:(covD s0.C k).length=n:=OwnG.len (e:=61) HA.out.own
    have h2:=aDQ s0.C k
    rw [HLEN.out] at h2;omega)
   have hnb:=HNB.out
   clear hd hvd hvc hX hrow
   go_upto_region 5 with (first | (with_reducible refine aD deP rfl (.tmp 17) rfl b (o+k * 11) rfl d vd HVD.out hr ?_) | ((with_reducible refine aU deP rfl (.tmp 5) (.tmp 18) rfl de0 rfl d vd HVD.out rfl rfl ?_);intro W4 h4))
   have HXX:=zh (show Ext wr W4 from eh)
   have HD:=zh (show Blk W4 X 92 (deA d) from nz)
   have x0:W4.cell? ⟨X,0,none⟩=some (.int .i64 d.c.k):=HD.out.cell 0
   have HB4:=zh (HA.out.blk.ext HXX.out)
   have HR4:=zh (HA.out.res.ext HXX.out)
   have HO4:=zh (bC HA.out.own HXX.out)
   have HX4:=zh (HA.out.low.trans HXX.out)
   have HZ4:=zh HX4.out.size
   rw [HXS.out]
   clear h4 hr HA HXX
   by_cases hk1:d.c.k=1
   ·have HKK := zh hk1
    have b1:(d.c.k == 1)=true:=mq
    have e1:decide (d.c.k=1)=true:=mq
    have b2:(d.c.k == 2)=false:=mq
    have e2:decide (d.c.k=2)=false:=mq
    have b3:(d.c.k == 3)=false:=mq
    have e3:decide (d.c.k=3)=false:=mq
    clear hk1
    exact Af
   by_cases hk2:d.c.k=2
   ·have HKK := zh hk2
    have b1:(d.c.k == 1)=false:=mp
    have e1:decide (d.c.k=1)=false:=mp
    have b2:(d.c.k == 2)=true:=mp
    have e2:decide (d.c.k=2)=true:=mp
    have b3:(d.c.k == 3)=false:=mp
    have e3:decide (d.c.k=3)=false:=mp
    clear hk2
    exact Af
   by_cases hk3:d.c.k=3
   ·have HKK := zh hk3
    have b1:(d.c.k == 1)=false:=mo
    have e1:decide (d.c.k=1)=false:=mo
    have b2:(d.c.k == 2)=false:=mo
    have e2:decide (d.c.k=2)=false:=mo
    have b3:(d.c.k == 3)=true:=mo
    have e3:decide (d.c.k=3)=true:=mo
    clear hk3
    exact Af
   have HK1:=zh (show covD s0.C (k+1)=covD s0.C k from by rw [pI ak,HDD.out,if_neg (show ¬ oT d.c=true from by unfold oT;rw [decide_eq_true_eq];omega)])
   have b1:(d.c.k == 1)=false:=beq_eq_false_iff_ne.2 hk1
   have b2:(d.c.k == 2)=false:=beq_eq_false_iff_ne.2 hk2
   have b3:(d.c.k == 3)=false:=beq_eq_false_iff_ne.2 hk3
   have e1:decide (d.c.k=1)=false:=decide_eq_false hk1
   have e2:decide (d.c.k=2)=false:=decide_eq_false hk2
   have e3:decide (d.c.k=3)=false:=decide_eq_false hk3
   have HF:=zh (show CvA w W4 s0 (k+1) A n c from ⟨HB4.out,HR4.out,by rw [HK1.out];exact HO4.out,HX4.out⟩)
   clear hk1 hk2 hk3
   go_wp2_with fail
   go_roundw
   case rel=>exact ⟨k+1,A,n,c,rfl,ar,hlt,HF⟩
   case measure=>simp [intOf];omega
  obtain rfl:k=s0.n1:=aa
  have i1:¬ (s0.n1:Int) < (s0.n1:Int):=aa
  obtain ⟨h1,h2⟩:=eI HA.out.own
  have hlen:(covD s0.C s0.n1).length=n:=OwnG.len (e:=61) HA.out.own
  have hnb:n≤200000:=by
   have h3:=aDQ s0.C s0.n1
   rw [HLEN.out] at h3;omega
  have HNB:=zh hnb
  have HCA:=zh (And.intro h1 h2)
  obtain ⟨D,hD⟩:∃ D:Array CeR,(covD s0.C s0.n1).toArray=D:=⟨_,rfl⟩
  have hDl:D.toList=covD s0.C s0.n1:=by rw [← hD]
  have HDL:=zh hDl
  have HD0:=zh (show RowS wr wr w.heap.size 61 A n c D from RowS.start (by rw [hDl];exact HA.out.own) (fun x hx=>by rw [hDl] at hx;exact aKG HKW.out x hx) ae)
  have HDS:=zh (show D.size=n from by rw [← hD];simpa using hlen)
  clear hD hDl hlen h1 h2
  go_wp2_with fail
  refine (aEA wr wr w.heap.size A n c D HD0.out aa).mono ?_
  rintro e w5 ⟨rfl,d',hd',hp,hs⟩
  have HB5:=zh (show Blk w5 w.heap.size 30 (ssA s0) from HA.out.blk.grown hd'.gr (aL HA.out.own HA.out.blk ae))
  have HR5:=zh (show Blk w5 (w.heap.size+1) 30 (ssA ss0) from HA.out.res.grown hd'.gr (aL HA.out.own HA.out.res ae))
  have HX5:=zh (show Ext w w5 from Below.grown HA.out.low hd'.gr HA.out.low.size (fun k hk=>(World.ownsRow.lt HA.out.own k hk).1))
  have HO5:=zh hd'.own
  have HOW5:=zh hd'.ow
  have HPM:=zh hp
  have HSO:=zh hs
  obtain ⟨q0,q1,q2,q3,q4⟩:=aE HB5.out
  clear HA hd' hp hs HD0
  go_wp2_with fail
  refine (dH s0 _ (HS0.out.ext HX5.out) du).mono ?_
  rintro e w6 ⟨s1,rfl,ho1,hv1,he6⟩
  have HB6:=zh (HB5.out.ext he6)
  have HR6:=zh (HR5.out.ext he6)
  have HX6:=zh (HX5.out.trans he6)
  have HO6:=zh (bC HO5.out he6)
  have HO1:=zh (bO ho1 HX5.out.size)
  have HV1:=zh hv1
  clear ho1 hv1 he6 q0 q1 q2 q3 q4 HB5 HR5 HX5 HO5
  go_upto_region 11 with ((with_reducible refine aH rfl (.tmp 1) (.tmp 41) rfl w.heap.size s1 rfl rfl HB6.out ?_);intro W7 h7)
  have HS7:=zh (show StB w W7 w.heap.size s1 from by rw [← h7.out];exact StB.start HO1.out HB6.out HX6.out (Nat.le_refl _))
  have HR7:=zh (show Blk W7 (w.heap.size+1) 30 (ssA ss0) from by rw [← h7.out];exact HR6.out.grown (aB _ _ _ _) (fun e=>dq))
  have HO7:=zh (show W7.ownsRow w.heap.size 61 10 (.slice A n c) n (gcs d'.toList) from by rw [← h7.out];exact World.ownsRow.kept HO6.out (aB _ _ _ _) (.inr (Ne.symm (aL HO6.out HB6.out ae))))
  clear h7 HB6 HR6 HX6 HO6 HO1
  have HD7:=zh (show RowS W7 W7 w.heap.size 61 A n c d' from RowS.start HO7.out (fun x hx=>HOW5.out x hx) ae)
  go_wp2_with fail
  refine (aAi W7 W7 w.heap.size A n c d' HD7.out aa HCA.out.1 HCA.out.2).mono ?_
  rintro e w8 ⟨m,d2,rfl,hm,hd2,hval⟩
  obtain ⟨L,hL⟩:=gx (d2.toList)
  have HLC:=zh (show L=aKF s0.C from by
   have h1:=vL (V:=ceV) (lt0:=iU) sE (fun x y=>rfl) HDS.out HPM.out HSO.out
   rw [← hval,hL,HDL.out] at h1
   have h2:L.map ceV=L:=List.map_id L
   have h3:(covD s0.C s0.n1).map ceV=covD s0.C s0.n1:=List.map_id _
   rw [h2,h3,← HLEN.out] at h1
   rw [h1];exact aJx s0.C)
  have HLL:=zh (show L.length=m from by rw [← hL];have:=RowS.size hd2;simpa using this)
  have HLW:=zh (show ∀ c ∈ L,ceW c from fun c hc=>hd2.ow c (by rw [hL];exact hc))
  have HA0:=zh (show CvB w w8 s0.V A m c L 0 s1 from by
   have hg:W7.grownBy w8 (Value.ownBlock (.slice A n c)):=by cases A <;> exact hd2.gr
   refine ⟨⟨HS7.out.blk.grown hg (aL HO7.out HS7.out.blk ae),aGZ HS7.out.own HO7.out hg,Below.grown HS7.out.low hg HS7.out.low.size (fun k hk=>(World.ownsRow.lt HO7.out k hk).1),Nat.le_refl _⟩,HR7.out.grown hg (aL HO7.out HR7.out ae),by rw [← hL];exact hd2.own,HV1.out⟩)
  have hmb:m≤200000:=Nat.le_trans hm hnb
  clear hd2 hval hL HD7 HO7 HS7 HR7 HOW5 HPM HSO hm
  go_wp2_with fail
  go_loopw [45] (fun vi wr=>∃ (k:Nat) (s:StR),vi=.int .i64 (k:Int)∧k≤m∧Hid (CvB w wr s0.V A m c L k s)) (fun i _=>m - (intOf i).toNat)
  case atStart=>exact ⟨0,s1,rfl,Nat.zero_le _,HA0⟩
  case round =>
   clear HA0
   obtain ⟨k,s,rfl,hk,HA⟩:=hrel
   by_cases hlt2:k < m
   ·have i0 : (0 : Int) ≤ (k : Int) := aa
    have i1:(k:Int) < (m:Int):=aa
    obtain ⟨cc,hcc⟩:=gx (aS L k)
    obtain ⟨g,hab,-,hrow⟩:=cM HA.out.row aa
    subst hab
    have hKL:k < L.length:=by rw [HLL.out];exact hlt2
    have HKL:=zh hKL
    have hr:wr.rangeAt g (k * 10) (RowT.enc cc):=by
     have h1:=cN (L:=L) (k:=k) hrow hKL
     rw [Nat.zero_add,hcc] at h1
     exact h1
    have HCC:=zh hcc
    have HCW:=zh (show ceW cc from by rw [← hcc];exact HLW.out _ (lF hKL))
    have HCP:=zh (show ceW cA from dP (k:=4) (i:=0) (wfS ⟨aa,aa⟩) (wfS ⟨aa,aa⟩))
    obtain ⟨vc,hvc⟩:=gx (Value.agg (ceA cc))
    have HVC:=zh hvc
    obtain ⟨X,hX⟩:=gx (wr.heap.size)
    have HXS:=zh hX
    have HBD:=zh (HA.out.bd HS0.out (by rw [HLL.out];omega) HN.out)
    have hkw:∀ d ∈ s.C,deW d:=HA.out.st.own.k1
    obtain ⟨hv,hhv⟩:=gx (cX s.C cA)
    obtain ⟨nv,hnv⟩:=gx (cX s.C cc)
    have HHV:=zh hhv
    have HNV:=zh hnv
    have w1:oU hv:=by rw [← hhv];exact fU.1 (vS hkw)
    have w2:oU nv:=by rw [← hnv];exact fU.1 (vS hkw)
    unfold oU at w1 w2
    have HW1:=zh w1
    have HW2:=zh w2
    clear hcc hvc hX hrow hkw hKL w1 w2
    go_upto_region 14 with (first | (with_reducible refine aD ceP rfl (.tmp 47) rfl g (k * 10) rfl cc vc HVC.out hr ?_) | ((with_reducible refine aU ceP rfl (.tmp 8) (.tmp 48) rfl ce0 rfl cc vc HVC.out rfl rfl ?_);intro W4 h4))
    have HX4:=zh (show Ext wr W4 from eh)
    have HD:=zh (show Blk W4 X 61 (ceA cc) from by rw [← h4.out,← HXS.out];exact Blk.new wr 61 (ceA cc))
    have HA4:=zh (HA.out.ext HX4.out)
    rw [HXS.out]
    have HG1:=zh (fun (V:World) (e:Ext W4 V)=>jJ s cA V (HA4.out.st.own.ok.ext e) HCP.out)
    have HG2:=zh (fun (V:World) (e:Ext W4 V)=>jJ s cc V (HA4.out.st.own.ok.ext e) HCW.out)
    rw [hhv] at HG1
    rw [hnv,HVC.out] at HG2
    clear h4 hr HA HX4 hhv hnv
    refine wp_region_held_drew (S:=fun V=>Blk V w.heap.size 30 (ssA s)∧Blk V X 61 (ceA cc)∧Ext W4 V) ab (⟨HA4.out.st.blk.drew,HD.out.drew,(Ext.refl _).drew'⟩) (fun aA=>?_)
    refine zz0 [0,3] ?_;repeat first | refine zz1 ?_ (hy:=by intro W aP;obtain ⟨q0,q1,q2,q3,q4⟩:=aE aP.1;go_simp <;> with_reducible rfl) | refine zz2 ?_ | refine zz9 ?_
    refine zu 4 (v:=vc) aA ?_ (hy:=by exact aG ceP dp (.tmp 8) dp X 0 dp cc vc HVC.out (fun V h=>aC h.2.1))
    refine zzj (VE 1 (.agg (ceA cA)) (VE 2 (.int .i64 hv) (VE 5 (.int .i64 nv) VN))) [(1,some 50),(2,some 51),(5,some 54)] 2 (fun V V' h e=>⟨h.1.ext e,h.2.1.ext e,h.2.2.trans e⟩) (ve (ve (ve VN.ext))) (zzc ?_ (zzc ?_ (zzc ?_ zzn))) ?_
    ·refine zzp fun W hE hS K hK => ?_
     exact Ch
    ·refine zm [(1, some 50)] fun env W hE hS hD K hK => ?_
     obtain ⟨h1,-⟩:=zzV hD
     clear hD
     simp only [aR,h1] at hK ⊢
     clear h1
     go_simp
     go_at_call 54
     refine zcl (HG1.out _ hS.2.2) fun w5 he5=>?_
     exact zzK (hK.out (.int .i64 hv) _ (he5) (rfl))
    ·refine zzp fun W hE hS K hK => ?_
     go_simp
     go_at_call 54
     refine zcl (HG2.out _ hS.2.2) fun w5 he5=>?_
     exact zzK (hK.out (.int .i64 nv) _ (he5) (rfl))
    intro env W hE hS hV
    obtain ⟨h1,h2,h5,-⟩:=zzV hV
    clear hV
    simp only [aR,h1,h2,h5]
    clear h1 h2 h5
    have aA:=hS
    refine zzr [6,7] ?_
    refine wpd ?_
    obtain ⟨w5,hw5⟩:=gx (W)
    subst hw5
    have HA5:=zh (HA4.out.ext aA.2.2)
    have HD5:=zh aA.2.1
    have HVC5:=zh (show s.C=(L.take k).foldl cov1 s0.V.C from congrArg StV.C HA5.out.v)
    have HVS:=zh (show ∀ X9:List DeR,(⟨X9,s.V.Q,s.V.K,s.V.P,s.V.G⟩:StV)=⟨X9,s0.V.Q,s0.V.K,s0.V.P,s0.V.G⟩ from fun X9=>by rw [show s.V=_ from HA5.out.v])
    clear aA hE hS HA4 HD HG1 HG2
    by_cases hsk:hv≤0 ∨ 0≤nv
    ·have HF:=zh (show CvB w W s0.V (some ⟨g,0,none⟩) m c L (k+1) s from ⟨HA5.out.st,HA5.out.res,HA5.out.row,by
      rw [yK HKL.out,HCC.out,← HVC5.out,show cov1 s.C cc=s.C from if_pos (by rw [HHV.out,HNV.out];exact hsk)]
      exact (show s.V=(⟨s.C,s.V.Q,s.V.K,s.V.P,s.V.G⟩:StV) from rfl).trans (HVS.out s.C)⟩)
     by_cases h1:hv≤0
     ·exact BO
     have h2:0≤nv:=aa
     exact BO
    have h1:¬ hv≤0:=fun h=>hsk (.inl h)
    have h2:¬ 0≤nv:=fun h=>hsk (.inr h)
    clear hsk
    have e1:wrap64 (-hv)=-hv:=by rw [← rB];exact kT (by have:=HW1.out;unfold oU;omega)
    by_cases h3:-hv < nv
    ·have e2 : wrap64 (-nv) = -nv := by rw [← rB]; exact kT (by have := HW1.out; have := HW2.out; unfold oU; omega)
     go_upto_region 19 with fail
     try rw [e2]
     obtain ⟨pd,hpd⟩:∃ pd:Int,-nv=pd:=⟨_,rfl⟩
     have HPW:=zh (show wfI pd from by rw [← hpd];exact fU.2 (by have:=HW1.out;have:=HW2.out;unfold oU;omega))
     exact te
    go_upto_region 19 with fail
    try rw [e2]
    obtain ⟨pd,hpd⟩:∃ pd:Int,hv=pd:=⟨_,rfl⟩
    have HPW:=zh (show wfI pd from by rw [← hpd];exact fU.2 (by have:=HW1.out;unfold oU;omega))
    exact te
   obtain rfl:m=k:=aa
   have i1:¬ (m:Int) < (m:Int):=aa
   obtain ⟨q0,q1,q2,q3,q4⟩:=aE HA.out.st.blk
   have HVF:=zh (show s.V=aKE s0.V from by
    rw [HA.out.v,← HLL.out,List.take_length,HLC.out];rfl)
   go_wp2_with ((with_reducible refine aH rfl (.tmp 2) (.tmp 75) rfl (w.heap.size+1) s rfl rfl HA.out.res ?_);intro W9 h9)
   have hst:Blk W9 (w.heap.size+1) 30 (ssA s):=jm
   have HOW:=zh (show OwnS W9 w.heap.size s from by
    exact CP)
   have HXE:=zh (show Ext w W9 from by rw [← h9.out];exact Below.setCells' HA.out.st.low aa _ _)
   clear h9
   exact bodyPost_ret (v:=.agg (ssA s)) (fP rfl _ _ (w.heap.size+1) _ rfl (run_loadVar_row _ _ _ _ _ (0,0) _ hst underlying30 rfl ab)) rfl ⟨s,rfl,HOW.out,HVF.out,HXE.out⟩
theorem mM (s0:StR) (c:CeR) (a:Int) (w:World) (h:s0.ok w) (hc:ceW c) (ha:wfI a) (hn:s0.n1≤1000000∧s0.n2≤1000000∧s0.n3≤1000000∧s0.n4≤1000000):Calls prog 17 #[.agg (ssA s0),.agg (ceA c),.int .i64 a] w (jB w ⟨eB s0.C c a,s0.Q,s0.K,s0.P,s0.G⟩):=by
 obtain ⟨W,hW,HB,HC,HR,HE⟩:=en2 w s0 (ceA c) 61
 obtain ⟨q0,q1,q2,q3,q4⟩:=aE HB.out
 have HS0:=zh h
 have HN:=zh hn
 clear h hn
 have HCW:=zh hc
 have HAW:=zh ha
 clear hc ha
 go_enter func17,ntmps17
 go_wp2_with fail
 refine (iK s0 W (HS0.out.ext HE.out) du).mono ?_
 rintro e w5 ⟨s1,rfl,ho1,hv1,he5⟩
 clear q0 q1 q2 q3 q4
 go_upto_region 2 with ((with_reducible refine aH rfl (.tmp 3) (.tmp 11) rfl w.heap.size s1 rfl rfl (HB.out.ext he5) ?_);intro W7 h7)
 obtain ⟨HS7,hk7,HBD⟩:=cpS HS0 du HB HE ho1 hv1 he5 h7
 have HC7:=zh (hk7 _ _ _ HC.out aa)
 have HR7:=zh (hk7 _ _ _ HR.out aa)
 have HV1:=zh hv1
 clear hk7 h7 ho1 hv1 he5 HB HC HR HE
 have HL1:=zh HS7.out.own.l1
 obtain ⟨vc,hvc⟩:=gx (Value.agg (ceA c))
 have HVC:=zh hvc
 obtain ⟨q0,q1,q2,q3,q4⟩:=aE HS7.out.blk
 have rc:W7.rangeAt (w.heap.size+1) 0 (RowT.enc c):=aC HC7.out
 have HAT:=zh (aFW s1 c W7 HS7.out.own.ok HCW.out)
 rw [hvc] at HAT
 clear hvc
 go_wp2_with (with_reducible refine aD ceP rfl (.tmp 4) rfl (w.heap.size+1) 0 rfl c vc HVC.out rc ?_)
 refine HAT.out.mono ?_
 rintro e W0 ⟨r,rfl,hr,he0⟩
 have HX0:=zh he0
 clear q0 q1 q2 q3 q4 rc HAT he0
 rcases hr with ⟨rfl,hno⟩ | ⟨k,rfl,hk,h1,h2⟩
 ·have HNO := zh (vW hno)
  clear hno
  by_cases ha0:a=0
  ·subst ha0
   have HS8:=zh (HS7.out.ext HX0.out)
   have HRF:=zh (HR7.out.ext HX0.out)
   have HF:=HS8
   have HSP:=zh (show s1.V=⟨eB s0.C c 0,s0.Q,s0.K,s0.P,s0.G⟩ from by
    have e:s1.V=s0.V:=HV1.out
    have e1:s1.C=s0.C:=congrArg StV.C e
    have h1:eB s1.C c 0=s1.C:=by unfold eB;rw [HNO.out];rfl
    rw [← e1,h1,e1]
    exact e)
   go_upto_region 9 with fail
   obtain ⟨q0,q1,q2,q3,q4⟩:=aE HF.out.blk
   go_wp2_with ((with_reducible refine aH rfl (.tmp 6) (.tmp 51) rfl (w.heap.size+2) (s1) rfl rfl HRF.out ?_);intro W9 h9)
   exact rtS _ _ HF.out HRF.out aa h9 (HSP.out)
  have HA0:=zh ha0
  have hn9:s1.n1≤1000000:=HBD.out.1
  have b0:(a == 0)=false:=beq_eq_false_iff_ne.2 ha0
  have b1:decide (a=0)=false:=decide_eq_false ha0
  clear ha0
  have HXW0:=HX0
  go_wp2_with fail
  clear b0 b1
  go_loopw [8] (fun vi wr=>∃ k:Nat,vi=.int .i64 (k:Int)∧k≤s1.n1∧Hid (∀ j,j < k→iU c (aS s1.C j).c=false)∧Hid (Ext W7 wr)) (fun i _=>s1.n1 - (intOf i).toNat)
  case atStart=>exact ⟨0,rfl,Nat.zero_le _,zh (fun j hj=>absurd hj (Nat.not_lt_zero _)),HXW0⟩
  case round =>
   obtain ⟨k,rfl,hk,HPJ,HXW⟩:=hrel
   have HKN:=zh hk
   clear HX0 HXW0
   by_cases hlt:k < s1.n1
   ·have i0 : (0 : Int) ≤ (k : Int) := aa
    have i1:(k:Int) < (s1.n1:Int):=aa
    obtain ⟨d,hd⟩:=gx (aS s1.C k)
    obtain ⟨bb,hab,-,hrow⟩:=cM HS7.out.own.o1 (show 0 < s1.n1 by omega)
    have HAB:=zh hab
    have HDR:=zh (fun (V:World) (e:Ext W7 V)=>show V.rangeAt bb (k * 11) (RowT.enc d.c) from by
     rw [← hd]
     obtain ⟨b2,e2,-,hr2⟩:=cM (bC HS7.out.own.o1 e) (show 0 < s1.n1 by omega)
     rw [HAB.out] at e2
     injection e2 with e3
     injection e3 with e4
     subst e4
     have h1:=cN (k:=k) hr2 ma
     rw [Nat.zero_add] at h1
     exact aQ (k:=10) h1)
    obtain ⟨vd,hvd⟩:=gx (Value.agg (ceA d.c))
    have HVD:=zh hvd
    have HCMP:=zh (fun V=>aAa d.c c V)
    rw [hvd,HVC.out] at HCMP
    have HDK:=zh hd
    cases hb:iU c d.c with
    | false =>
     have b1:lJ d.c c≤0:=by
      have:=yM d.c c
      rw [hb,decide_eq_false_iff_not] at this
      omega
     have HPN:=zh (show iU c (aS s1.C k).c=false from fx)
     clear hab hrow hd hvd hb
     go_upto_region 11 with fail
     refine wp_region_held_drew (S:=fun V=>Blk V w.heap.size 30 (ssA s1)∧Blk V (w.heap.size+1) 61 (ceA c)∧Ext W7 V) ab (⟨(HS7.out.blk.ext HXW.out).drew,(HC7.out.ext HXW.out).drew,HXW.out.trans ((Ext.refl _).drew')⟩) (fun aA=>?_)
     refine zz0 [0,1,2,3,4,5,6,7,8,9,10] ?_;repeat first | refine zz1 ?_ (hy:=bw) | refine zz2 ?_ | refine zz9 ?_
     refine zu 11 (v:=vd) aA ?_ (hy:=ke)
     refine zu 12 (v:=vc) aA ?_ (hy:=ks)
     refine za 13 (fun K hK=>?_)
     (go_simp;go_at_call 58;refine (HCMP.out _).mono ?_;rintro e w8 ⟨rfl,he8⟩)
     refine hK.out _ _ (⟨aA.1.ext he8,aA.2.1.ext he8,aA.2.2.trans he8⟩) (fun aA=>?_)
     clear hK K
     try simp only [bB]
     refine zzr [14,15] ?_
     refine wpd ?_
     have HX8:=zh aA.2.2
     clear aA HVD HCMP HDR HAB
     exact BZ
    | true =>
     have b1:¬ lJ d.c c≤0:=by
      have:=yM d.c c
      rw [hb,decide_eq_true_eq] at this
      omega
     have HPK:=zh (show k < s1.n1→iU c (aS s1.C k).c=true from fun _=>fx)
     clear hab hrow hd hvd hb
     go_upto_region 11 with fail
     refine wp_region_held_drew (S:=fun V=>Blk V w.heap.size 30 (ssA s1)∧Blk V (w.heap.size+1) 61 (ceA c)∧Ext W7 V) ab (⟨(HS7.out.blk.ext HXW.out).drew,(HC7.out.ext HXW.out).drew,HXW.out.trans ((Ext.refl _).drew')⟩) (fun aA=>?_)
     refine zz0 [0,1,2,3,4,5,6,7,8,9,10] ?_;repeat first | refine zz1 ?_ (hy:=bw) | refine zz2 ?_ | refine zz9 ?_
     refine zu 11 (v:=vd) aA ?_ (hy:=ke)
     refine zu 12 (v:=vc) aA ?_ (hy:=ks)
     refine za 13 (fun K hK=>?_)
     (go_simp;go_at_call 58;refine (HCMP.out _).mono ?_;rintro e w8 ⟨rfl,he8⟩)
     refine hK.out _ _ (⟨aA.1.ext he8,aA.2.1.ext he8,aA.2.2.trans he8⟩) (fun aA=>?_)
     clear hK K
     try simp only [bB]
     refine zzr [14,15] ?_
     refine wpd ?_
     have HX8:=zh aA.2.2
     clear aA HVD HCMP HDR HAB
     go_upto_region 13 with fail
     obtain ⟨W8,hW8⟩:∃ W8,W8=w8:=⟨_,rfl⟩
     subst hW8
     have HS8:=zh (HS7.out.ext HX8.out)
     have HC8:=zh (HC7.out.ext HX8.out)
     have HR8:=zh (HR7.out.ext HX8.out)
     have HSP:=zh (show (⟨s1.C.take k ++ (⟨c,a⟩:DeR) :: s1.C.drop k,s1.Q,s1.K,s1.P,s1.G⟩:StV)=⟨eB s0.C c a,s0.Q,s0.K,s0.P,s0.G⟩ from by
      exact Am)
     clear b1 i0 i1
     exact tf
   have i1:¬ (k:Int) < (s1.n1:Int):=aa
   have HPK:=zh (show k < s1.n1→iU c (aS s1.C k).c=true from fun h=>absurd h hlt)
   go_upto_region 11 with fail
   refine wp_region_held_drew (S:=fun V=>Blk V w.heap.size 30 (ssA s1)∧Blk V (w.heap.size+1) 61 (ceA c)∧Ext W7 V) ab (⟨(HS7.out.blk.ext HXW.out).drew,(HC7.out.ext HXW.out).drew,HXW.out.trans ((Ext.refl _).drew')⟩) (fun aA=>?_)
   refine zz0 [0,1,2,3,4,5] ?_;repeat first | refine zz1 ?_ (hy:=by intro W aP;have q9:W.cell? ⟨w.heap.size,0,none⟩=some (.slice s1.A1 s1.n1 s1.c1):=aP.1.cell 0;go_simp <;> with_reducible rfl) | refine zz2 ?_ | refine zz9 ?_
   (refine zs 6 aA ?_)
   (refine zs 7 aA ?_)
   (refine zs 8 aA ?_)
   (refine zs 9 aA ?_)
   (refine zs 10 aA ?_)
   (refine zs 11 aA ?_)
   (refine zs 12 aA ?_)
   (refine zs 13 aA ?_)
   (refine zs 14 aA ?_)
   refine zt 15 aA ?_
   refine wpd ?_
   have HX8:=zh aA.2.2
   clear aA
   go_upto_region 13 with fail
   obtain ⟨W8,hW8⟩:=gx (wr.drew)
   rw [hW8] at HX8 ⊢
   clear hW8
   have HS8:=zh (HS7.out.ext HX8.out)
   have HC8:=zh (HC7.out.ext HX8.out)
   have HR8:=zh (HR7.out.ext HX8.out)
   have HSP:=zh (show (⟨s1.C.take k ++ (⟨c,a⟩:DeR) :: s1.C.drop k,s1.Q,s1.K,s1.P,s1.G⟩:StV)=⟨eB s0.C c a,s0.Q,s0.K,s0.P,s0.G⟩ from by
    exact Am)
   clear i1
   exact tf
 obtain ⟨d,hd⟩:=gx (aS s1.C k)
 have HDK:=zh hd
 have hkn:k < s1.n1:=by rw [← HL1.out];exact hk
 have HKN:=zh hkn
 have HH1:=zh h1
 have HH2:=zh h2
 have HS8:=zh (HS7.out.ext HX0.out)
 have HR8:=zh (HR7.out.ext HX0.out)
 obtain ⟨bb,hab,-,hrow⟩:=cM HS8.out.own.o1 (show 0 < s1.n1 by omega)
 have HAB:=zh hab
 have HAM:=zh (fun (V:World) (e:Ext W0 V)=>show V.cell? ⟨bb,k * 11+10,none⟩=some (.int .i64 d.a) from by
  rw [← hd]
  obtain ⟨b2,e2,-,hr2⟩:=cM (bC HS8.out.own.o1 e) (show 0 < s1.n1 by omega)
  rw [HAB.out] at e2
  injection e2 with e3
  injection e3 with e4
  subst e4
  have h1:=cN (k:=k) hr2 hk
  rw [Nat.zero_add] at h1
  exact h1 10 _ rfl)
 have HFZ:=zh (fun (V:World) (e:Ext W0 V)=>show V.frozen? ⟨bb,k * 11+10,none⟩=false from by
  have h5:=bC HS8.out.own.o1 e
  rw [HAB.out] at h5
  exact h5.frozenAt _)
 have hb5:W0.ownsRow w.heap.size 92 11 (.slice (some ⟨bb,0,none⟩) s1.n1 s1.c1) s1.n1 (gcs s1.C):=by have:=HS8.out.own.o1;rwa [hab] at this
 have HN1:=zh (show w.heap.size ≠ bb from fun e=>aL hb5 HS8.out.blk ae gp)
 have HN2:=zh (show w.heap.size+2 ≠ bb from fun e=>aL hb5 HR8.out ae gp)
 obtain ⟨zq,hzq⟩:=gx (wrap64 (d.a+a))
 have HZQ:=zh hzq
 have HZW:=zh (show wr (d.a+a)=zq from by rw [← hzq];exact rB _)
 have i0:(0:Int)≤(k:Int):=aa
 have i1:(k:Int) < (s1.n1:Int):=aa
 clear hd hk h1 h2 hab hrow hb5 hzq
 go_upto_region 4 with fail
 refine wp_region_held_drew (S:=fun V=>Blk V w.heap.size 30 (ssA s1)∧Blk V (w.heap.size+2) 30 (ssA ss0)) ab (⟨(HS8.out.blk).drew,HR8.out.drew⟩) (fun aA=>?_)
 refine zz0 [0,1,2,3,4,5,6,7,9] ?_;repeat first | refine zz1 ?_ (hy:=bw) | refine zz2 ?_ | refine zz9 ?_
 refine zzj (VE 8 (.int .i64 d.a) VN) [(8,some 25)] 4 (fun V V' h e=>⟨h.1.ext e,h.2.ext e⟩) (ve VN.ext) (zzc ?_ zzn) ?_
 ·refine zzp fun W hE hS K hK => ?_
  have c9:=HAM.out W (((Ext.refl _).drew').trans hE)
  go_simp
  exact zzF hK (.int .i64 d.a)
 intro env W hE hS hV
 obtain ⟨h8,-⟩:=zzV hV
 clear hV
 simp only [aR,h8]
 clear h8
 have aA:=hS
 refine zu 10 (v:=.int .i64 zq) aA ?_ (hy:=by refine .inl ⟨dp,fun V _=>?_⟩;rw [← HZW.out];go_simp;try rfl)
 refine zzr [11,12] ?_
 refine za 13 (fun K hK=>?_)
 (have c9:=HAM.out W (((Ext.refl _).drew').trans hE);have f9:=HFZ.out W (((Ext.refl _).drew').trans hE);go_simp)
 refine hK.out _ _ (⟨aA.1.far (p:=⟨bb,k * 11+10,none⟩) HN1.out _,aA.2.far (p:=⟨bb,k * 11+10,none⟩) HN2.out _⟩) (fun aA=>?_)
 clear hK K
 try simp only [bB]
 refine wpd ?_
 have HE9:=zh (((Ext.refl W0).drew').trans hE)
 obtain ⟨s2,hs2⟩:∃ s2:StR,{ s1 with C:=s1.C.set k ⟨d.c,zq⟩ }=s2:=⟨_,rfl⟩
 have HS9:=zh (show StB w (W.setCell ⟨bb,k * 11+10,none⟩ (.int .i64 zq)) w.heap.size s2 from by
  rw [← hs2]
  have hkl:k < s1.C.length:=cp
  refine (HS8.out.ext HE9.out).cell1 HAB.out (k * 11+10) (.int .i64 zq) (by rw [aBJ zq hkl,HDK.out]) (fun x hx=>?_)
  rcases List.mem_or_eq_of_mem_set hx with hx | rfl
  ·exact HS8.out.own.k1 x hx
  exact ⟨(HS8.out.own.k1 d (by rw [← HDK.out];exact lF hkl)).1,by rw [← HZW.out];exact fU.2 (aFG _)⟩)
 have HR9:=zh aA.2
 have HC9:=zh (show (W.setCell ⟨bb,k * 11+10,none⟩ (.int .i64 zq)).cell? ⟨bb,k * 11+10,none⟩=some (.int .i64 zq) from by
  have h5:=HS9.out.own.o1
  obtain ⟨b2,e2,-,hr2⟩:=cM h5 (show 0 < s2.n1 by rw [← hs2];show 0 < s1.n1;have:=HKN.out;omega)
  have e5:s2.A1=some ⟨bb,0,none⟩:=by rw [← hs2];exact HAB.out
  rw [e5] at e2
  injection e2 with e3
  injection e3 with e4
  subst e4
  have h1:=cN (k:=k) hr2 (by rw [← hs2];show k < (s1.C.set k _).length;rw [List.length_set,HL1.out];exact HKN.out)
  rw [Nat.zero_add] at h1
  have h2:aS s2.C k=⟨d.c,zq⟩:=by rw [← hs2];show (s1.C.set k ⟨d.c,zq⟩).getD k _=_;rw [List.getD_eq_getElem?_getD,List.getElem?_set_self cp];rfl
  rw [h2] at h1
  exact h1 10 _ rfl)
 have HSC:=zh (show s2.A1=some ⟨bb,0,none⟩∧s2.n1=s1.n1∧s2.C=s1.C.set k ⟨d.c,zq⟩∧s2.n2=s1.n2∧s2.n3=s1.n3∧s2.n4=s1.n4∧s2.Q=s1.Q∧s2.K=s1.K∧s2.P=s1.P∧s2.G=s1.G from by rw [← hs2];exact ⟨HAB.out,rfl,rfl,rfl,rfl,rfl,rfl,rfl,rfl,rfl⟩)
 have HAD0:=zh (show eB s1.C c a=yX c zq s1.C from by
  unfold eB
  rw [sJ cp HH1.out HH2.out,HDK.out]
  simp only
  rw [HZW.out])
 have HST:=zh (aBh (c:=c) zq (C:=s1.C) (k:=k) cp HH1.out HH2.out)
 obtain ⟨W9,hW9⟩:=gx (W.setCell ⟨bb,k * 11+10,none⟩ (.int .i64 zq))
 rw [hW9] at HS9 HR9 HC9 ⊢
 have HKN2:=zh (show k < s2.n1 from by rw [HSC.out.2.1];exact HKN.out)
 have HAB2:=HAB
 clear HAB
 have HAB:=zh HSC.out.1
 have HBD1:=HBD
 clear HBD
 have HBD:=zh (show s2.n1≤1000000∧s2.n2≤1000000∧s2.n3≤1000000∧s2.n4≤1000000 from by
  rw [HSC.out.2.1,HSC.out.2.2.2.1,HSC.out.2.2.2.2.1,HSC.out.2.2.2.2.2.1];exact HBD1.out)
 have HVE:=zh (show ∀ X:List DeR,(⟨X,s2.Q,s2.K,s2.P,s2.G⟩:StV)=⟨X,s0.Q,s0.K,s0.P,s0.G⟩ from fun X=>by
  obtain ⟨-,-,-,-,-,-,e2,e3,e4,e5⟩:=HSC.out
  have e:s1.V=s0.V:=HV1.out
  rw [e2,e3,e4,e5,show s1.Q=s0.Q from congrArg StV.Q e,show s1.K=s0.K from congrArg StV.K e,show s1.P=s0.P from congrArg StV.P e,show s1.G=s0.G from congrArg StV.G e])
 have HC1:=zh (show s1.C=s0.C from congrArg StV.C HV1.out)
 have q9:W9.cell? ⟨w.heap.size,0,none⟩=some (.slice (some ⟨bb,0,none⟩) s2.n1 s2.c1):=by rw [← HAB.out];exact HS9.out.blk.cell 0
 have c9:=HC9.out
 have i2:(k:Int) < (s2.n1:Int):=by have:=HKN2.out;omega
 clear hs2 hW9 aA hE hS i1
 by_cases hz:zq=0
 ·have HSP:=zh (show (⟨s2.C.take k ++ s2.C.drop (k+1),s2.Q,s2.K,s2.P,s2.G⟩:StV)=⟨eB s0.C c a,s0.Q,s0.K,s0.P,s0.G⟩ from by
   rw [HVE.out,← HC1.out,HAD0.out,HST.out,if_pos hz,HSC.out.2.2.1,List.take_set_of_le (Nat.le_refl _),List.drop_set_of_lt aa])
  have b0:(zq == 0)=true:=beq_iff_eq.2 hz
  have b1:decide (zq=0)=true:=decide_eq_true hz
  clear hz HST HAD0
  go_upto_region 6 with fail
  clear q9 c9 b0 b1 i2
  have HS8b:=HS9
  have HR8b:=HR9
  have HSD:=zh (HS8b.out.ext ((Ext.refl W9).drew'))
  have HRS:=zh (HR8b.out.ext ((Ext.refl W9).drew'))
  have HKI:=zh (show k < s2.n1 from HKN2.out)
  have HBI:=zh HBD.out
  obtain ⟨ad,had⟩:∃ ad:Addr,(if s2.c1=k+1 then ⟨bb,0,none⟩ else (⟨bb,(k+1) * 11,none⟩:Addr))=ad:=⟨_,rfl⟩
  have HAD:=zh had
  have z0:(0:Int)≤(k:Int):=aa
  have hz9:k < s2.n1:=HKN2.out
  have hzc:s2.n1≤s2.c1:=(eI HSD.out.own.o1).1
  have z1:(k:Int)≤(s2.n1:Int):=aa
  have z2:(k:Int)≤(s2.c1:Int):=aa
  have z3:(s2.n1:Int)≤(s2.c1:Int):=aa
  have HZC:=zh hzc
  have HAD2:=zh (show (if s2.c1=k+1 then (some ⟨bb,0,none⟩:Option Addr) else Option.map (fun x:Addr=>x.add ((k+1) * 11)) (some (⟨bb,0,none⟩:Addr)))=some ad from by
   exact Cz)
  clear had hzc hz9
  refine wp_region_held_drew (S:=fun _=>True) ab (trivial) (fun aA=>?_)
  refine zzr [0,2,4,6] ?_
  refine zu 7 (v:=.int .i64 ((k+1:Nat):Int)) aA ?_ (hy:=lq)
  refine cC (VV 1 (fun v V=>v=.slice (some ⟨bb,0,none⟩) s2.n1 s2.c1) (VV 3 (fun v V=>v=.slice (some ⟨bb,0,none⟩) k s2.c1) (VV 5 (fun v V=>v=.slice (some ⟨bb,0,none⟩) s2.n1 s2.c1) (VV 8 (fun v V=>v=.slice (some ad) (s2.n1 - (k+1)) (s2.c1 - (k+1))) (VN))))) [(1,some 38),(3,some 40),(5,some 42),(8,some 45)] (fuel:=3) ab ab (fun _ _ h _=>h) (VV.ext (fun v w w' h e=>h) (VV.ext (fun v w w' h e=>h) (VV.ext (fun v w w' h e=>h) (VV.ext (fun v w w' h e=>h) (VN.ext))))) aA ?hm4 rfl ?hr4
  case hm4 =>
   refine Members.cons ?mm4_1 (Members.cons ?mm4_3 (Members.cons ?mm4_5 (Members.cons ?mm4_8 (Members.nil _))))
   case mm4_1 =>
    exact Bs
   case mm4_3 =>
    refine zm [(1,some 38)] (fun env W hE hS hD K hK=>?_)
    have h1:(fun v V=>v=.slice (some ⟨bb,0,none⟩) s2.n1 s2.c1) (env 1) W:=hD (1,some 38) dr
    clear hD
    try simp only [aR] at hK ⊢
    generalize env 1=x1 at h1 hK ⊢
    subst h1
    go_simp
    have hk:=hK.out (.slice (some ⟨bb,0,none⟩) k s2.c1) _ (Ext.refl _) (rfl)
    try simp only [aR] at hk
    exact hk
   case mm4_5 =>
    exact Bs
   case mm4_8 =>
    refine zm [(5,some 42)] (fun env W hE hS hD K hK=>?_)
    have h5:(fun v V=>v=.slice (some ⟨bb,0,none⟩) s2.n1 s2.c1) (env 5) W:=hD (5,some 42) dr
    clear hD
    try simp only [aR] at hK ⊢
    generalize env 5=x5 at h5 hK ⊢
    subst h5
    refine jF (aDK (.tmp 42) (.tmp 44) rfl (some ⟨bb,0,none⟩) s2.n1 s2.c1 (k+1) dp dp HKI.out HZC.out (some ad) HAD2.out) ?_
    have hk:=hK.out (.slice (some ad) (s2.n1 - (k+1)) (s2.c1 - (k+1))) _ (Ext.refl _) (rfl)
    try simp only [aR] at hk
    exact hk
  case hr4 =>
   intro env W hE hS hV
   have h1:(fun v V=>v=.slice (some ⟨bb,0,none⟩) s2.n1 s2.c1) (env 1) W:=hV (1,some 38) dr
   have h3:(fun v V=>v=.slice (some ⟨bb,0,none⟩) k s2.c1) (env 3) W:=hV (3,some 40) dr
   have h5:(fun v V=>v=.slice (some ⟨bb,0,none⟩) s2.n1 s2.c1) (env 5) W:=hV (5,some 42) dr
   have h8:(fun v V=>v=.slice (some ad) (s2.n1 - (k+1)) (s2.c1 - (k+1))) (env 8) W:=hV (8,some 45) dr
   clear hV
   try simp only [aR]
   generalize env 1=x1 at h1 ⊢
   generalize env 3=x3 at h3 ⊢
   generalize env 5=x5 at h5 ⊢
   generalize env 8=x8 at h8 ⊢
   subst h1
   subst h3
   subst h5
   subst h8
   have hW:W.ownsRow w.heap.size 92 11 (.slice (some ⟨bb,0,none⟩) s2.n1 s2.c1) s2.n1 (gcs s2.C):=by have:=(HSD.out.ext hE).own.o1;rwa [HAB.out] at this
   obtain ⟨W1,hrun,ho1,hg1⟩:=aFT deE rfl hW HKI.out (by have:=HBI.out;omega) ad HAD.out
   have HRUN:=zh hrun
   have HG1:=zh (show W.grownBy W1 (Value.ownBlock (.slice s2.A1 s2.n1 s2.c1)) from by rw [HAB.out];exact hg1)
   have HO1:=zh ho1
   have hb1:=(HSD.out.ext hE).blk.grown HG1.out (aL (HSD.out.ext hE).own.o1 (HSD.out.ext hE).blk ae)
   have HQ1:=zh (show W1.cell? ⟨w.heap.size,0,none⟩=some (.slice (some ⟨bb,0,none⟩) s2.n1 s2.c1) from by rw [← HAB.out];exact hb1.cell 0)
   have HF1:=zh (hb1.frozen 0)
   have HRD1:=zh ((HRS.out.ext hE).grown HG1.out (aL (HSD.out.ext hE).own.o1 (HRS.out.ext hE) ae))
   clear hW hrun ho1 hg1 hb1
   have aA:=hS
   refine za 9 (fun K hK=>?_)
   (refine lO rfl (.tmp 40) (.tmp 45) rfl (.slice (some ⟨bb,0,none⟩) k s2.c1) (.slice (some ad) (s2.n1 - (k+1)) (s2.c1 - (k+1))) dp dp _ _ (HRUN.out _) ?_)
   refine hK.out _ _ (trivial) (fun aA=>?_)
   clear hK K
   try simp only [bB]
   refine zt 10 aA ?_
   refine za 11 (fun K hK=>?_)
   (have q9:=HQ1.out;have f9:=HF1.out;go_simp)
   refine hK.out _ _ (trivial) (fun aA=>?_)
   clear hK K
   try simp only [bB]
   refine wpd ?_
   obtain ⟨WF,hWF⟩:=gx (W1.setCell ⟨w.heap.size,0,none⟩ (.slice (some ⟨bb,0,none⟩) (s2.n1 - 1) s2.c1))
   have HF:=zh (show StB w WF w.heap.size ({ s2 with A1:=some ⟨bb,0,none⟩,n1:=s2.n1 - 1,c1:=s2.c1,C:=s2.C.take k ++ s2.C.drop (k+1) }) from by rw [← hWF];exact (HSD.out.ext hE).row1 HG1.out HO1.out (fun d hd=>HSD.out.own.k1 d gd))
   have HRF:=zh (show Blk WF (w.heap.size+2) 30 (ssA ss0) from by rw [← hWF];exact HRD1.out.far (p:=⟨w.heap.size,0,none⟩) (show w.heap.size+2 ≠ w.heap.size by omega) _)
   try rw [hWF]
   clear hWF HRUN HG1 HO1 HQ1 HF1 HRD1 hE hS aA z0 z1 z2 z3
   obtain ⟨q0,q1,q2,q3,q4⟩:=aE HF.out.blk
   go_wp2_with ((with_reducible refine aH rfl (.tmp 6) (.tmp 48) rfl (w.heap.size+2) ({ s2 with A1:=some ⟨bb,0,none⟩,n1:=s2.n1 - 1,c1:=s2.c1,C:=s2.C.take k ++ s2.C.drop (k+1) }) rfl rfl HRF.out ?_);intro W9 h9)
   exact rtS _ _ HF.out HRF.out aa h9 im
 have HSP:=zh (show s2.V=⟨eB s0.C c a,s0.Q,s0.K,s0.P,s0.G⟩ from by
  show (⟨s2.C,s2.Q,s2.K,s2.P,s2.G⟩:StV)=_
  rw [HVE.out,← HC1.out,HAD0.out,HST.out,if_neg hz,HSC.out.2.2.1,HDK.out])
 have b0:(zq == 0)=false:=beq_eq_false_iff_ne.2 hz
 have b1:decide (zq=0)=false:=decide_eq_false hz
 clear hz HST HAD0
 go_upto_region 7 with fail
 clear q9 c9 b0 b1 i2
 have HF:=HS9
 have HRF:=HR9
 obtain ⟨q0,q1,q2,q3,q4⟩:=aE HF.out.blk
 go_wp2_with ((with_reducible refine aH rfl (.tmp 6) (.tmp 48) rfl (w.heap.size+2) (s2) rfl rfl HRF.out ?_);intro W9 h9)
 exact rtS _ _ HF.out HRF.out aa h9 (HSP.out)
end
end Go.Proofs.YtgmnmjeccfnmbaaGreat
