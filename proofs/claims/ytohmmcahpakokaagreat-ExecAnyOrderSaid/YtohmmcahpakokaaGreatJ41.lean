/- exec.Cover. -/
import Derived.Test.YtohmmcahpakokaaGreatJ39
set_option maxRecDepth 100000
set_option maxHeartbeats 8000000
set_option linter.unusedVariables false
set_option linter.unusedSimpArgs false
namespace Go.Proofs.YtohmmcahpakokaaGreat
section
open Go.RowKit
attribute [local go_sem ↓] Go.wp_at_zero Go.wp_at_succ
theorem aBm (c:CeR) (w:World):(Instr.buildSlice 96 1 #[(0,.agg (ceA c))]).run Tryz.prog w=.ok (.slice (some ⟨w.heap.size,0,none⟩) 1 1) (w.alloc (.cells (ceA c) 32)):=by kernel_rfl
section
variable {ops:Array Oper} {rest:List Oper} {o:Oper} {a:Act} {w:World} {K:Act→World→Prop} {Q:Exit→Act→World→Prop} {S:World→Prop}
theorem aCe {ty:TypeId} (x:Operand) (ho:o.op=.buildSlice ty 1 #[(0,x)]) {vx v:Value} {w2:World} (hx:a.eval x=vx) (hr:(Instr.buildSlice ty 1 #[(0,vx)]).run Tryz.prog w=.ok v w2):(execOp a.eval o).run Tryz.prog w=.ok (.value v) w2:=by
 unfold execOp
 simp only [ho,List.map_toArray,List.map_cons,List.map_nil,hx,Sem.run_bind,hr,Result.andThen_ok,Sem.run_pure]
theorem gW (hgd:o.guard=none) {ty e:TypeId} (x:Operand) (ho:o.op=.buildSlice ty 1 #[(0,x)]) {vx:Value} {cs:Array Value} (hx:a.eval x=vx) (hr:(Instr.buildSlice ty 1 #[(0,vx)]).run Tryz.prog w=.ok (.slice (some ⟨w.heap.size,0,none⟩) 1 1) (w.alloc (.cells cs e)))
  (h:∀ (g:Nat) (W2:World),Hid (Blk W2 g e cs∧Ext w W2∧w.heap.size≤g)→wpList Tryz.prog ops Q rest (a.put o.dst (.slice (some ⟨g,0,none⟩) 1 1)) W2):wpList Tryz.prog ops Q (o :: rest) a w :=
 oA hgd (aCe x ho hx hr) (h _ _ (zh ⟨Blk.new w e cs,(Ext.refl w).alloc' _,Nat.le_refl _⟩))
end
def covD (C:List DeR) (k:Nat):List CeR:=((C.take k).map DeR.c).filter mT
theorem nI {C:List DeR} {k:Nat} (h:k < C.length):covD C (k+1)=if mT (nthG C k).c=true then covD C k ++ [(nthG C k).c] else covD C k:=by
 unfold covD
 rw [fX h,List.map_append,List.filter_append,List.map_cons,List.map_nil,List.filter_cons,List.filter_nil]
 split
 ·rfl
 rw [List.append_nil]
theorem aHx (C:List DeR):oX eE (covD C C.length)=aIK C:=by unfold covD aIK;rw [List.take_length]
theorem aIL {C:List DeR} {k:Nat} (h:∀ d ∈ C,deW d):∀ c ∈ covD C k,ceW c:=by
 intro c hc
 obtain ⟨h1,-⟩:=List.mem_filter.1 hc
 obtain ⟨d,hd,rfl⟩:=List.mem_map.1 h1
 exact (h d (List.mem_of_mem_take hd)).1
theorem aCh (C:List DeR) (k:Nat):(covD C k).length≤C.length:=by
 unfold covD
 refine Nat.le_trans (List.length_filter_le _ _) ?_
 rw [List.length_map,List.length_take];omega
theorem aHw (L:List CeR):∀ (C:List DeR),(L.foldl cov1 C).length≤C.length+2 * L.length:=by
 induction L with
 | nil=>intro C;exact Nat.le_refl _
 | cons c r ih =>
  intro C
  rw [List.foldl_cons,List.length_cons]
  have h1:=ih (cov1 C c)
  have h2:(cov1 C c).length≤C.length+2:=by
   unfold cov1;split
   ·omega
   exact qP _ _
  omega
theorem aFh {w w':World} {base b2:Nat} {s:StR} {A:Option Addr} {n c:Nat} {xs:List Value} (h:OwnS w base s) (ho:w.ownsRow b2 32 10 (.slice A n c) n xs) (hg:w.grownBy w' (Value.ownBlock (.slice A n c))):OwnS w' base s :=
 ⟨h.o1.kept hg (dB h.o1 ho (by decide)),h.o2.kept hg (dB h.o2 ho (by decide)),h.o3.kept hg (dB h.o3 ho (by decide)),h.o4.kept hg (dB h.o4 ho (by decide)),h.k1,h.k2,h.k3,h.g⟩
structure CvA (w wr:World) (s:StR) (k:Nat) (A:Option Addr) (n c:Nat):Prop where
 blk:Blk wr w.heap.size 44 (ssA s)
 res:Blk wr (w.heap.size+1) 44 (ssA ss0)
 own:wr.ownsRow w.heap.size 32 10 (.slice A n c) n (gcs (covD s.C k))
 low:Ext w wr
structure CvB (w wr:World) (V0:StV) (A:Option Addr) (n c:Nat) (L:List CeR) (k:Nat) (s:StR):Prop where
 st:StB w wr w.heap.size s
 res:Blk wr (w.heap.size+1) 44 (ssA ss0)
 row:wr.ownsRow w.heap.size 32 10 (.slice A n c) n (gcs L)
 v:s.V=⟨(L.take k).foldl cov1 V0.C,V0.Q,V0.K,V0.P,V0.G⟩
theorem CvB.ext {w wr w':World} {V0:StV} {A:Option Addr} {n c:Nat} {L:List CeR} {k:Nat} {s:StR} (h:CvB w wr V0 A n c L k s) (e:Ext wr w'):CvB w w' V0 A n c L k s:=⟨h.st.ext e,h.res.ext e,bA h.row e,h.v⟩
theorem CvB.bd {w wr w':World} {s0:StR} {A:Option Addr} {n c:Nat} {L:List CeR} {k:Nat} {s:StR} (h:CvB w wr s0.V A n c L k s) (h0:s0.ok w') (hL:L.length≤200000) (hn:s0.n1≤200000∧s0.n2≤200000∧s0.n3≤200000∧s0.n4≤200000):s.n1≤1000000∧s.n2≤1000000∧s.n3≤1000000∧s.n4≤1000000:=by
 have e1:s.C=_:=congrArg StV.C h.v
 have e2:s.Q=s0.Q:=congrArg StV.Q h.v
 have e3:s.K=s0.K:=congrArg StV.K h.v
 have e4:s.P=s0.P:=congrArg StV.P h.v
 have m1:=h.st.own.l1
 have m2:=h.st.own.l2
 have m3:=h.st.own.l3
 have m4:=h.st.own.l4
 have l1:=h0.s1.len
 have l2:=h0.s2.len
 have l3:=h0.s3.len
 have l4:=h0.s4.len
 rw [e1] at m1;rw [e2] at m2;rw [e3] at m3;rw [e4] at m4
 have h5:=aHw (L.take k) s0.V.C
 have e6:s0.V.C=s0.C:=rfl
 have h8:(L.take k).length≤200000:=Nat.le_trans (by rw [List.length_take];exact Nat.min_le_right _ _) hL
 rw [e6] at h5
 rw [e6] at m1
 generalize (List.foldl cov1 s0.C (List.take k L)).length=z at *
 generalize (List.take k L).length=y at *
 omega
theorem vM {L:List CeR} {k:Nat} (h:k < L.length) (C:List DeR):(L.take (k+1)).foldl cov1 C=cov1 ((L.take k).foldl cov1 C) (nthG L k):=by
 rw [fX h,List.foldl_append];rfl
theorem aFM (s0:StR) (w:World) (h:s0.ok w) (hn:s0.n1≤200000∧s0.n2≤200000∧s0.n3≤200000∧s0.n4≤200000):Calls Tryz.prog 26 #[.agg (ssA s0)] w (lZ w (aIJ s0.V)):=by
 have HS0:=zh h
 have HN:=zh hn
 have HLEN:=zh h.s1.len
 have hle:=h.s1.le
 have hcap:=h.s1.cap
 have hn1:=hn.1
 have HKW:=zh (show ∀ d ∈ s0.C,deW d from fun d hd=>h.s1.ok d hd)
 obtain ⟨W,hW⟩:∃ W,(w.alloc (.cells (ssA s0) 44)).alloc (.cells #[.slice none 0 0,.slice none 0 0,.slice none 0 0,.slice none 0 0,.int .i64 0] 44)=W:=⟨_,rfl⟩
 have HB:=zh (show Blk W w.heap.size 44 (ssA s0) from by rw [← hW];exact (Blk.new w 44 (ssA s0)).alloc _)
 have HR:=zh (show Blk W (w.heap.size+1) 44 (ssA ss0) from by rw [← hW];exact Blk.newAt _ _ _ _ (by simp))
 have HE:=zh (show Ext w W from by rw [← hW];exact ((Ext.refl w).alloc' _).alloc' _)
 have HWS:=zh (show w.heap.size+2≤W.heap.size from by rw [← hW];simp)
 obtain ⟨q0,q1,q2,q3,q4⟩:=aE HB.out
 clear h hn
 go_enter Tryz.func26,Tryz.ntmps26
 go_wp2_with fail
 have HA0:=zh (show CvA w W s0 0 none 0 0 from ⟨HB.out,HR.out,World.ownsRow_nil _ _ _ _,HE.out⟩)
 obtain ⟨A1,hA1⟩:∃ A1,s0.A1=A1:=⟨_,rfl⟩
 rw [hA1]
 have HA1:=zh hA1
 clear hA1
 clear q0 q1 q2 q3 q4 HB HR HE HWS hW
 go_loopw [3,15] (fun vc vi wr=>∃ (k:Nat) (A:Option Addr) (n c:Nat),vc=.slice A n c∧vi=.int .i64 (k:Int)∧k≤s0.n1∧Hid (CvA w wr s0 k A n c)) (fun _ i _=>s0.n1 - (intOf i).toNat)
 case atStart=>exact ⟨0,none,0,0,rfl,rfl,Nat.zero_le _,HA0⟩
 case round =>
  clear HA0
  obtain ⟨k,A,n,c,rfl,rfl,hk,HA⟩:=hrel
  by_cases hlt:k < s0.n1
  ·have i0 : (0 : Int) ≤ (k : Int) := by omega
   have i1:(k:Int) < (s0.n1:Int):=by omega
   obtain ⟨d,hd⟩:∃ d,nthG s0.C k=d:=⟨_,rfl⟩
   obtain ⟨b,o,hab,hrow,-⟩:=(HS0.out.ext HA.out.low).s1.at (by omega)
   rw [HA1.out] at hab
   subst hab
   have hr:wr.rangeAt b (o+k * 11) (RowT.enc d):=by rw [← hd];exact cG hrow (by rw [HLEN.out];exact hlt)
   have HDD:=zh hd
   obtain ⟨vd,hvd⟩:∃ v,Value.agg (deA d)=v:=⟨_,rfl⟩
   obtain ⟨vc,hvc⟩:∃ v,Value.agg (ceA d.c)=v:=⟨_,rfl⟩
   have HVD:=zh hvd
   have HVC:=zh hvc
   have HBC:=zh (fun W=>aBm d.c W)
   rw [hvc] at HBC
   obtain ⟨X,hX⟩:∃ X,wr.heap.size=X:=⟨_,rfl⟩
   have HXS:=zh hX
   have HLC:=zh (show (RowT.enc d.c).length=1 * 10 from rfl)
   have HNB:=zh (show n≤200000 from by
    have h1:(covD s0.C k).length=n:=OwnG.len (e:=32) HA.out.own
    have h2:=aCh s0.C k
    rw [HLEN.out] at h2;omega)
   have hnb:=HNB.out
   clear hd hvd hvc hX hrow
   go_upto_region 5 with (first | (with_reducible refine aB deP rfl (.tmp 17) rfl b (o+k * 11) rfl d vd HVD.out hr ?_) | ((with_reducible refine aP deP rfl (.tmp 5) (.tmp 18) rfl de0 rfl d vd HVD.out rfl rfl ?_);intro W4 h4))
   have HXX:=zh (show Ext wr W4 from by rw [← h4.out];exact (Ext.refl wr).alloc' _)
   have HD:=zh (show Blk W4 X 34 (deA d) from by rw [← h4.out,← HXS.out];exact Blk.new wr 34 (deA d))
   have x0:W4.cell? ⟨X,0,none⟩=some (.int .i64 d.c.k):=HD.out.cell 0
   have HB4:=zh (HA.out.blk.ext HXX.out)
   have HR4:=zh (HA.out.res.ext HXX.out)
   have HO4:=zh (bA HA.out.own HXX.out)
   have HX4:=zh (HA.out.low.trans HXX.out)
   have HZ4:=zh HX4.out.size
   rw [HXS.out]
   clear h4 hr HA HXX
   by_cases hk1:d.c.k=1
   ·have HKK := zh hk1
    have b1:(d.c.k == 1)=true:=by rw [hk1];rfl
    have e1:decide (d.c.k=1)=true:=by rw [hk1];rfl
    have b2:(d.c.k == 2)=false:=by rw [hk1];rfl
    have e2:decide (d.c.k=2)=false:=by rw [hk1];rfl
    have b3:(d.c.k == 3)=false:=by rw [hk1];rfl
    have e3:decide (d.c.k=3)=false:=by rw [hk1];rfl
    clear hk1
    have HK1:=zh (show covD s0.C (k+1)=covD s0.C k ++ [d.c] from by rw [nI (by rw [HLEN.out];exact hlt),HDD.out,if_pos (show mT d.c=true from by unfold mT;rw [HKK.out];decide)])
    have rc:W4.rangeAt X 0 (RowT.enc d.c):=by
     have:=aU (k:=10) (aD HD.out)
     exact this
    go_wp2_with (first | (with_reducible refine aB ceP rfl (.tmp 33) rfl X 0 rfl d.c vc HVC.out rc ?_) | ((with_reducible refine gW (vx:=vc) rfl (.tmp 34) rfl rfl (HBC.out _) ?_);intro g5 W5 h5;have HO5:=zh (bA HO4.out h5.out.2.1);have HZ5:=zh (Nat.le_trans HZ4.out h5.out.2.1.size);have HR5:=zh (Rd.of_blk h5.out.1)) | (at_builtin;go_must (refine bO ceE rfl (.tmp 32) (.tmp 35) rfl w.heap.size A n c _ rfl HO5.out _ 1 1 (RowT.enc d.c) rfl HR5.out HLC.out (RowT.one d.c) (by omega) (by omega) HZ5.out ?_;intro A6 c6 w6 ho6 hg6)))
    have HF:=zh (show CvA w w6 s0 (k+1) A6 (n+1) c6 from by
     have e5:Ext W4 W5:=h5.out.2.1
     refine ⟨(HB4.out.ext e5).grown hg6 (aI HO5.out (HB4.out.ext e5) (by decide)),(HR4.out.ext e5).grown hg6 (aI HO5.out (HR4.out.ext e5) (by decide)),?_,Below.grown (HX4.out.trans e5) hg6 (HX4.out.trans e5).size (fun k hk=>(World.ownsRow.lt HO5.out k hk).1)⟩
     rw [HK1.out,bS,fQ]
     exact ho6)
    clear h5 ho6 hg6 HO5 HZ5 HR5 rc x0
    go_wp2_with fail
    go_roundw
    case rel=>exact ⟨k+1,A6,n+1,c6,rfl,by go_num,hlt,HF⟩
    case measure=>simp [intOf];omega
   by_cases hk2:d.c.k=2
   ·have HKK := zh hk2
    have b1:(d.c.k == 1)=false:=by rw [hk2];rfl
    have e1:decide (d.c.k=1)=false:=by rw [hk2];rfl
    have b2:(d.c.k == 2)=true:=by rw [hk2];rfl
    have e2:decide (d.c.k=2)=true:=by rw [hk2];rfl
    have b3:(d.c.k == 3)=false:=by rw [hk2];rfl
    have e3:decide (d.c.k=3)=false:=by rw [hk2];rfl
    clear hk2
    have HK1:=zh (show covD s0.C (k+1)=covD s0.C k ++ [d.c] from by rw [nI (by rw [HLEN.out];exact hlt),HDD.out,if_pos (show mT d.c=true from by unfold mT;rw [HKK.out];decide)])
    have rc:W4.rangeAt X 0 (RowT.enc d.c):=by
     have:=aU (k:=10) (aD HD.out)
     exact this
    go_wp2_with (first | (with_reducible refine aB ceP rfl (.tmp 33) rfl X 0 rfl d.c vc HVC.out rc ?_) | ((with_reducible refine gW (vx:=vc) rfl (.tmp 34) rfl rfl (HBC.out _) ?_);intro g5 W5 h5;have HO5:=zh (bA HO4.out h5.out.2.1);have HZ5:=zh (Nat.le_trans HZ4.out h5.out.2.1.size);have HR5:=zh (Rd.of_blk h5.out.1)) | (at_builtin;go_must (refine bO ceE rfl (.tmp 32) (.tmp 35) rfl w.heap.size A n c _ rfl HO5.out _ 1 1 (RowT.enc d.c) rfl HR5.out HLC.out (RowT.one d.c) (by omega) (by omega) HZ5.out ?_;intro A6 c6 w6 ho6 hg6)))
    have HF:=zh (show CvA w w6 s0 (k+1) A6 (n+1) c6 from by
     have e5:Ext W4 W5:=h5.out.2.1
     refine ⟨(HB4.out.ext e5).grown hg6 (aI HO5.out (HB4.out.ext e5) (by decide)),(HR4.out.ext e5).grown hg6 (aI HO5.out (HR4.out.ext e5) (by decide)),?_,Below.grown (HX4.out.trans e5) hg6 (HX4.out.trans e5).size (fun k hk=>(World.ownsRow.lt HO5.out k hk).1)⟩
     rw [HK1.out,bS,fQ]
     exact ho6)
    clear h5 ho6 hg6 HO5 HZ5 HR5 rc x0
    go_wp2_with fail
    go_roundw
    case rel=>exact ⟨k+1,A6,n+1,c6,rfl,by go_num,hlt,HF⟩
    case measure=>simp [intOf];omega
   by_cases hk3:d.c.k=3
   ·have HKK := zh hk3
    have b1:(d.c.k == 1)=false:=by rw [hk3];rfl
    have e1:decide (d.c.k=1)=false:=by rw [hk3];rfl
    have b2:(d.c.k == 2)=false:=by rw [hk3];rfl
    have e2:decide (d.c.k=2)=false:=by rw [hk3];rfl
    have b3:(d.c.k == 3)=true:=by rw [hk3];rfl
    have e3:decide (d.c.k=3)=true:=by rw [hk3];rfl
    clear hk3
    have HK1:=zh (show covD s0.C (k+1)=covD s0.C k ++ [d.c] from by rw [nI (by rw [HLEN.out];exact hlt),HDD.out,if_pos (show mT d.c=true from by unfold mT;rw [HKK.out];decide)])
    have rc:W4.rangeAt X 0 (RowT.enc d.c):=by
     have:=aU (k:=10) (aD HD.out)
     exact this
    go_wp2_with (first | (with_reducible refine aB ceP rfl (.tmp 33) rfl X 0 rfl d.c vc HVC.out rc ?_) | ((with_reducible refine gW (vx:=vc) rfl (.tmp 34) rfl rfl (HBC.out _) ?_);intro g5 W5 h5;have HO5:=zh (bA HO4.out h5.out.2.1);have HZ5:=zh (Nat.le_trans HZ4.out h5.out.2.1.size);have HR5:=zh (Rd.of_blk h5.out.1)) | (at_builtin;go_must (refine bO ceE rfl (.tmp 32) (.tmp 35) rfl w.heap.size A n c _ rfl HO5.out _ 1 1 (RowT.enc d.c) rfl HR5.out HLC.out (RowT.one d.c) (by omega) (by omega) HZ5.out ?_;intro A6 c6 w6 ho6 hg6)))
    have HF:=zh (show CvA w w6 s0 (k+1) A6 (n+1) c6 from by
     have e5:Ext W4 W5:=h5.out.2.1
     refine ⟨(HB4.out.ext e5).grown hg6 (aI HO5.out (HB4.out.ext e5) (by decide)),(HR4.out.ext e5).grown hg6 (aI HO5.out (HR4.out.ext e5) (by decide)),?_,Below.grown (HX4.out.trans e5) hg6 (HX4.out.trans e5).size (fun k hk=>(World.ownsRow.lt HO5.out k hk).1)⟩
     rw [HK1.out,bS,fQ]
     exact ho6)
    clear h5 ho6 hg6 HO5 HZ5 HR5 rc x0
    go_wp2_with fail
    go_roundw
    case rel=>exact ⟨k+1,A6,n+1,c6,rfl,by go_num,hlt,HF⟩
    case measure=>simp [intOf];omega
   have HK1:=zh (show covD s0.C (k+1)=covD s0.C k from by rw [nI (by rw [HLEN.out];exact hlt),HDD.out,if_neg (show ¬ mT d.c=true from by unfold mT;rw [decide_eq_true_eq];omega)])
   have b1:(d.c.k == 1)=false:=beq_eq_false_iff_ne.2 hk1
   have b2:(d.c.k == 2)=false:=beq_eq_false_iff_ne.2 hk2
   have b3:(d.c.k == 3)=false:=beq_eq_false_iff_ne.2 hk3
   have e1:decide (d.c.k=1)=false:=decide_eq_false hk1
   have e2:decide (d.c.k=2)=false:=decide_eq_false hk2
   have e3:decide (d.c.k=3)=false:=decide_eq_false hk3
   have HF:=zh (show CvA w W4 s0 (k+1) A n c from ⟨HB4.out,HR4.out,by rw [HK1.out];exact HO4.out,HX4.out⟩)
   clear hk1 hk2 hk3
   go_wp2_with fail
   go_roundw
   case rel=>exact ⟨k+1,A,n,c,rfl,by go_num,hlt,HF⟩
   case measure=>simp [intOf];omega
  obtain rfl:k=s0.n1:=by omega
  have i1:¬ (s0.n1:Int) < (s0.n1:Int):=by omega
  obtain ⟨h1,h2⟩:=dN HA.out.own
  have hlen:(covD s0.C s0.n1).length=n:=OwnG.len (e:=32) HA.out.own
  have hnb:n≤200000:=by
   have h3:=aCh s0.C s0.n1
   rw [HLEN.out] at h3;omega
  have HNB:=zh hnb
  have HCA:=zh (And.intro h1 h2)
  obtain ⟨D,hD⟩:∃ D:Array CeR,(covD s0.C s0.n1).toArray=D:=⟨_,rfl⟩
  have hDl:D.toList=covD s0.C s0.n1:=by rw [← hD]
  have HDL:=zh hDl
  have HD0:=zh (show RowS wr wr w.heap.size 32 A n c D from RowS.start (by rw [hDl];exact HA.out.own) (fun x hx=>by rw [hDl] at hx;exact aIL HKW.out x hx) (by decide))
  have HDS:=zh (show D.size=n from by rw [← hD];simpa using hlen)
  clear hD hDl hlen h1 h2
  go_wp2_with fail
  refine (aCT wr wr w.heap.size A n c D HD0.out (by omega)).mono ?_
  rintro e w5 ⟨rfl,d',hd',hp,hs⟩
  have HB5:=zh (show Blk w5 w.heap.size 44 (ssA s0) from HA.out.blk.grown hd'.gr (aI HA.out.own HA.out.blk (by decide)))
  have HR5:=zh (show Blk w5 (w.heap.size+1) 44 (ssA ss0) from HA.out.res.grown hd'.gr (aI HA.out.own HA.out.res (by decide)))
  have HX5:=zh (show Ext w w5 from Below.grown HA.out.low hd'.gr HA.out.low.size (fun k hk=>(World.ownsRow.lt HA.out.own k hk).1))
  have HO5:=zh hd'.own
  have HOW5:=zh hd'.ow
  have HPM:=zh hp
  have HSO:=zh hs
  obtain ⟨q0,q1,q2,q3,q4⟩:=aE HB5.out
  clear HA hd' hp hs HD0
  go_wp2_with fail
  refine (cR s0 _ (HS0.out.ext HX5.out) (by have:=HN.out;omega)).mono ?_
  rintro e w6 ⟨s1,rfl,ho1,hv1,he6⟩
  have HB6:=zh (HB5.out.ext he6)
  have HR6:=zh (HR5.out.ext he6)
  have HX6:=zh (HX5.out.trans he6)
  have HO6:=zh (bA HO5.out he6)
  have HO1:=zh (bJ ho1 HX5.out.size)
  have HV1:=zh hv1
  clear ho1 hv1 he6 q0 q1 q2 q3 q4 HB5 HR5 HX5 HO5
  go_upto_region 11 with ((with_reducible refine aK rfl (.tmp 1) (.tmp 41) rfl w.heap.size s1 rfl rfl HB6.out ?_);intro W7 h7)
  have HS7:=zh (show StB w W7 w.heap.size s1 from by rw [← h7.out];exact StB.start HO1.out HB6.out HX6.out (Nat.le_refl _))
  have HR7:=zh (show Blk W7 (w.heap.size+1) 44 (ssA ss0) from by rw [← h7.out];exact HR6.out.grown (aC _ _ _ _) (fun e=>by injection e;omega))
  have HO7:=zh (show W7.ownsRow w.heap.size 32 10 (.slice A n c) n (gcs d'.toList) from by rw [← h7.out];exact World.ownsRow.kept HO6.out (aC _ _ _ _) (.inr (Ne.symm (aI HO6.out HB6.out (by decide)))))
  clear h7 HB6 HR6 HX6 HO6 HO1
  have HD7:=zh (show RowS W7 W7 w.heap.size 32 A n c d' from RowS.start HO7.out (fun x hx=>HOW5.out x hx) (by decide))
  go_wp2_with fail
  refine (xD W7 W7 w.heap.size A n c d' HD7.out (by omega) HCA.out.1 HCA.out.2).mono ?_
  rintro e w8 ⟨m,d2,rfl,hm,hd2,hval⟩
  obtain ⟨L,hL⟩:∃ L,d2.toList=L:=⟨_,rfl⟩
  have HLC:=zh (show L=aIK s0.C from by
   have h1:=sR (V:=ceV) (lt0:=eE) eZ (fun x y=>rfl) HDS.out HPM.out HSO.out
   rw [← hval,hL,HDL.out] at h1
   have h2:L.map ceV=L:=List.map_id L
   have h3:(covD s0.C s0.n1).map ceV=covD s0.C s0.n1:=List.map_id _
   rw [h2,h3,← HLEN.out] at h1
   rw [h1];exact aHx s0.C)
  have HLL:=zh (show L.length=m from by rw [← hL];have:=RowS.size hd2;simpa using this)
  have HLW:=zh (show ∀ c ∈ L,ceW c from fun c hc=>hd2.ow c (by rw [hL];exact hc))
  have HA0:=zh (show CvB w w8 s0.V A m c L 0 s1 from by
   have hg:W7.grownBy w8 (Value.ownBlock (.slice A n c)):=by cases A <;> exact hd2.gr
   refine ⟨⟨HS7.out.blk.grown hg (aI HO7.out HS7.out.blk (by decide)),aFh HS7.out.own HO7.out hg,Below.grown HS7.out.low hg HS7.out.low.size (fun k hk=>(World.ownsRow.lt HO7.out k hk).1),Nat.le_refl _⟩,HR7.out.grown hg (aI HO7.out HR7.out (by decide)),by rw [← hL];exact hd2.own,HV1.out⟩)
  have hmb:m≤200000:=Nat.le_trans hm hnb
  clear hd2 hval hL HD7 HO7 HS7 HR7 HOW5 HPM HSO hm
  go_wp2_with fail
  go_loopw [45] (fun vi wr=>∃ (k:Nat) (s:StR),vi=.int .i64 (k:Int)∧k≤m∧Hid (CvB w wr s0.V A m c L k s)) (fun i _=>m - (intOf i).toNat)
  case atStart=>exact ⟨0,s1,rfl,Nat.zero_le _,HA0⟩
  case round =>
   clear HA0
   obtain ⟨k,s,rfl,hk,HA⟩:=hrel
   by_cases hlt2:k < m
   ·have i0 : (0 : Int) ≤ (k : Int) := by omega
    have i1:(k:Int) < (m:Int):=by omega
    obtain ⟨cc,hcc⟩:∃ d,nthG L k=d:=⟨_,rfl⟩
    obtain ⟨g,hab,-,hrow⟩:=cF HA.out.row (by omega)
    subst hab
    have hKL:k < L.length:=by rw [HLL.out];exact hlt2
    have HKL:=zh hKL
    have hr:wr.rangeAt g (k * 10) (RowT.enc cc):=by
     have h1:=cG (L:=L) (k:=k) hrow hKL
     rw [Nat.zero_add,hcc] at h1
     exact h1
    have HCC:=zh hcc
    have HCW:=zh (show ceW cc from by rw [← hcc];exact HLW.out _ (gE hKL))
    have HCP:=zh (show ceW bU from fO (k:=4) (i:=0) (wfS ⟨by omega,by omega⟩) (wfS ⟨by omega,by omega⟩))
    obtain ⟨vc,hvc⟩:∃ v,Value.agg (ceA cc)=v:=⟨_,rfl⟩
    have HVC:=zh hvc
    obtain ⟨X,hX⟩:∃ X,wr.heap.size=X:=⟨_,rfl⟩
    have HXS:=zh hX
    have HBD:=zh (HA.out.bd HS0.out (by rw [HLL.out];omega) HN.out)
    have hkw:∀ d ∈ s.C,deW d:=HA.out.st.own.k1
    obtain ⟨hv,hhv⟩:∃ z,bW s.C bU=z:=⟨_,rfl⟩
    obtain ⟨nv,hnv⟩:∃ z,bW s.C cc=z:=⟨_,rfl⟩
    have HHV:=zh hhv
    have HNV:=zh hnv
    have w1:jS hv:=by rw [← hhv];exact fH.1 (aAi hkw)
    have w2:jS nv:=by rw [← hnv];exact fH.1 (aAi hkw)
    unfold jS at w1 w2
    have HW1:=zh w1
    have HW2:=zh w2
    clear hcc hvc hX hrow hkw hKL w1 w2
    go_upto_region 14 with (first | (with_reducible refine aB ceP rfl (.tmp 47) rfl g (k * 10) rfl cc vc HVC.out hr ?_) | ((with_reducible refine aP ceP rfl (.tmp 8) (.tmp 48) rfl ce0 rfl cc vc HVC.out rfl rfl ?_);intro W4 h4))
    have HX4:=zh (show Ext wr W4 from by rw [← h4.out];exact (Ext.refl wr).alloc' _)
    have HD:=zh (show Blk W4 X 32 (ceA cc) from by rw [← h4.out,← HXS.out];exact Blk.new wr 32 (ceA cc))
    have HA4:=zh (HA.out.ext HX4.out)
    rw [HXS.out]
    have HG1:=zh (fun (V:World) (e:Ext W4 V)=>gY s bU V (HA4.out.st.own.ok.ext e) HCP.out)
    have HG2:=zh (fun (V:World) (e:Ext W4 V)=>gY s cc V (HA4.out.st.own.ok.ext e) HCW.out)
    rw [hhv] at HG1
    rw [hnv,HVC.out] at HG2
    clear h4 hr HA HX4 hhv hnv
    refine wp_region_held_drew (S:=fun V=>Blk V w.heap.size 44 (ssA s)∧Blk V X 32 (ceA cc)∧Ext W4 V) (by kernel_rfl) (⟨HA4.out.st.blk.drew,HD.out.drew,(Ext.refl _).drew'⟩) (fun aA=>?_)
    refine zz0 [0,3] ?_;repeat first | refine zz1 ?_ (hy:=by intro W aM;obtain ⟨q0,q1,q2,q3,q4⟩:=aE aM.1;go_simp <;> with_reducible rfl) | refine zz2 ?_ | refine zz9 ?_
    refine zu 4 (v:=vc) aA ?_ (hy:=by exact aF ceP (by rfl) (.tmp 8) (by rfl) X 0 (by rfl) cc vc HVC.out (fun V h=>aD h.2.1))
    refine zzj (VE 1 (.agg (ceA bU)) (VE 2 (.int .i64 hv) (VE 5 (.int .i64 nv) VN))) [(1,some 50),(2,some 51),(5,some 54)] 2 (fun V V' h e=>⟨h.1.ext e,h.2.1.ext e,h.2.2.trans e⟩) (ve (ve (ve VN.ext))) (zzc ?_ (zzc ?_ (zzc ?_ zzn))) ?_
    ·refine zzp fun W hE hS K hK => ?_
     go_simp
     go_at_call 68
     refine (pO _).mono ?_
     rintro e w5 ⟨rfl,he5⟩
     exact zzK (hK.out (.agg (ceA bU)) _ (he5) (rfl))
    ·refine zm [(1, some 50)] fun env W hE hS hD K hK => ?_
     obtain ⟨h1,-⟩:=zzV hD
     clear hD
     simp only [aO,h1] at hK ⊢
     clear h1
     go_simp
     go_at_call 67
     refine (HG1.out _ hS.2.2).mono ?_
     rintro e w5 ⟨rfl,he5⟩
     exact zzK (hK.out (.int .i64 hv) _ (he5) (rfl))
    ·refine zzp fun W hE hS K hK => ?_
     go_simp
     go_at_call 67
     refine (HG2.out _ hS.2.2).mono ?_
     rintro e w5 ⟨rfl,he5⟩
     exact zzK (hK.out (.int .i64 nv) _ (he5) (rfl))
    intro env W hE hS hV
    obtain ⟨h1,h2,h5,-⟩:=zzV hV
    clear hV
    simp only [aO,h1,h2,h5]
    clear h1
    clear h2
    clear h5
    have aA:=hS
    refine zzr [6,7] ?_
    refine wpAnyH_done (by kernel_rfl) ?_ _
    obtain ⟨w5,hw5⟩:∃ w5,W=w5:=⟨_,rfl⟩
    subst hw5
    have HA5:=zh (HA4.out.ext aA.2.2)
    have HD5:=zh aA.2.1
    have HVC5:=zh (show s.C=(L.take k).foldl cov1 s0.V.C from congrArg StV.C HA5.out.v)
    have HVS:=zh (show ∀ X9:List DeR,(⟨X9,s.V.Q,s.V.K,s.V.P,s.V.G⟩:StV)=⟨X9,s0.V.Q,s0.V.K,s0.V.P,s0.V.G⟩ from fun X9=>by rw [show s.V=_ from HA5.out.v])
    clear aA hE hS HA4 HD HG1 HG2
    by_cases hsk:hv≤0 ∨ 0≤nv
    ·have HF:=zh (show CvB w W s0.V (some ⟨g,0,none⟩) m c L (k+1) s from ⟨HA5.out.st,HA5.out.res,HA5.out.row,by
      rw [vM HKL.out,HCC.out,← HVC5.out,show cov1 s.C cc=s.C from if_pos (by rw [HHV.out,HNV.out];exact hsk)]
      exact (show s.V=(⟨s.C,s.V.Q,s.V.K,s.V.P,s.V.G⟩:StV) from rfl).trans (HVS.out s.C)⟩)
     by_cases h1:hv≤0
     ·clear hsk
      go_wp2_with fail
      go_roundw
      case rel=>exact ⟨k+1,s,by go_num,hlt2,HF⟩
      case measure=>simp [intOf];omega
     have h2:0≤nv:=by omega
     clear hsk
     go_wp2_with fail
     go_roundw
     case rel=>exact ⟨k+1,s,by go_num,hlt2,HF⟩
     case measure=>simp [intOf];omega
    have h1:¬ hv≤0:=fun h=>hsk (.inl h)
    have h2:¬ 0≤nv:=fun h=>hsk (.inr h)
    clear hsk
    have e1:wrap64 (-hv)=-hv:=by rw [← xK];exact gT (by have:=HW1.out;unfold jS;omega)
    by_cases h3:-hv < nv
    ·have e2 : wrap64 (-nv) = -nv := by rw [← xK]; exact gT (by have := HW1.out; have := HW2.out; unfold jS; omega)
     go_upto_region 19 with fail
     try rw [e2]
     obtain ⟨pd,hpd⟩:∃ pd:Int,-nv=pd:=⟨_,rfl⟩
     have HPW:=zh (show wfI pd from by rw [← hpd];exact fH.2 (by have:=HW1.out;have:=HW2.out;unfold jS;omega))
     have HM1:=zh (show cov1 s.C cc=addL s.C (dQ bU cc pd) from by
      rw [← hpd]
      unfold cov1
      rw [HHV.out,HNV.out,if_neg (by omega)]
      first | rw [if_pos (by omega)] | rw [if_neg (by omega)])
     have HMV:=zh (fun V=>iQ bU cc pd V HCP.out HCW.out HPW.out)
     rw [HVC.out] at HMV
     rw [hpd]
     clear hpd e1 h1 h2 h3
     try clear e2
     have HA6:=zh (HA5.out.ext ((Ext.refl W).drew'))
     have HD6:=zh (HD5.out.ext ((Ext.refl W).drew'))
     refine wp_region_held_drew (S:=fun _=>True) (by kernel_rfl) (trivial) (fun aA=>?_)
     refine zt 3 aA ?_
     refine cJ (VV 0 (fun v V=>v=.agg (ssA s)) (VV 1 (fun v V=>v=.agg (ceA bU)) (VV 2 (fun v V=>v=vc) (VV 4 (fun v V=>∃ A5 n5 c5,v=.slice A5 n5 c5∧SlG V A5 n5 c5 (dQ bU cc pd)) (VV 5 (fun v V=>∃ s2,v=.agg (ssA s2)∧OwnS V w.heap.size s2∧s2.V=nO s.V (dQ bU cc pd)) (VN)))))) [(0,some 68),(1,some 69),(2,some 70),(4,some 72),(5,some 73)] (fuel:=1) (by kernel_rfl) (by kernel_rfl) (fun _ _ h _=>h) (VV.ext (fun v w w' h e=>h) (VV.ext (fun v w w' h e=>h) (VV.ext (fun v w w' h e=>h) (VV.ext (fun v w w' ⟨A,n,c,h1,h2⟩ e=>⟨A,n,c,h1,h2.ext e⟩) (VV.ext (fun v w w' ⟨s2,h1,h2,h3⟩ e=>⟨s2,h1,h2.ext e,h3⟩) (VN.ext)))))) aA ?hm2 rfl ?hr2
     case hm2 =>
      refine Members.cons ?mm2_0 (Members.cons ?mm2_1 (Members.cons ?mm2_2 (Members.cons ?mm2_4 (Members.cons ?mm2_5 (Members.nil _)))))
      case mm2_0 =>
       refine zm [] (fun env W5 hE hS hD K hK=>?_)
       clear hD
       try simp only [aO]
       obtain ⟨q0,q1,q2,q3,q4⟩:=aE (HA6.out.st.blk.ext hE)
       go_simp
       have hk:=hK.out (.agg (ssA s)) _ (Ext.refl _) (rfl)
       try simp only [aO] at hk
       exact hk
      case mm2_1 =>
       refine zm [] (fun env W5 hE hS hD K hK=>?_)
       clear hD
       try simp only [aO]
       go_simp
       go_at_call 68
       refine (pO _).mono ?_
       rintro e W ⟨rfl,he5⟩
       have hk:=hK.out (.agg (ceA bU)) _ (he5) (rfl)
       try simp only [aO] at hk
       exact hk
      case mm2_2 =>
       refine zm [] (fun env W5 hE hS hD K hK=>?_)
       clear hD
       try simp only [aO]
       refine iN ceP (.tmp 8) rfl X 0 rfl cc vc HVC.out (aD (HD6.out.ext hE)) ?_
       have hk:=hK.out (vc) _ (Ext.refl _) (rfl)
       try simp only [aO] at hk
       exact hk
      case mm2_4 =>
       refine zm [(1,some 69),(2,some 70)] (fun env W5 hE hS hD K hK=>?_)
       have h1:(fun v V=>v=.agg (ceA bU)) (env 1) W5:=hD (1,some 69) (by simp)
       have h2:(fun v V=>v=vc) (env 2) W5:=hD (2,some 70) (by simp)
       clear hD
       try simp only [aO] at hK ⊢
       generalize env 1=x1 at h1 hK ⊢
       generalize env 2=x2 at h2 hK ⊢
       subst h1
       subst h2
       go_simp
       go_at_call 69
       refine (HMV.out _).mono ?_
       rintro e W ⟨A5,n5,c5,rfl,hs5,he5⟩
       have hk:=hK.out (.slice A5 n5 c5) _ (he5) (⟨A5,n5,c5,rfl,hs5⟩)
       try simp only [aO] at hk
       exact hk
      case mm2_5 =>
       refine zm [(0,some 68),(4,some 72)] (fun env W5 hE hS hD K hK=>?_)
       have h0:(fun v V=>v=.agg (ssA s)) (env 0) W5:=hD (0,some 68) (by simp)
       have h4:(fun v V=>∃ A5 n5 c5,v=.slice A5 n5 c5∧SlG V A5 n5 c5 (dQ bU cc pd)) (env 4) W5:=hD (4,some 72) (by simp)
       clear hD
       try simp only [aO] at hK ⊢
       generalize env 0=x0 at h0 hK ⊢
       generalize env 4=x4 at h4 hK ⊢
       subst h0
       obtain ⟨A8,n8,c8,rfl,hs8⟩:=h4
       go_simp
       go_at_call 54
       refine (kS s A8 n8 c8 (dQ bU cc pd) _ (HA6.out.st.own.ok.ext hE) hs8 ⟨by have h7:=hs8.len;have h8:(dQ bU cc pd).length=2:=rfl;omega,HBD.out⟩).mono ?_
       rintro e W ⟨s2,rfl,ho2,hv2,he5⟩
       have hk:=hK.out (.agg (ssA s2)) _ (he5) (⟨s2,rfl,bJ ho2 (Nat.le_trans HA6.out.st.low.size hE.size),hv2⟩)
       try simp only [aO] at hk
       exact hk
     case hr2 =>
      intro env W5 hE hS hV
      have h0:(fun v V=>v=.agg (ssA s)) (env 0) W5:=hV (0,some 68) (by simp)
      have h1:(fun v V=>v=.agg (ceA bU)) (env 1) W5:=hV (1,some 69) (by simp)
      have h2:(fun v V=>v=vc) (env 2) W5:=hV (2,some 70) (by simp)
      have h4:(fun v V=>∃ A5 n5 c5,v=.slice A5 n5 c5∧SlG V A5 n5 c5 (dQ bU cc pd)) (env 4) W5:=hV (4,some 72) (by simp)
      have h5:(fun v V=>∃ s2,v=.agg (ssA s2)∧OwnS V w.heap.size s2∧s2.V=nO s.V (dQ bU cc pd)) (env 5) W5:=hV (5,some 73) (by simp)
      clear hV
      try simp only [aO]
      generalize env 0=x0 at h0 ⊢
      generalize env 1=x1 at h1 ⊢
      generalize env 2=x2 at h2 ⊢
      generalize env 4=x4 at h4 ⊢
      generalize env 5=x5 at h5 ⊢
      subst h0
      subst h1
      subst h2
      obtain ⟨A8,n8,c8,rfl,hs8⟩:=h4
      obtain ⟨s2,rfl,ho2,hv2⟩:=h5
      clear hs8
      have aA:=hS
      refine za 6 (fun K hK=>?_)
      (refine bC rfl (.tmp 1) (.tmp 73) (by rfl) w.heap.size (.agg (ssA s2)) s2 rfl (by rfl) (by rfl) (HA6.out.st.blk.ext hE) ?_;intro W9 h9)
      refine hK.out _ _ (trivial) (fun aA=>?_)
      clear hK K
      try simp only [aS]
      refine wpAnyH_done (by kernel_rfl) ?_ _
      have HF:=zh (show CvB w W9 s0.V (some ⟨g,0,none⟩) m c L (k+1) s2 from by
       rw [← h9.out.1]
       have hb:=HA6.out.st.blk.ext hE
       have hrw:=bA HA6.out.row hE
       refine ⟨StB.start ho2 hb (HA6.out.st.low.trans hE) (Nat.le_refl _),(HA6.out.res.ext hE).grown (aC _ _ _ _) (fun e=>by injection e;omega),hrw.kept (aC _ _ _ _) (.inr (Ne.symm (aI hrw hb (by decide)))),?_⟩
       rw [hv2,vM HKL.out,HCC.out,← HVC5.out,HM1.out]
       exact HVS.out _)
      clear h9 ho2 hv2 hE hS aA HA6 HD6 HA5 HD5
      go_wp2_with fail
      go_roundw
      case rel=>exact ⟨k+1,s2,by go_num,hlt2,HF⟩
      case measure=>simp [intOf];omega
    go_upto_region 19 with fail
    try rw [e2]
    obtain ⟨pd,hpd⟩:∃ pd:Int,hv=pd:=⟨_,rfl⟩
    have HPW:=zh (show wfI pd from by rw [← hpd];exact fH.2 (by have:=HW1.out;unfold jS;omega))
    have HM1:=zh (show cov1 s.C cc=addL s.C (dQ bU cc pd) from by
     rw [← hpd]
     unfold cov1
     rw [HHV.out,HNV.out,if_neg (by omega)]
     first | rw [if_pos (by omega)] | rw [if_neg (by omega)])
    have HMV:=zh (fun V=>iQ bU cc pd V HCP.out HCW.out HPW.out)
    rw [HVC.out] at HMV
    rw [hpd]
    clear hpd e1 h1 h2 h3
    try clear e2
    have HA6:=zh (HA5.out.ext ((Ext.refl W).drew'))
    have HD6:=zh (HD5.out.ext ((Ext.refl W).drew'))
    refine wp_region_held_drew (S:=fun _=>True) (by kernel_rfl) (trivial) (fun aA=>?_)
    refine zt 3 aA ?_
    refine cJ (VV 0 (fun v V=>v=.agg (ssA s)) (VV 1 (fun v V=>v=.agg (ceA bU)) (VV 2 (fun v V=>v=vc) (VV 4 (fun v V=>∃ A5 n5 c5,v=.slice A5 n5 c5∧SlG V A5 n5 c5 (dQ bU cc pd)) (VV 5 (fun v V=>∃ s2,v=.agg (ssA s2)∧OwnS V w.heap.size s2∧s2.V=nO s.V (dQ bU cc pd)) (VN)))))) [(0,some 68),(1,some 69),(2,some 70),(4,some 72),(5,some 73)] (fuel:=1) (by kernel_rfl) (by kernel_rfl) (fun _ _ h _=>h) (VV.ext (fun v w w' h e=>h) (VV.ext (fun v w w' h e=>h) (VV.ext (fun v w w' h e=>h) (VV.ext (fun v w w' ⟨A,n,c,h1,h2⟩ e=>⟨A,n,c,h1,h2.ext e⟩) (VV.ext (fun v w w' ⟨s2,h1,h2,h3⟩ e=>⟨s2,h1,h2.ext e,h3⟩) (VN.ext)))))) aA ?hm2 rfl ?hr2
    case hm2 =>
     refine Members.cons ?mm2_0 (Members.cons ?mm2_1 (Members.cons ?mm2_2 (Members.cons ?mm2_4 (Members.cons ?mm2_5 (Members.nil _)))))
     case mm2_0 =>
      refine zm [] (fun env W5 hE hS hD K hK=>?_)
      clear hD
      try simp only [aO]
      obtain ⟨q0,q1,q2,q3,q4⟩:=aE (HA6.out.st.blk.ext hE)
      go_simp
      have hk:=hK.out (.agg (ssA s)) _ (Ext.refl _) (rfl)
      try simp only [aO] at hk
      exact hk
     case mm2_1 =>
      refine zm [] (fun env W5 hE hS hD K hK=>?_)
      clear hD
      try simp only [aO]
      go_simp
      go_at_call 68
      refine (pO _).mono ?_
      rintro e W ⟨rfl,he5⟩
      have hk:=hK.out (.agg (ceA bU)) _ (he5) (rfl)
      try simp only [aO] at hk
      exact hk
     case mm2_2 =>
      refine zm [] (fun env W5 hE hS hD K hK=>?_)
      clear hD
      try simp only [aO]
      refine iN ceP (.tmp 8) rfl X 0 rfl cc vc HVC.out (aD (HD6.out.ext hE)) ?_
      have hk:=hK.out (vc) _ (Ext.refl _) (rfl)
      try simp only [aO] at hk
      exact hk
     case mm2_4 =>
      refine zm [(1,some 69),(2,some 70)] (fun env W5 hE hS hD K hK=>?_)
      have h1:(fun v V=>v=.agg (ceA bU)) (env 1) W5:=hD (1,some 69) (by simp)
      have h2:(fun v V=>v=vc) (env 2) W5:=hD (2,some 70) (by simp)
      clear hD
      try simp only [aO] at hK ⊢
      generalize env 1=x1 at h1 hK ⊢
      generalize env 2=x2 at h2 hK ⊢
      subst h1
      subst h2
      go_simp
      go_at_call 69
      refine (HMV.out _).mono ?_
      rintro e W ⟨A5,n5,c5,rfl,hs5,he5⟩
      have hk:=hK.out (.slice A5 n5 c5) _ (he5) (⟨A5,n5,c5,rfl,hs5⟩)
      try simp only [aO] at hk
      exact hk
     case mm2_5 =>
      refine zm [(0,some 68),(4,some 72)] (fun env W5 hE hS hD K hK=>?_)
      have h0:(fun v V=>v=.agg (ssA s)) (env 0) W5:=hD (0,some 68) (by simp)
      have h4:(fun v V=>∃ A5 n5 c5,v=.slice A5 n5 c5∧SlG V A5 n5 c5 (dQ bU cc pd)) (env 4) W5:=hD (4,some 72) (by simp)
      clear hD
      try simp only [aO] at hK ⊢
      generalize env 0=x0 at h0 hK ⊢
      generalize env 4=x4 at h4 hK ⊢
      subst h0
      obtain ⟨A8,n8,c8,rfl,hs8⟩:=h4
      go_simp
      go_at_call 54
      refine (kS s A8 n8 c8 (dQ bU cc pd) _ (HA6.out.st.own.ok.ext hE) hs8 ⟨by have h7:=hs8.len;have h8:(dQ bU cc pd).length=2:=rfl;omega,HBD.out⟩).mono ?_
      rintro e W ⟨s2,rfl,ho2,hv2,he5⟩
      have hk:=hK.out (.agg (ssA s2)) _ (he5) (⟨s2,rfl,bJ ho2 (Nat.le_trans HA6.out.st.low.size hE.size),hv2⟩)
      try simp only [aO] at hk
      exact hk
    case hr2 =>
     intro env W5 hE hS hV
     have h0:(fun v V=>v=.agg (ssA s)) (env 0) W5:=hV (0,some 68) (by simp)
     have h1:(fun v V=>v=.agg (ceA bU)) (env 1) W5:=hV (1,some 69) (by simp)
     have h2:(fun v V=>v=vc) (env 2) W5:=hV (2,some 70) (by simp)
     have h4:(fun v V=>∃ A5 n5 c5,v=.slice A5 n5 c5∧SlG V A5 n5 c5 (dQ bU cc pd)) (env 4) W5:=hV (4,some 72) (by simp)
     have h5:(fun v V=>∃ s2,v=.agg (ssA s2)∧OwnS V w.heap.size s2∧s2.V=nO s.V (dQ bU cc pd)) (env 5) W5:=hV (5,some 73) (by simp)
     clear hV
     try simp only [aO]
     generalize env 0=x0 at h0 ⊢
     generalize env 1=x1 at h1 ⊢
     generalize env 2=x2 at h2 ⊢
     generalize env 4=x4 at h4 ⊢
     generalize env 5=x5 at h5 ⊢
     subst h0
     subst h1
     subst h2
     obtain ⟨A8,n8,c8,rfl,hs8⟩:=h4
     obtain ⟨s2,rfl,ho2,hv2⟩:=h5
     clear hs8
     have aA:=hS
     refine za 6 (fun K hK=>?_)
     (refine bC rfl (.tmp 1) (.tmp 73) (by rfl) w.heap.size (.agg (ssA s2)) s2 rfl (by rfl) (by rfl) (HA6.out.st.blk.ext hE) ?_;intro W9 h9)
     refine hK.out _ _ (trivial) (fun aA=>?_)
     clear hK K
     try simp only [aS]
     refine wpAnyH_done (by kernel_rfl) ?_ _
     have HF:=zh (show CvB w W9 s0.V (some ⟨g,0,none⟩) m c L (k+1) s2 from by
      rw [← h9.out.1]
      have hb:=HA6.out.st.blk.ext hE
      have hrw:=bA HA6.out.row hE
      refine ⟨StB.start ho2 hb (HA6.out.st.low.trans hE) (Nat.le_refl _),(HA6.out.res.ext hE).grown (aC _ _ _ _) (fun e=>by injection e;omega),hrw.kept (aC _ _ _ _) (.inr (Ne.symm (aI hrw hb (by decide)))),?_⟩
      rw [hv2,vM HKL.out,HCC.out,← HVC5.out,HM1.out]
      exact HVS.out _)
     clear h9 ho2 hv2 hE hS aA HA6 HD6 HA5 HD5
     go_wp2_with fail
     go_roundw
     case rel=>exact ⟨k+1,s2,by go_num,hlt2,HF⟩
     case measure=>simp [intOf];omega
   obtain rfl:m=k:=by omega
   have i1:¬ (m:Int) < (m:Int):=by omega
   obtain ⟨q0,q1,q2,q3,q4⟩:=aE HA.out.st.blk
   have HVF:=zh (show s.V=aIJ s0.V from by
    rw [HA.out.v,← HLL.out,List.take_length,HLC.out];rfl)
   go_wp2_with ((with_reducible refine aK rfl (.tmp 2) (.tmp 75) rfl (w.heap.size+1) s rfl rfl HA.out.res ?_);intro W9 h9)
   have hst:Blk W9 (w.heap.size+1) 44 (ssA s):=by rw [← h9.out];exact aR (ds:=ssA s) HA.out.res rfl
   have HOW:=zh (show OwnS W9 w.heap.size s from by
    rw [← h9.out]
    exact HA.out.st.own.kept (aC _ _ _ _) HA.out.res (by decide) (by decide) (by decide) (by decide))
   have HXE:=zh (show Ext w W9 from by rw [← h9.out];exact Below.setCells' HA.out.st.low (by omega) _ _)
   clear h9
   exact bodyPost_ret (v:=.agg (ssA s)) (gB rfl _ _ (w.heap.size+1) _ rfl (run_loadVar_row _ _ _ _ _ (0,0) _ hst Tryz.underlying44 rfl (by kernel_rfl))) rfl ⟨s,rfl,HOW.out,HVF.out,HXE.out⟩
end
end Go.Proofs.YtohmmcahpakokaaGreat
