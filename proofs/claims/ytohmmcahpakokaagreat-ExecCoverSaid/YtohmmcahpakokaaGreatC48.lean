/- The reference's Cover. -/
import Derived.Test.YtohmmcahpakokaaGreatC39
import Derived.Test.YtohmmcahpakokaaGreatC45
set_option maxRecDepth 100000
set_option maxHeartbeats 8000000
set_option linter.unusedVariables false
set_option linter.unusedSimpArgs false
namespace Go.Proofs.YtohmmcahpakokaaGreat
open Go.RowKit
attribute [local go_sem ↓] Go.wp_at_zero Go.wp_at_succ
theorem run_bsCe0 (w:World):(Instr.buildSlice 96 0 #[]).run Tryz.prog w=.ok (.slice (some ⟨w.heap.size,0,none⟩) 0 0) (w.alloc (.cells #[] 32)):=by kernel_rfl
theorem exec_cutCe {o:Oper} {a:Act} (x y:Operand) (ho:o.op=.slice 96 x (some y) none none) (A:Option Addr) (n c k:Nat) (hx:a.eval x=.slice A n c) (hy:a.eval y=.int .i64 (k:Int)) (hkn:k≤n) (hnc:n≤c) (w:World) :
  (execOp a.eval o).run Tryz.prog w=.ok (.value (.slice (if c=k then A else A.map (·.add (k * 10))) (n - k) (c - k))) w:=by
 have i0:(0:Int)≤(k:Int):=by omega
 have i1:(k:Int)≤(n:Int):=by omega
 have i2:(n:Int)≤(c:Int):=by omega
 unfold execOp
 simp only [ho,hx,Option.map,hy]
 go_simp
 split <;> (try rfl) <;> (cases A <;> rfl)
theorem wpList_cutCe {o:Oper} {a:Act} {w:World} {ops:Array Oper} {rest:List Oper} {Q:Exit→Act→World→Prop} (hgd:o.guard=none) (x y:Operand) (ho:o.op=.slice 96 x (some y) none none) (A:Option Addr) (n c k:Nat) (hx:a.eval x=.slice A n c) (hy:a.eval y=.int .i64 (k:Int)) (hkn:k≤n) (hnc:n≤c)
  (h:∀ A8,Hid ((if c=k then A else A.map (·.add (k * 10)))=A8)→wpList Tryz.prog ops Q rest (a.put o.dst (.slice A8 (n - k) (c - k))) w):wpList Tryz.prog ops Q (o :: rest) a w :=
 wpList_val hgd (exec_cutCe x y ho A n c k hx hy hkn hnc) (h _ (zh rfl))
def negB (C:List DeR) (c:CeR):Bool:=kindB c && decide (getC C c < 0)
def negK (C:List DeR) (k:Nat):List CeR:=canonO ltCe (((C.take k).map DeR.c).filter (negB C))
theorem negK_succ {C:List DeR} {k:Nat} (h:k < C.length):negK C (k+1)=if negB C (nthG C k).c=true then insO ltCe (nthG C k).c (negK C k) else negK C k:=by
 unfold negK
 rw [take_nthG h,List.map_append,List.filter_append,List.map_cons,List.map_nil,List.filter_cons,List.filter_nil]
 split
 ·rw [canonO_snoc]
 ·rw [List.append_nil]
theorem negK_all (C:List DeR):negK C C.length=negL C:=by unfold negK negL negB;rw [List.take_length]
theorem mem_negK {C:List DeR} {k:Nat} {c:CeR}:c ∈ negK C k ↔ (∃ d,d ∈ C.take k∧d.c=c)∧negB C c=true:=by
 unfold negK
 rw [mem_canonO ltCe_sto,List.mem_filter,List.mem_map]
theorem insO_mem {β:Type} [DecidableEq β] {lt:β→β→Bool} (h:STO lt) (x:β):∀ (L:List β),Asc lt L→x ∈ L→insO lt x L=L
 | [],_,hx=>by cases hx
 | y :: r,ha,hx=>by
  obtain ⟨h1,h2⟩:=List.pairwise_cons.1 ha
  unfold insO
  rcases List.mem_cons.1 hx with rfl | hx
  ·rw [if_neg (by rw [h.irrefl];decide),if_pos rfl]
  ·rw [if_pos (h1 x hx),insO_mem h x r h2 hx]
theorem asc_negK (C:List DeR) (k:Nat):Asc ltCe (negK C k):=asc_canonO ltCe_sto _
theorem negK_no {C:List DeR} {k:Nat} (h:k < C.length) (hb:negB C (nthG C k).c=false):negK C (k+1)=negK C k:=by rw [negK_succ h,if_neg (by rw [hb];decide)]
theorem negK_old {C:List DeR} {k j:Nat} (h:k < C.length) (hj:j < k) (he:(nthG C j).c=(nthG C k).c):negK C (k+1)=negK C k:=by
 rw [negK_succ h]
 split
 ·rename_i hb
  refine insO_mem ltCe_sto _ _ (asc_negK C k) (mem_negK.2 ⟨⟨nthG C j,?_,he⟩,hb⟩)
  have h1:(C.take k)[j]?=some (nthG C j):=by rw [List.getElem?_take_of_lt hj];exact nthG_get (by omega)
  exact List.mem_of_getElem? h1
 ·rfl
theorem negK_at {C:List DeR} {k p:Nat} (h:k < C.length) (hb:negB C (nthG C k).c=true) (hf:∀ j,j < k→(nthG C j).c ≠ (nthG C k).c) (hp:p≤(negK C k).length)
  (h1:∀ j,j < p→ltCe (nthG (negK C k) j) (nthG C k).c=true) (h2:p < (negK C k).length→ltCe (nthG (negK C k) p) (nthG C k).c=false) :
  negK C (k+1)=(negK C k).take p ++ (nthG C k).c :: (negK C k).drop p:=by
 rw [negK_succ h,if_pos hb]
 refine insO_at _ _ p hp (fun j hj hl=>by rw [nthG_eq hl];exact h1 j hj) (fun hl=>⟨by rw [nthG_eq hl];exact h2 hl,fun e=>?_⟩)
 have hm:(nthG C k).c ∈ negK C k:=by rw [← e];exact List.getElem_mem hl
 obtain ⟨⟨d,hd,he⟩,-⟩:=mem_negK.1 hm
 obtain ⟨j,hj⟩:=List.mem_iff_getElem?.1 hd
 rw [List.getElem?_take] at hj
 split at hj
 ·rename_i hjk
  rw [nthG_get (by omega)] at hj
  injection hj with hj
  exact hf j hjk (by rw [hj];exact he)
 ·cases hj
theorem negK_wf {C:List DeR} {k:Nat} (h:∀ d ∈ C,deW d):∀ c ∈ negK C k,ceW c:=by
 intro c hc
 obtain ⟨⟨d,hd,rfl⟩,-⟩:=mem_negK.1 hc
 exact (h d (List.mem_of_mem_take hd)).1
theorem insO_len {β:Type} [DecidableEq β] {lt:β→β→Bool} (x:β) (L:List β):(insO lt x L).length≤L.length+1:=by
 induction L with
 | nil=>exact Nat.le_refl _
 | cons y r ih =>
  unfold insO
  split
  ·simp only [List.length_cons];omega
  ·split <;> simp only [List.length_cons] <;> omega
theorem canonO_len {β:Type} [DecidableEq β] (lt:β→β→Bool) (L:List β):(canonO lt L).length≤L.length:=by
 have H:∀ (L acc:List β),(insAll lt acc L).length≤acc.length+L.length:=by
  intro L
  induction L with
  | nil=>intro acc;exact Nat.le_refl _
  | cons x r ih =>
   intro acc
   have h1:=ih (insO lt x acc)
   have h2:=insO_len (lt:=lt) x acc
   rw [List.length_cons]
   show (insAll lt (insO lt x acc) r).length≤_
   omega
 have:=H L []
 simpa [canonO] using this
theorem negK_len (C:List DeR) (k:Nat):(negK C k).length≤k:=by
 induction k with
 | zero=>unfold negK;rw [List.take_zero];exact Nat.le_refl _
 | succ k ih =>
  by_cases h:k < C.length
  ·rw [negK_succ h]
   split
   ·have := insO_len (lt := ltCe) (nthG C k).c (negK C k)
    omega
   ·omega
  ·have : negK C (k + 1) = negK C k := by unfold negK; rw [List.take_of_length_le (by omega), List.take_of_length_le (by omega)]
   rw [this];omega
theorem cov_keep {c:CeR}:∀ (L:List CeR) (C:List DeR),polC ≠ c→c ∉ L→getC (L.foldl cov1 C) c=getC C c
 | [],_,_,_=>rfl
 | d :: r,C,h1,h2=>by
  rw [List.foldl_cons,cov_keep r _ h1 (fun h=>h2 (List.mem_cons_of_mem _ h)),cov1_ne h1 (fun e=>h2 (by rw [← e];exact List.mem_cons_self ..))]
theorem cov_stop:∀ (L:List CeR) (C:List DeR),getC C polC≤0→L.foldl cov1 C=C
 | [],_,_=>rfl
 | d :: r,C,h=>by
  rw [List.foldl_cons,show cov1 C d=C from if_pos (.inl h)];exact cov_stop r C h
theorem cov_neg_at {C:List DeR} {k:Nat} (h:k < (negL C).length):getC (((negL C).take k).foldl cov1 C) (nthG (negL C) k) < 0:=by
 have hm:nthG (negL C) k ∈ negL C:=nthG_mem h
 have hm2:nthG (negL C) k ∈ negK C C.length:=by rw [negK_all];exact hm
 have hb:=(mem_negK.1 hm2).2
 unfold negB at hb
 rw [Bool.and_eq_true,decide_eq_true_eq] at hb
 have hnd:(negL C).Nodup:=asc_nodup ltCe_sto (asc_canonO ltCe_sto _)
 rw [cov_keep _ _ (fun e=>?_) (fun hin=>?_)]
 ·exact hb.2
 ·have h1 := hb.1
  rw [← e] at h1;exact absurd h1 (by decide)
 ·have h3 := take_nthG h
  have h4:((negL C).take (k+1)).Nodup:=hnd.sublist (List.take_sublist _ _)
  rw [h3,List.nodup_append] at h4
  exact h4.2.2 _ hin _ (List.mem_singleton.2 rfl) rfl
theorem cov_end {C:List DeR} {k:Nat} (h:getC (((negL C).take k).foldl cov1 C) polC≤0):((negL C).take k).foldl cov1 C=covC C:=by
 rw [covC_neg]
 conv=>rhs;rw [← List.take_append_drop k (negL C),List.foldl_append]
 exact (cov_stop _ _ h).symm
theorem CvB.bd6 {w wr w':World} {s0:StR} {A:Option Addr} {n c:Nat} {L:List CeR} {k:Nat} {s:StR} (h:CvB w wr s0.V A n c L k s) (h0:s0.ok w') (hL:L.length≤200000) (hn:s0.n1≤200000∧s0.n2≤200000∧s0.n3≤200000∧s0.n4≤200000):s.n1≤700000∧s.n2≤700000∧s.n3≤700000∧s.n4≤700000:=by
 have e1:s.C=_:=congrArg StV.C h.v
 have e2:s.Q=s0.Q:=congrArg StV.Q h.v
 have e3:s.K=s0.K:=congrArg StV.K h.v
 have e4:s.P=s0.P:=congrArg StV.P h.v
 have m1:=h.st.own.l1
 have m2:=h.st.own.l2
 have m3:=h.st.own.l3
 have m4:=h.st.own.l4
 have l1:=h0.s1.len
 have l2:=h0.s2.len
 have l3:=h0.s3.len
 have l4:=h0.s4.len
 rw [e1] at m1;rw [e2] at m2;rw [e3] at m3;rw [e4] at m4
 have h5:=covN_len (L.take k) s0.V.C
 have e6:s0.V.C=s0.C:=rfl
 have h8:(L.take k).length≤200000:=Nat.le_trans (by rw [List.length_take];exact Nat.min_le_right _ _) hL
 rw [e6] at h5
 rw [e6] at m1
 generalize (List.foldl cov1 s0.C (List.take k L)).length=z at *
 generalize (List.take k L).length=y at *
 omega
theorem rCover_any (s0:StR) (w:World) (h:s0.ok w) (hn:s0.n1≤200000∧s0.n2≤200000∧s0.n3≤200000∧s0.n4≤200000):Calls Tryz.prog 27 #[.agg (ssA s0)] w (StOut w (covS s0.V)):=by
 obtain ⟨W,hW,HB,HR,HE⟩:=en1 w s0
 obtain ⟨q0,q1,q2,q3,q4⟩:=ss_facts HB.out
 have HS0:=zh h
 have HN:=zh hn
 clear h hn
 go_enter Tryz.func27,Tryz.ntmps27
 go_wp2_with fail
 refine (rCopy_any s0 W (HS0.out.ext HE.out) (by have:=HN.out;omega)).mono ?_
 rintro e w5 ⟨s1,rfl,ho1,hv1,he5⟩
 clear q0 q1 q2 q3 q4
 go_upto_region 2 with ((with_reducible refine wpList_storeSs rfl (.tmp 1) (.tmp 13) rfl w.heap.size s1 rfl rfl (HB.out.ext he5) ?_);intro W7 h7)
 obtain ⟨HS7,hk7,HBD⟩:=cpS HS0 (by have:=HN.out;omega) HB HE ho1 hv1 he5 h7
 have HR7:=zh (hk7 _ _ _ HR.out (by omega))
 have HV1:=zh hv1
 clear hk7 h7 ho1 hv1 he5 HB HR HE
 have HOK:=zh HS7.out.own.ok
 have HLEN:=zh HS7.out.own.l1
 have HBS:=zh (show s1.n1≤200000∧s1.n2≤200000∧s1.n3≤200000∧s1.n4≤200000 from by
  have e:s1.V=s0.V:=HV1.out
  have e1:s1.C=s0.C:=congrArg StV.C e
  have e2:s1.Q=s0.Q:=congrArg StV.Q e
  have e3:s1.K=s0.K:=congrArg StV.K e
  have e4:s1.P=s0.P:=congrArg StV.P e
  have m1:=HOK.out.s1.len;have m2:=HOK.out.s2.len;have m3:=HOK.out.s3.len;have m4:=HOK.out.s4.len
  have l1:=HS0.out.s1.len;have l2:=HS0.out.s2.len;have l3:=HS0.out.s3.len;have l4:=HS0.out.s4.len
  rw [e1] at m1;rw [e2] at m2;rw [e3] at m3;rw [e4] at m4
  have:=HN.out
  omega)
 have HA0:=zh (show CvB w W7 s1.V none 0 0 (negK s1.C 0) 0 s1 from ⟨HS7.out,HR7.out,World.ownsRow_nil _ _ _ _,rfl⟩)
 clear HS7 HR7 HBD
 go_wp2_with fail
 go_loopw [3,4] (fun vc vi wr=>∃ (k:Nat) (A:Option Addr) (n c:Nat),vc=.slice A n c∧vi=.int .i64 (k:Int)∧k≤s1.n1∧Hid (CvB w wr s1.V A n c (negK s1.C k) 0 s1)) (fun _ i _=>s1.n1 - (intOf i).toNat)
 case atStart=>exact ⟨0,none,0,0,rfl,rfl,Nat.zero_le _,HA0⟩
 case round =>
  clear HA0
  obtain ⟨k,A,n,c,rfl,rfl,hk,HA⟩:=hrel
  by_cases hlt:k < s1.n1
  ·have i0 : (0 : Int) ≤ (k : Int) := by omega
   have i1:(k:Int) < (s1.n1:Int):=by omega
   have q0:=HA.out.st.blk.cell 0
   go_upto_region 6 with fail
   clear q0
   have hn91:s1.n1≤200000:=HBS.out.1
   obtain ⟨W3,hW3⟩:∃ W3,W3=wr:=⟨_,rfl⟩
   subst hW3
   obtain ⟨d,hd⟩:∃ d,nthG s1.C k=d:=⟨_,rfl⟩
   have HDD:=zh hd
   obtain ⟨bb,hab,-,hrow⟩:=own_at HA.out.st.own.o1 (show 0 < s1.n1 by omega)
   have HAB:=zh hab
   have hr1:W3.rangeAt bb (k * 11) (RowT.enc d):=by
    have h1:=el_at (L:=s1.C) (k:=k) hrow (by rw [HLEN.out];exact hlt)
    rw [Nat.zero_add,hd] at h1
    exact h1
   have hr:W3.rangeAt bb (k * 11) (RowT.enc d.c):=rangeAt_take (k:=10) hr1
   have HAM:=zh (fun (V:World) (e:Ext W3 V)=>show V.cell? ⟨bb,k * 11+10,none⟩=some (.int .i64 d.a) from by
    rw [← hd]
    obtain ⟨b2,e2,-,hr2⟩:=own_at (own_ext HA.out.st.own.o1 e) (show 0 < s1.n1 by omega)
    rw [HAB.out] at e2
    injection e2 with e3
    injection e3 with e4
    subst e4
    have h1:=el_at (k:=k) hr2 (by rw [HLEN.out];exact hlt)
    rw [Nat.zero_add] at h1
    exact h1 10 _ rfl)
   have HCW:=zh (show ceW d.c from (HA.out.st.own.k1 d (by rw [← hd];exact nthG_mem (by rw [HLEN.out];exact hlt))).1)
   obtain ⟨vc,hvc⟩:∃ v,Value.agg (ceA d.c)=v:=⟨_,rfl⟩
   have HVC:=zh hvc
   obtain ⟨X,hX⟩:∃ X,W3.heap.size=X:=⟨_,rfl⟩
   have HXS:=zh hX
   have HNN:=zh (show n≤200000 from by
    have h1:(negK s1.C k).length=n:=OwnG.len (e:=32) HA.out.row
    have h2:=negK_len s1.C k
    have:=HBS.out.1
    omega)
   have q9:W3.cell? ⟨w.heap.size,0,none⟩=some (.slice (some ⟨bb,0,none⟩) s1.n1 s1.c1):=by rw [← hab];exact HA.out.st.blk.cell 0
   clear hvc hX hrow hab hr1
   go_upto_region 7 with (first | (with_reducible refine wpList_loadG ceP rfl (.tmp 25) rfl bb (k * 11) rfl d.c vc HVC.out hr ?_) | ((with_reducible refine wpList_newG ceP rfl (.tmp 5) (.tmp 26) rfl ce0 rfl d.c vc HVC.out rfl rfl ?_);intro W4 h4))
   have HX4:=zh (show Ext W3 W4 from by rw [← h4.out];exact (Ext.refl W3).alloc' _)
   have HD:=zh (show Blk W4 X 32 (ceA d.c) from by rw [← h4.out,← HXS.out];exact Blk.new W3 32 (ceA d.c))
   have x0:W4.cell? ⟨X,0,none⟩=some (.int .i64 d.c.k):=HD.out.cell 0
   have HA4:=zh (HA.out.ext HX4.out)
   rw [HXS.out]
   clear h4 hr HA q9
   by_cases hk1:d.c.k < 1
   ·clear hd
    have HK1:=zh (show negK s1.C (k+1)=negK s1.C k from negK_no (by rw [HLEN.out];exact hlt) (by unfold negB kindB;rw [HDD.out,decide_eq_false (by omega)];rfl))
    have HF:=zh (show CvB w W4 s1.V A n c (negK s1.C (k+1)) 0 s1 from by rw [HK1.out];exact HA4.out)
    go_wp2_with fail
    go_roundw
    case rel=>exact ⟨k+1,A,n,c,rfl,by go_num,hlt,HF⟩
    case measure=>simp [intOf];omega
   by_cases hk2:d.c.k > 3
   ·clear hd
    have HK1:=zh (show negK s1.C (k+1)=negK s1.C k from negK_no (by rw [HLEN.out];exact hlt) (by unfold negB kindB;rw [HDD.out,decide_eq_false (by omega)];rfl))
    have HF:=zh (show CvB w W4 s1.V A n c (negK s1.C (k+1)) 0 s1 from by rw [HK1.out];exact HA4.out)
    go_wp2_with fail
    go_roundw
    case rel=>exact ⟨k+1,A,n,c,rfl,by go_num,hlt,HF⟩
    case measure=>simp [intOf];omega
   have HAT:=zh (rAt_any s1 d.c W4 HA4.out.st.own.ok HCW.out)
   rw [HVC.out] at HAT
   obtain ⟨q0,q1,q2,q3,q4⟩:=ss_facts HA4.out.st.blk
   have rc:W4.rangeAt X 0 (RowT.enc d.c):=rangeAt_of_blk HD.out
   go_wp2_with (with_reducible refine wpList_loadGg ceP (by with_unfolding_all rfl) (.tmp 5) rfl X 0 rfl d.c vc HVC.out rc ?_)
   refine HAT.out.mono ?_
   rintro e W5 ⟨r,rfl,hix,he5⟩
   have HA5:=zh (HA4.out.ext he5)
   have HD5:=zh (HD.out.ext he5)
   have q9:W5.cell? ⟨w.heap.size,0,none⟩=some (.slice (some ⟨bb,0,none⟩) s1.n1 s1.c1):=by rw [← HAB.out];exact HA5.out.st.blk.cell 0
   have c9:=HAM.out W5 (HX4.out.trans he5)
   clear q0 q1 q2 q3 q4 rc HAT he5 HA4 HD HX4 x0
   have q0:True:=trivial
   have HKL:=zh (show k < s1.C.length from by rw [HLEN.out];exact hlt)
   rcases hix with ⟨rfl,hno⟩ | ⟨j,rfl,hj,hj1,hj2⟩
   ·exfalso
    have:=hno k HKL.out
    rw [hd] at this
    exact absurd rfl (of_decide_eq_false this)
   have hjk:j≤k:=by
    refine Nat.le_of_not_lt (fun hl=>?_)
    have:=hj2 k hl
    rw [hd] at this
    exact absurd rfl (of_decide_eq_false this)
   have HJ1:=zh hj1
   have HJF:=zh hj2
   clear hj hj1 hj2
   by_cases hjk2:j=k
   ·obtain rfl : k = j := hjk2.symm
    clear hjk hjk2
    by_cases hng:0≤d.a
    ·clear hd
     have HK1:=zh (show negK s1.C (k+1)=negK s1.C k from negK_no HKL.out (by unfold negB;rw [getC_of (fd_some HKL.out (by rw [HDD.out];exact decide_eq_true rfl) (fun i hi=>by rw [HDD.out];exact HJF.out i hi)),HDD.out,decide_eq_false (show ¬ amt (some d) < 0 from by show ¬ d.a < 0;omega),Bool.and_false]))
     have HF:=zh (show CvB w W5 s1.V A n c (negK s1.C (k+1)) 0 s1 from by rw [HK1.out];exact HA5.out)
     go_wp2_with fail
     go_roundw
     case rel=>exact ⟨k+1,A,n,c,rfl,by go_num,hlt,HF⟩
     case measure=>simp [intOf];omega
    ·have HNB:=zh (show negB s1.C d.c=true from by
      unfold negB kindB
      rw [getC_of (fd_some (by rw [HLEN.out];exact hlt) (by rw [HDD.out];exact decide_eq_true rfl) HJF.out),HDD.out,decide_eq_true (show 1≤d.c.k∧d.c.k≤3 by omega),decide_eq_true (show amt (some d) < 0 from by show d.a < 0;omega)];rfl)
     go_wp2_with fail
     clear q0 q9 c9 hk1 hk2 hng hd
     have hn92:=HNN.out
     go_loopw [6] (fun vp wr=>∃ p:Nat,vp=.int .i64 (p:Int)∧p≤n∧Hid (∀ j,j < p→ltCe (nthG (negK s1.C k) j) d.c=true)∧Hid (Ext W5 wr)) (fun i _=>n - (intOf i).toNat)
     case atStart=>exact ⟨0,rfl,Nat.zero_le _,zh (fun j hj=>absurd hj (Nat.not_lt_zero _)),zh (Ext.refl _)⟩
     case round =>
      obtain ⟨p,rfl,hp,HPJ,HXW⟩:=hrel
      have HKN:=zh hp
      by_cases hlp:p < n
      ·have j0 : (0 : Int) ≤ (p : Int) := by omega
       have j1:(p:Int) < (n:Int):=by omega
       obtain ⟨y,hy⟩:∃ d,nthG (negK s1.C k) p=d:=⟨_,rfl⟩
       have HYD:=zh hy
       obtain ⟨g,hag,-,-⟩:=own_at HA5.out.row (show 0 < n by omega)
       subst hag
       have HYR:=zh (fun (V:World) (e:Ext W5 V)=>show V.rangeAt g (p * 10) (RowT.enc y) from by
        rw [← hy]
        obtain ⟨b2,e2,-,hr2⟩:=own_at (own_ext HA5.out.row e) (show 0 < n by omega)
        injection e2 with e3
        injection e3 with e4
        subst e4
        have h1:=el_at (k:=p) hr2 (by rw [OwnG.len (e:=32) HA5.out.row];exact hlp)
        rw [Nat.zero_add] at h1
        exact h1)
       obtain ⟨vy,hvy⟩:∃ v,Value.agg (ceA y)=v:=⟨_,rfl⟩
       have HVY:=zh hvy
       have HCMP:=zh (fun V=>rCompareC_any y d.c V)
       rw [hvy,HVC.out] at HCMP
       cases hb:ltCe y d.c with
       | true =>
        have b1:cmpC y d.c < 0:=by
         have:=cmpC_neg y d.c
         rw [hb,decide_eq_true_eq] at this
         exact this
        have HPN:=zh (show ltCe (nthG (negK s1.C k) p) d.c=true from by rw [HYD.out];exact hb)
        clear hy hvy hb
        go_upto_region 9 with fail
        refine wp_region_held_drew (S:=fun V=>Blk V X 32 (ceA d.c)∧Ext W5 V) (by kernel_rfl) (⟨(HD5.out.ext HXW.out).drew,HXW.out.trans ((Ext.refl _).drew')⟩) (fun hHeld=>?_)
        refine zzr [0,1,2,3,4,5,6,7] ?_
        refine zu 8 (v:=vy) hHeld ?_ (hy:=by exact yields_loadG ceP (by rfl) (.tmp 58) (by rfl) g (p * 10) (by rfl) y vy HVY.out (fun V h=>HYR.out V h.2))
        refine zu 9 (v:=vc) hHeld ?_ (hy:=by exact yields_loadG ceP (by rfl) (.tmp 5) (by rfl) X 0 (by rfl) d.c vc HVC.out (fun V h=>rangeAt_of_blk h.1))
        refine za 10 (fun K hK=>?_)
        (go_simp;go_at_call 71;refine (HCMP.out _).mono ?_;rintro e w8 ⟨rfl,he8⟩)
        refine hK.out _ _ (⟨hHeld.1.ext he8,hHeld.2.trans he8⟩) (fun hHeld=>?_)
        clear hK K
        try simp only [lays]
        refine zzr [11,12] ?_
        refine wpAnyH_done (by kernel_rfl) ?_ _
        have HX8:=zh hHeld.2
        clear hHeld HVY HCMP HYR
        go_wp2_with fail
        go_roundw
        case rel=>exact ⟨p+1,by go_num,hlp,zh (fun j hj=>by
         rcases (by omega:j < p ∨ j=p) with hj | rfl
         ·exact HPJ.out j hj
         ·exact HPN.out),HX8⟩
        case measure=>simp [intOf];omega
       | false =>
        have b1:¬ cmpC y d.c < 0:=by
         have:=cmpC_neg y d.c
         rw [hb,decide_eq_false_iff_not] at this
         exact this
        have HPK:=zh (show p < n→ltCe (nthG (negK s1.C k) p) d.c=false from fun _=>by rw [HYD.out];exact hb)
        clear hy hvy hb
        go_upto_region 9 with fail
        refine wp_region_held_drew (S:=fun V=>Blk V X 32 (ceA d.c)∧Ext W5 V) (by kernel_rfl) (⟨(HD5.out.ext HXW.out).drew,HXW.out.trans ((Ext.refl _).drew')⟩) (fun hHeld=>?_)
        refine zzr [0,1,2,3,4,5,6,7] ?_
        refine zu 8 (v:=vy) hHeld ?_ (hy:=by exact yields_loadG ceP (by rfl) (.tmp 58) (by rfl) g (p * 10) (by rfl) y vy HVY.out (fun V h=>HYR.out V h.2))
        refine zu 9 (v:=vc) hHeld ?_ (hy:=by exact yields_loadG ceP (by rfl) (.tmp 5) (by rfl) X 0 (by rfl) d.c vc HVC.out (fun V h=>rangeAt_of_blk h.1))
        refine za 10 (fun K hK=>?_)
        (go_simp;go_at_call 71;refine (HCMP.out _).mono ?_;rintro e w8 ⟨rfl,he8⟩)
        refine hK.out _ _ (⟨hHeld.1.ext he8,hHeld.2.trans he8⟩) (fun hHeld=>?_)
        clear hK K
        try simp only [lays]
        refine zzr [11,12] ?_
        refine wpAnyH_done (by kernel_rfl) ?_ _
        have HX8:=zh hHeld.2
        clear hHeld HVY HCMP HYR
        go_upto_region 11 with fail
        obtain ⟨W8,hW8⟩:∃ W8,W8=w8:=⟨_,rfl⟩
        subst hW8
        clear b1 j0 j1
        obtain ⟨A,hA⟩:∃ A,(some ⟨g,0,none⟩:Option Addr)=A:=⟨_,rfl⟩
        rw [hA] at HA5 ⊢
        clear hA
        have HA8:=zh (HA5.out.ext HX8.out)
        have HD8:=zh (HD5.out.ext HX8.out)
        have HSL:=zh (show SlG W8 A n c (negK s1.C k) from OwnG.sl HA8.out.row (fun R hR=>negK_wf (fun d hd=>HA8.out.st.own.k1 d hd) R hR))
        have HNX:=zh (show negK s1.C (k+1)=(negK s1.C k).take p ++ d.c :: (negK s1.C k).drop p from by
         have h1:=negK_at (C:=s1.C) (k:=k) (p:=p) (by rw [HLEN.out];exact hlt) (by rw [HDD.out];exact HNB.out) (fun j hj=>by rw [HDD.out];exact of_decide_eq_false (HJF.out j hj)) (by rw [HSL.out.len];exact HKN.out) (fun j hj=>by rw [HDD.out];exact HPJ.out j hj) (fun hl=>by rw [HDD.out];exact HPK.out (by rw [← HSL.out.len];exact hl))
         rw [HDD.out] at h1
         exact h1)
        have hkn:p≤n:=HKN.out
        have hnc:n≤c:=HSL.out.le
        have hcm:c≤9223372036854775807:=HSL.out.cap
        have hn9:=HNN.out
        have z0:(0:Int)≤(p:Int):=by omega
        have z1:(p:Int)≤(n:Int):=by omega
        have z2:(p:Int)≤(c:Int):=by omega
        have z3:(n:Int)≤(c:Int):=by omega
        go_upto_region 12 with (first | ((with_reducible refine wpList_bs0 (size:=10) rfl rfl run_bsCe0 ?_);intro A5 W5' h5;have HO5:=zh h5.out.1;have HX5:=zh h5.out.2;have HU5:=zh ((HSL.out.ext h5.out.2).upto hkn (Nat.le_trans hkn hnc) hcm);have HL5:=zh (show (gcs ((negK s1.C k).take p)).length=p * 10 from by rw [gcs_length,HU5.out.len];rfl)) | (at_builtin;go_must (refine wpList_app0 ceE rfl (.tmp 66) (.tmp 69) rfl W8.heap.size A5 rfl HO5.out A p c (gcs ((negK s1.C k).take p)) rfl HU5.out.rd HL5.out (gcs_cell _) (by omega) (by omega) HX5.out.size ?_;intro A6 c6 W6 ho6 he6)))
        have HO6:=zh ho6
        have HX6:=zh (HX5.out.trans he6)
        have HD6:=zh (HD8.out.ext HX6.out)
        clear ho6 he6 h5 HO5 HX5 HU5 HL5
        have HBC:=zh (fun W=>run_buildCe d.c W)
        rw [HVC.out] at HBC
        have rc:W6.rangeAt X 0 (RowT.enc d.c):=rangeAt_of_blk HD6.out
        go_upto_region 13 with (first | (with_reducible refine wpList_loadG ceP rfl (.tmp 5) rfl X 0 rfl d.c vc HVC.out rc ?_) | ((with_reducible refine wpList_bs1 (vx:=vc) rfl (.tmp 72) rfl rfl (HBC.out _) ?_);intro g7 W7' h7;have HO7:=zh (own_ext HO6.out h7.out.2.1);have HZ7:=zh (Nat.le_trans HX6.out.size h7.out.2.1.size);have HRE:=zh (show Rd W7' (some ⟨g7,0,none⟩) (RowT.enc d.c) from Rd.of_blk h7.out.1);have HLE:=zh (show (RowT.enc d.c).length=1 * 10 from by rw [RowT.len];rfl)) | (at_builtin;go_must (refine wpList_appGG ceE rfl (.tmp 71) (.tmp 73) rfl W8.heap.size A6 p c6 _ rfl HO7.out (some ⟨g7,0,none⟩) 1 1 (RowT.enc d.c) rfl HRE.out HLE.out (RowT.one d.c) (by omega) (by omega) HZ7.out ?_;intro A9 c9 W9 ho9 hg9)))
        have HX9:=zh (show Ext W8 W9 from Below.grown (HX6.out.trans h7.out.2.1) hg9 (HX6.out.trans h7.out.2.1).size (fun q hq=>(World.ownsRow.lt HO7.out q hq).1))
        have HO9:=zh (show W9.ownsRow W8.heap.size 32 10 (.slice A9 (p+1) c9) (p+1) (gcs ((negK s1.C k).take p ++ [d.c])) from by rw [gcs_append,gcs_one];exact ho9)
        have HRD:=zh (HSL.out.ext HX9.out).rd
        have HSN:=zh HSL.out.len
        clear h7 ho9 hg9 HO7 HRE HX6 HO6 HD6 rc
        go_wp2_with (first | ((with_reducible refine wpList_cutCe rfl (.tmp 76) (.tmp 77) rfl A n c p rfl rfl hkn hnc ?_);intro A8 h8;have HR8':=zh (show Rd W9 A8 (gcs ((negK s1.C k).drop p)) from by rw [← h8.out];exact Rd.cutG HRD.out rfl HSN.out hkn hnc);have HL8:=zh (show (gcs ((negK s1.C k).drop p)).length=(n - p) * 10 from by rw [gcs_length,List.length_drop,HSN.out];rfl)) | (at_builtin;go_must (refine wpList_appGG ceE rfl (.tmp 75) (.tmp 78) rfl W8.heap.size A9 (p+1) c9 _ rfl HO9.out A8 (n - p) (c - p) (gcs ((negK s1.C k).drop p)) rfl HR8'.out HL8.out (gcs_cell _) (by omega) (by omega) HX9.out.size ?_;intro A10 c10 W10 ho10 hg10;have HX10:=zh (show Ext W8 W10 from Below.grown HX9.out hg10 HX9.out.size (fun q hq=>(World.ownsRow.lt HO9.out q hq).1)))))
        have HF:=zh (show CvB w W10 s1.V A10 (p+1+(n - p)) c10 (negK s1.C (k+1)) 0 s1 from ⟨HA8.out.st.ext HX10.out,HA8.out.res.ext HX10.out,by
         rw [HNX.out]
         have:=ho10
         rw [← gcs_append,List.append_assoc] at this
         exact own_mono this HA8.out.st.low.size,HA8.out.v⟩)
        clear h8 ho10 hg10 HR8' HL8 HRD HSN HO9 HX9 HX10 z0 z1 z2 z3
        go_roundw
        case rel=>exact ⟨k+1,A10,p+1+(n - p),c10,rfl,by go_num,hlt,HF⟩
        case measure=>simp [intOf];omega
      ·have j1 : ¬ (p : Int) < (n : Int) := by omega
       have HPK:=zh (show p < n→ltCe (nthG (negK s1.C k) p) d.c=false from fun h=>absurd h hlp)
       go_upto_region 9 with fail
       refine wp_region_held_drew (S:=fun V=>Blk V X 32 (ceA d.c)∧Ext W5 V) (by kernel_rfl) (⟨(HD5.out.ext HXW.out).drew,HXW.out.trans ((Ext.refl _).drew')⟩) (fun hHeld=>?_)
       refine zzr [0,1,2,3,4] ?_
       (refine zs 5 hHeld ?_)
       (refine zs 6 hHeld ?_)
       (refine zs 7 hHeld ?_)
       (refine zs 8 hHeld ?_)
       (refine zs 9 hHeld ?_)
       (refine zs 10 hHeld ?_)
       (refine zs 11 hHeld ?_)
       refine zt 12 hHeld ?_
       refine wpAnyH_done (by kernel_rfl) ?_ _
       have HX8:=zh hHeld.2
       clear hHeld
       go_upto_region 11 with fail
       obtain ⟨W8,hW8⟩:∃ W8,wr.drew=W8:=⟨_,rfl⟩
       rw [hW8] at HX8 ⊢
       clear hW8 j1
       have HA8:=zh (HA5.out.ext HX8.out)
       have HD8:=zh (HD5.out.ext HX8.out)
       have HSL:=zh (show SlG W8 A n c (negK s1.C k) from OwnG.sl HA8.out.row (fun R hR=>negK_wf (fun d hd=>HA8.out.st.own.k1 d hd) R hR))
       have HNX:=zh (show negK s1.C (k+1)=(negK s1.C k).take p ++ d.c :: (negK s1.C k).drop p from by
        have h1:=negK_at (C:=s1.C) (k:=k) (p:=p) (by rw [HLEN.out];exact hlt) (by rw [HDD.out];exact HNB.out) (fun j hj=>by rw [HDD.out];exact of_decide_eq_false (HJF.out j hj)) (by rw [HSL.out.len];exact HKN.out) (fun j hj=>by rw [HDD.out];exact HPJ.out j hj) (fun hl=>by rw [HDD.out];exact HPK.out (by rw [← HSL.out.len];exact hl))
        rw [HDD.out] at h1
        exact h1)
       have hkn:p≤n:=HKN.out
       have hnc:n≤c:=HSL.out.le
       have hcm:c≤9223372036854775807:=HSL.out.cap
       have hn9:=HNN.out
       have z0:(0:Int)≤(p:Int):=by omega
       have z1:(p:Int)≤(n:Int):=by omega
       have z2:(p:Int)≤(c:Int):=by omega
       have z3:(n:Int)≤(c:Int):=by omega
       go_upto_region 12 with (first | ((with_reducible refine wpList_bs0 (size:=10) rfl rfl run_bsCe0 ?_);intro A5 W5' h5;have HO5:=zh h5.out.1;have HX5:=zh h5.out.2;have HU5:=zh ((HSL.out.ext h5.out.2).upto hkn (Nat.le_trans hkn hnc) hcm);have HL5:=zh (show (gcs ((negK s1.C k).take p)).length=p * 10 from by rw [gcs_length,HU5.out.len];rfl)) | (at_builtin;go_must (refine wpList_app0 ceE rfl (.tmp 66) (.tmp 69) rfl W8.heap.size A5 rfl HO5.out A p c (gcs ((negK s1.C k).take p)) rfl HU5.out.rd HL5.out (gcs_cell _) (by omega) (by omega) HX5.out.size ?_;intro A6 c6 W6 ho6 he6)))
       have HO6:=zh ho6
       have HX6:=zh (HX5.out.trans he6)
       have HD6:=zh (HD8.out.ext HX6.out)
       clear ho6 he6 h5 HO5 HX5 HU5 HL5
       have HBC:=zh (fun W=>run_buildCe d.c W)
       rw [HVC.out] at HBC
       have rc:W6.rangeAt X 0 (RowT.enc d.c):=rangeAt_of_blk HD6.out
       go_upto_region 13 with (first | (with_reducible refine wpList_loadG ceP rfl (.tmp 5) rfl X 0 rfl d.c vc HVC.out rc ?_) | ((with_reducible refine wpList_bs1 (vx:=vc) rfl (.tmp 72) rfl rfl (HBC.out _) ?_);intro g7 W7' h7;have HO7:=zh (own_ext HO6.out h7.out.2.1);have HZ7:=zh (Nat.le_trans HX6.out.size h7.out.2.1.size);have HRE:=zh (show Rd W7' (some ⟨g7,0,none⟩) (RowT.enc d.c) from Rd.of_blk h7.out.1);have HLE:=zh (show (RowT.enc d.c).length=1 * 10 from by rw [RowT.len];rfl)) | (at_builtin;go_must (refine wpList_appGG ceE rfl (.tmp 71) (.tmp 73) rfl W8.heap.size A6 p c6 _ rfl HO7.out (some ⟨g7,0,none⟩) 1 1 (RowT.enc d.c) rfl HRE.out HLE.out (RowT.one d.c) (by omega) (by omega) HZ7.out ?_;intro A9 c9 W9 ho9 hg9)))
       have HX9:=zh (show Ext W8 W9 from Below.grown (HX6.out.trans h7.out.2.1) hg9 (HX6.out.trans h7.out.2.1).size (fun q hq=>(World.ownsRow.lt HO7.out q hq).1))
       have HO9:=zh (show W9.ownsRow W8.heap.size 32 10 (.slice A9 (p+1) c9) (p+1) (gcs ((negK s1.C k).take p ++ [d.c])) from by rw [gcs_append,gcs_one];exact ho9)
       have HRD:=zh (HSL.out.ext HX9.out).rd
       have HSN:=zh HSL.out.len
       clear h7 ho9 hg9 HO7 HRE HX6 HO6 HD6 rc
       go_wp2_with (first | ((with_reducible refine wpList_cutCe rfl (.tmp 76) (.tmp 77) rfl A n c p rfl rfl hkn hnc ?_);intro A8 h8;have HR8':=zh (show Rd W9 A8 (gcs ((negK s1.C k).drop p)) from by rw [← h8.out];exact Rd.cutG HRD.out rfl HSN.out hkn hnc);have HL8:=zh (show (gcs ((negK s1.C k).drop p)).length=(n - p) * 10 from by rw [gcs_length,List.length_drop,HSN.out];rfl)) | (at_builtin;go_must (refine wpList_appGG ceE rfl (.tmp 75) (.tmp 78) rfl W8.heap.size A9 (p+1) c9 _ rfl HO9.out A8 (n - p) (c - p) (gcs ((negK s1.C k).drop p)) rfl HR8'.out HL8.out (gcs_cell _) (by omega) (by omega) HX9.out.size ?_;intro A10 c10 W10 ho10 hg10;have HX10:=zh (show Ext W8 W10 from Below.grown HX9.out hg10 HX9.out.size (fun q hq=>(World.ownsRow.lt HO9.out q hq).1)))))
       have HF:=zh (show CvB w W10 s1.V A10 (p+1+(n - p)) c10 (negK s1.C (k+1)) 0 s1 from ⟨HA8.out.st.ext HX10.out,HA8.out.res.ext HX10.out,by
        rw [HNX.out]
        have:=ho10
        rw [← gcs_append,List.append_assoc] at this
        exact own_mono this HA8.out.st.low.size,HA8.out.v⟩)
       clear h8 ho10 hg10 HR8' HL8 HRD HSN HO9 HX9 HX10 z0 z1 z2 z3
       go_roundw
       case rel=>exact ⟨k+1,A10,p+1+(n - p),c10,rfl,by go_num,hlt,HF⟩
       case measure=>simp [intOf];omega
   ·have b9 : ((j : Int) == (k : Int)) = false := beq_eq_false_iff_ne.2 (by omega)
    have e9:decide ((j:Int)=(k:Int))=false:=decide_eq_false (by omega)
    have n9:¬ (j:Int)=(k:Int):=by omega
    have HJK:=zh (show j < k from by omega)
    clear hjk2 hd
    have HK1:=zh (show negK s1.C (k+1)=negK s1.C k from negK_old HKL.out HJK.out (by rw [HDD.out];exact of_decide_eq_true HJ1.out))
    have HF:=zh (show CvB w W5 s1.V A n c (negK s1.C (k+1)) 0 s1 from by rw [HK1.out];exact HA5.out)
    go_wp2_with fail
    go_roundw
    case rel=>exact ⟨k+1,A,n,c,rfl,by go_num,hlt,HF⟩
    case measure=>simp [intOf];omega
  ·obtain rfl : k = s1.n1 := by omega
   obtain ⟨W2,hW2⟩:∃ W2,W2=wr:=⟨_,rfl⟩
   subst hW2
   have i1:¬ (s1.n1:Int) < (s1.n1:Int):=by omega
   have HNL:=zh (show negK s1.C s1.n1=negL s1.C from by rw [← HLEN.out];exact negK_all s1.C)
   have HA1:=HA
   rw [HNL.out] at HA1
   have HLL:=zh (show (negL s1.C).length=n from OwnG.len (e:=32) HA1.out.row)
   have HLW:=zh (show ∀ c ∈ negL s1.C,ceW c from by rw [← HNL.out];exact negK_wf (fun d hd=>HA1.out.st.own.k1 d hd))
   have hnb:n≤200000:=by
    have h2:=negK_len s1.C s1.n1
    rw [HNL.out,HLL.out] at h2
    have:=HBS.out.1
    omega
   have q0:=HA1.out.st.blk.cell 0
   go_wp2_with fail
   clear HA q0
   go_loopw [8] (fun vi wr=>∃ (k:Nat) (s:StR),vi=.int .i64 (k:Int)∧k≤n∧Hid (CvB w wr s1.V A n c (negL s1.C) k s)) (fun i _=>n - (intOf i).toNat)
   case atStart=>exact ⟨0,s1,rfl,Nat.zero_le _,HA1⟩
   case round =>
    clear HA1 i1
    obtain ⟨k,s,rfl,hk2,HA⟩:=hrel
    by_cases hlt2:k < n
    ·have i0 : (0 : Int) ≤ (k : Int) := by omega
     have i1:(k:Int) < (n:Int):=by omega
     obtain ⟨W3,hW3⟩:∃ W3,W3=wr:=⟨_,rfl⟩
     subst hW3
     obtain ⟨cc,hcc⟩:∃ d,nthG (negL s1.C) k=d:=⟨_,rfl⟩
     obtain ⟨g,hab,-,-⟩:=own_at HA.out.row (by omega)
     subst hab
     have hKL:k < (negL s1.C).length:=by rw [HLL.out];exact hlt2
     have HKL:=zh hKL
     have HDR:=zh (fun (V:World) (e:Ext W3 V)=>show V.rangeAt g (k * 10) (RowT.enc cc) from by
      rw [← hcc]
      obtain ⟨b2,e2,-,hr2⟩:=own_at (own_ext HA.out.row e) (show 0 < n by omega)
      injection e2 with e3
      injection e3 with e4
      subst e4
      have h1:=el_at (k:=k) hr2 hKL
      rw [Nat.zero_add] at h1
      exact h1)
     have HCC:=zh hcc
     have HCW:=zh (show ceW cc from by rw [← hcc];exact HLW.out _ (nthG_mem hKL))
     have HCP:=zh (show ceW polC from ce_ok (k:=4) (i:=0) (wfS ⟨by omega,by omega⟩) (wfS ⟨by omega,by omega⟩))
     obtain ⟨vc,hvc⟩:∃ v,Value.agg (ceA cc)=v:=⟨_,rfl⟩
     have HVC:=zh hvc
     have HBD:=zh (HA.out.bd6 (w':=W7) (s0:=s1) HOK.out (by rw [HLL.out];omega) HBS.out)
     have hkw:∀ d ∈ s.C,deW d:=HA.out.st.own.k1
     obtain ⟨hv,hhv⟩:∃ z,getC s.C polC=z:=⟨_,rfl⟩
     obtain ⟨nv,hnv⟩:∃ z,getC s.C cc=z:=⟨_,rfl⟩
     have HHV:=zh hhv
     have HNV:=zh hnv
     have w1:in64 hv:=by rw [← hhv];exact wfI_in.1 (getC_wf hkw)
     have w2:in64 nv:=by rw [← hnv];exact wfI_in.1 (getC_wf hkw)
     unfold in64 at w1 w2
     have HW1:=zh w1
     have HW2:=zh w2
     have HNEG:=zh (show nv < 0 from by
      have h1:=cov_neg_at hKL
      rw [hcc] at h1
      have h2:s.C=((negL s1.C).take k).foldl cov1 s1.C:=congrArg StV.C HA.out.v
      rw [← h2,hnv] at h1
      exact h1)
     have HG1:=zh (fun (V:World) (e:Ext W3 V)=>rGet_any s polC V (HA.out.st.own.ok.ext e) HCP.out)
     have HG2:=zh (fun (V:World) (e:Ext W3 V)=>rGet_any s cc V (HA.out.st.own.ok.ext e) HCW.out)
     rw [hhv] at HG1
     rw [hnv,hvc] at HG2
     have HPB:=zh (fun (s2:StR) (V:World) (b:Nat) (b9:Int) (ho2:OwnS V b s2) (hv2:s2.V=⟨addC s.C polC b9,s.Q,s.K,s.P,s.G⟩)=>show s2.n1≤1000000∧s2.n2≤1000000∧s2.n3≤1000000∧s2.n4≤1000000 from by
      have e1:s2.C=addC s.C polC b9:=congrArg StV.C hv2
      have e2:s2.Q=s.Q:=congrArg StV.Q hv2
      have e3:s2.K=s.K:=congrArg StV.K hv2
      have e4:s2.P=s.P:=congrArg StV.P hv2
      have m1:=ho2.l1;have m2:=ho2.l2;have m3:=ho2.l3;have m4:=ho2.l4
      have l1:=HA.out.st.own.l1;have l2:=HA.out.st.own.l2;have l3:=HA.out.st.own.l3;have l4:=HA.out.st.own.l4
      rw [e1] at m1;rw [e2] at m2;rw [e3] at m3;rw [e4] at m4
      have h5:=addC_len s.C polC b9
      have:=HBD.out
      omega)
     clear hcc hvc hkw hKL w1 w2 hhv hnv
     go_upto_region 17 with fail
     refine wp_region_held_drew (S:=fun V=>Blk V w.heap.size 44 (ssA s)∧Ext W3 V) (by kernel_rfl) (⟨HA.out.st.blk.drew,(Ext.refl _).drew'⟩) (fun hHeld=>?_)
     refine zz0 [0,3,4,5,6] ?_;repeat first | refine zz1 ?_ (hy:=by intro W hSW;obtain ⟨q0,q1,q2,q3,q4⟩:=ss_facts hSW.1;go_simp <;> with_reducible rfl) | refine zz2 ?_ | refine zz9 ?_
     refine zu 7 (v:=vc) hHeld ?_ (hy:=by exact yields_loadG ceP (by rfl) (.tmp 92) (by rfl) g (k * 10) (by rfl) cc vc HVC.out (fun V h=>HDR.out V h.2))
     refine zzj (VE 1 (.agg (ceA polC)) (VE 2 (.int .i64 hv) (VE 8 (.int .i64 nv) VN))) [(1,some 87),(2,some 88),(8,some 94)] 2 (fun V V' h e=>⟨h.1.ext e,h.2.trans e⟩) (ve (ve (ve VN.ext))) (zzc ?_ (zzc ?_ (zzc ?_ zzn))) ?_
     ·refine zzp fun W hE hS K hK => ?_
      go_simp
      go_at_call 31
      refine (rPool_any _).mono ?_
      rintro e w5 ⟨rfl,he5⟩
      exact zzK (hK.out (.agg (ceA polC)) _ (he5) (rfl))
     ·refine zm [(1, some 87)] fun env W hE hS hD K hK => ?_
      obtain ⟨h1,-⟩:=zzV hD
      clear hD
      simp only [layj,h1] at hK ⊢
      clear h1
      go_simp
      go_at_call 30
      refine (HG1.out _ hS.2).mono ?_
      rintro e w5 ⟨rfl,he5⟩
      exact zzK (hK.out (.int .i64 hv) _ (he5) (rfl))
     ·refine zzp fun W hE hS K hK => ?_
      go_simp
      go_at_call 30
      refine (HG2.out _ hS.2).mono ?_
      rintro e w5 ⟨rfl,he5⟩
      exact zzK (hK.out (.int .i64 nv) _ (he5) (rfl))
     ·intro env W hE hS hV
      obtain ⟨h1,h2,h8,-⟩:=zzV hV
      clear hV
      simp only [layj,h1,h2,h8]
      clear h1
      clear h2
      clear h8
      have hHeld:=hS
      refine zzr [9,10] ?_
      refine wpAnyH_done (by kernel_rfl) ?_ _
      obtain ⟨w5,hw5⟩:∃ w5,W=w5:=⟨_,rfl⟩
      subst hw5
      have HXW:=zh hHeld.2
      have HA5:=zh (HA.out.ext HXW.out)
      have HVC5:=zh (show s.C=((negL s1.C).take k).foldl cov1 s1.V.C from congrArg StV.C HA5.out.v)
      have HVS:=zh (show ∀ X9:List DeR,(⟨X9,s.Q,s.K,s.P,s.G⟩:StV)=⟨X9,s1.V.Q,s1.V.K,s1.V.P,s1.V.G⟩ from fun X9=>by
       have e2:s.Q=s1.V.Q:=congrArg StV.Q HA5.out.v
       have e3:s.K=s1.V.K:=congrArg StV.K HA5.out.v
       have e4:s.P=s1.V.P:=congrArg StV.P HA5.out.v
       have e5:s.G=s1.V.G:=congrArg StV.G HA5.out.v
       rw [e2,e3,e4,e5])
      clear hHeld hE hS HA HG1 HG2
      by_cases h1:hv≤0
      ·have HVF:=zh (show s.V=covS s0.V from by
        have h2:getC (((negL s1.C).take k).foldl cov1 s1.C) polC≤0:=by
         have h3:s.C=((negL s1.C).take k).foldl cov1 s1.C:=HVC5.out
         rw [← h3,HHV.out];exact h1
        have h4:=cov_end h2
        rw [← HV1.out]
        refine (show s.V=(⟨s.C,s.Q,s.K,s.P,s.G⟩:StV) from rfl).trans ((HVS.out s.C).trans ?_)
        rw [HVC5.out]
        show (⟨((negL s1.C).take k).foldl cov1 s1.C,s1.Q,s1.K,s1.P,s1.G⟩:StV)=covS s1.V
        rw [h4];rfl)
       have HF:=zh (HA5.out.st)
       have HRF:=zh (HA5.out.res)
       go_upto_region 19 with fail
       obtain ⟨q0,q1,q2,q3,q4⟩:=ss_facts HF.out.blk
       go_wp2_with ((with_reducible refine wpList_storeSs rfl (.tmp 2) (.tmp 97) rfl (w.heap.size+1) (s) rfl rfl HRF.out ?_);intro W9 h9)
       exact rtS _ _ HF.out HRF.out (by omega) h9 (HVF.out)
      ·have h2 : nv < 0 := HNEG.out
       have e1:wrap64 (-hv)=-hv:=by rw [← wrapE];exact wr_id (by have:=HW1.out;unfold in64;omega)
       by_cases h3:-hv < nv
       ·have e2 : wrap64 (-nv) = -nv := by rw [← wrapE]; exact wr_id (by have := HW1.out; have := HW2.out; unfold in64; omega)
        go_upto_region 23 with fail
        try rw [e2]
        obtain ⟨pd,hpd⟩:∃ pd:Int,-nv=pd:=⟨_,rfl⟩
        have HPW:=zh (show wfI pd from by rw [← hpd];exact wfI_in.2 (by have:=HW1.out;have:=HW2.out;unfold in64;omega))
        have HM1:=zh (show cov1 s.C cc=addL s.C (movC polC cc pd) from by
         rw [← hpd]
         unfold cov1
         rw [HHV.out,HNV.out,if_neg (by omega)]
         first | rw [if_pos (by omega)] | rw [if_neg (by omega)])
        rw [hpd]
        obtain ⟨np,hnp⟩:∃ np:Int,wrap64 (-pd)=np:=⟨_,rfl⟩
        have HNP:=zh (show wr (-pd)=np from by rw [← hnp];exact wrapE _)
        have HM2:=zh (show addL s.C (movC polC cc pd)=addC (addC s.C polC np) cc pd from by rw [← HNP.out];rfl)
        have HNPW:=zh (show wfI np from by rw [← hnp,← wrapE];exact wfI_in.2 (wr_in _))
        clear hpd hnp e1 h1 h2 h3
        try clear e2
        have HA6:=zh (HA5.out.ext ((Ext.refl W).drew'))
        have HDR6:=zh (fun (V:World) (e:Ext W.drew V)=>HDR.out V ((HXW.out.trans ((Ext.refl W).drew')).trans e))
        refine wp_region_held_drew (S:=fun _=>True) (by kernel_rfl) (trivial) (fun hHeld=>?_)
        refine zt 2 hHeld ?_
        refine zu 3 (v:=.int .i64 np) hHeld ?_ (hy:=by refine .inl ⟨by rfl,fun V _=>?_⟩;rw [← HNP.out];go_simp;try rfl)
        refine zzr [5,6,7,9] ?_
        refine held_joint (VV 0 (fun v V=>v=.agg (ssA s)) (VV 1 (fun v V=>v=.agg (ceA polC)) (VV 4 (fun v V=>∃ s2,v=.agg (ssA s2)∧OwnS V w.heap.size s2∧s2.V=⟨addC s.C polC np,s.Q,s.K,s.P,s.G⟩) (VV 8 (fun v V=>v=vc) (VV 10 (fun v V=>∃ s3,v=.agg (ssA s3)∧OwnS V w.heap.size s3∧s3.V=⟨addC (addC s.C polC np) cc pd,s.Q,s.K,s.P,s.G⟩) (VN)))))) [(0,some 105),(1,some 106),(4,some 109),(8,some 113),(10,some 115)] (fuel:=1) (by kernel_rfl) (by kernel_rfl) (fun _ _ h _=>h) (VV.ext (fun v w w' h e=>h) (VV.ext (fun v w w' h e=>h) (VV.ext (fun v w w' ⟨s2,h1,h2,h3⟩ e=>⟨s2,h1,h2.ext e,h3⟩) (VV.ext (fun v w w' h e=>h) (VV.ext (fun v w w' ⟨s2,h1,h2,h3⟩ e=>⟨s2,h1,h2.ext e,h3⟩) (VN.ext)))))) hHeld ?hm4 rfl ?hr4
        case hm4 =>
         refine Members.cons ?mm4_0 (Members.cons ?mm4_1 (Members.cons ?mm4_4 (Members.cons ?mm4_8 (Members.cons ?mm4_10 (Members.nil _)))))
         case mm4_0 =>
          refine zm [] (fun env W hE hS hD K hK=>?_)
          clear hD
          try simp only [layj]
          obtain ⟨q0,q1,q2,q3,q4⟩:=ss_facts (HA6.out.st.blk.ext hE)
          go_simp
          have hk:=hK.out (.agg (ssA s)) _ (Ext.refl _) (rfl)
          try simp only [layj] at hk
          exact hk
         case mm4_1 =>
          refine zm [] (fun env W hE hS hD K hK=>?_)
          clear hD
          try simp only [layj]
          go_simp
          go_at_call 31
          refine (rPool_any _).mono ?_
          rintro e w5 ⟨rfl,he5⟩
          have hk:=hK.out (.agg (ceA polC)) _ (he5) (rfl)
          try simp only [layj] at hk
          exact hk
         case mm4_4 =>
          refine zm [(0,some 105),(1,some 106)] (fun env W hE hS hD K hK=>?_)
          have h0:(fun v V=>v=.agg (ssA s)) (env 0) W:=hD (0,some 105) (by simp)
          have h1:(fun v V=>v=.agg (ceA polC)) (env 1) W:=hD (1,some 106) (by simp)
          clear hD
          try simp only [layj] at hK ⊢
          generalize env 0=x0 at h0 hK ⊢
          generalize env 1=x1 at h1 hK ⊢
          subst h0
          subst h1
          go_simp
          go_at_call 42
          refine (rPut_any s polC np _ (HA6.out.st.own.ok.ext hE) HCP.out HNPW.out (by have:=HBD.out;omega)).mono ?_
          rintro e w5 ⟨s2,rfl,ho2,hv2,he5⟩
          have hk:=hK.out (.agg (ssA s2)) _ (he5) (⟨s2,rfl,own_monoS ho2 (Nat.le_trans HA6.out.st.low.size hE.size),hv2⟩)
          try simp only [layj] at hk
          exact hk
         case mm4_8 =>
          refine zm [] (fun env W hE hS hD K hK=>?_)
          clear hD
          try simp only [layj]
          refine wp_loadG ceP (.tmp 112) rfl g (k * 10) rfl cc vc HVC.out (HDR6.out _ hE) ?_
          have hk:=hK.out (vc) _ (Ext.refl _) (rfl)
          try simp only [layj] at hk
          exact hk
         case mm4_10 =>
          refine zm [(4,some 109),(8,some 113)] (fun env W hE hS hD K hK=>?_)
          have h4:(fun v V=>∃ s2,v=.agg (ssA s2)∧OwnS V w.heap.size s2∧s2.V=⟨addC s.C polC np,s.Q,s.K,s.P,s.G⟩) (env 4) W:=hD (4,some 109) (by simp)
          have h8:(fun v V=>v=vc) (env 8) W:=hD (8,some 113) (by simp)
          clear hD
          try simp only [layj] at hK ⊢
          generalize env 4=x4 at h4 hK ⊢
          generalize env 8=x8 at h8 hK ⊢
          obtain ⟨s2,rfl,ho2,hv2⟩:=h4
          subst h8
          have hbd:=HPB.out s2 _ _ _ ho2 hv2
          have HPU:=zh (rPut_any s2 cc pd W ho2.ok HCW.out HPW.out hbd)
          rw [HVC.out] at HPU
          clear hbd
          go_simp
          go_at_call 42
          refine HPU.out.mono ?_
          rintro e w5 ⟨s3,rfl,ho3,hv3,he5⟩
          have hv4:s3.V=⟨addC (addC s.C polC np) cc pd,s.Q,s.K,s.P,s.G⟩:=by
               rw [hv3]
               have e1:s2.C=addC s.C polC np:=congrArg StV.C hv2
               have e2:s2.Q=s.Q:=congrArg StV.Q hv2
               have e3:s2.K=s.K:=congrArg StV.K hv2
               have e4:s2.P=s.P:=congrArg StV.P hv2
               have e5:s2.G=s.G:=congrArg StV.G hv2
               rw [e1,e2,e3,e4,e5]
          have hk:=hK.out (.agg (ssA s3)) _ (he5) (⟨s3,rfl,own_monoS ho3 (Nat.le_trans HA6.out.st.low.size hE.size),hv4⟩)
          try simp only [layj] at hk
          exact hk
        case hr4 =>
         intro env W hE hS hV
         have h0:(fun v V=>v=.agg (ssA s)) (env 0) W:=hV (0,some 105) (by simp)
         have h1:(fun v V=>v=.agg (ceA polC)) (env 1) W:=hV (1,some 106) (by simp)
         have h4:(fun v V=>∃ s2,v=.agg (ssA s2)∧OwnS V w.heap.size s2∧s2.V=⟨addC s.C polC np,s.Q,s.K,s.P,s.G⟩) (env 4) W:=hV (4,some 109) (by simp)
         have h8:(fun v V=>v=vc) (env 8) W:=hV (8,some 113) (by simp)
         have h10:(fun v V=>∃ s3,v=.agg (ssA s3)∧OwnS V w.heap.size s3∧s3.V=⟨addC (addC s.C polC np) cc pd,s.Q,s.K,s.P,s.G⟩) (env 10) W:=hV (10,some 115) (by simp)
         clear hV
         try simp only [layj]
         generalize env 0=x0 at h0 ⊢
         generalize env 1=x1 at h1 ⊢
         generalize env 4=x4 at h4 ⊢
         generalize env 8=x8 at h8 ⊢
         generalize env 10=x10 at h10 ⊢
         subst h0
         subst h1
         subst h8
         obtain ⟨s3,rfl,ho3,hv3⟩:=h10
         clear h4
         have hHeld:=hS
         refine za 11 (fun K hK=>?_)
         (refine step_storeSs rfl (.tmp 1) (.tmp 115) (by rfl) w.heap.size (.agg (ssA s3)) s3 rfl (by rfl) (by rfl) (HA6.out.st.blk.ext hE) ?_;intro W9 h9)
         refine hK.out _ _ (trivial) (fun hHeld=>?_)
         clear hK K
         try simp only [lays]
         refine wpAnyH_done (by kernel_rfl) ?_ _
         have HF:=zh (show CvB w W9 s1.V (some ⟨g,0,none⟩) n c (negL s1.C) (k+1) s3 from by
          rw [← h9.out.1]
          have hb:=HA6.out.st.blk.ext hE
          have hrw:=own_ext HA6.out.row hE
          refine ⟨StB.start ho3 hb (HA6.out.st.low.trans hE) (Nat.le_refl _),(HA6.out.res.ext hE).grown (grown_setCells' _ _ _ _) (fun e=>by injection e;omega),hrw.kept (grown_setCells' _ _ _ _) (.inr (Ne.symm (own_other hrw hb (by decide)))),?_⟩
          rw [hv3,cov_next HKL.out,HCC.out,← HVC5.out,HM1.out,HM2.out]
          exact HVS.out _)
         clear h9 ho3 hv3 hE hS hHeld HA6 HDR6 HA5
         go_wp2_with fail
         go_roundw
         case rel=>exact ⟨k+1,s3,by go_num,hlt2,HF⟩
         case measure=>simp [intOf];omega
       ·go_upto_region 23 with fail
        try rw [e2]
        obtain ⟨pd,hpd⟩:∃ pd:Int,hv=pd:=⟨_,rfl⟩
        have HPW:=zh (show wfI pd from by rw [← hpd];exact wfI_in.2 (by have:=HW1.out;unfold in64;omega))
        have HM1:=zh (show cov1 s.C cc=addL s.C (movC polC cc pd) from by
         rw [← hpd]
         unfold cov1
         rw [HHV.out,HNV.out,if_neg (by omega)]
         first | rw [if_pos (by omega)] | rw [if_neg (by omega)])
        rw [hpd]
        obtain ⟨np,hnp⟩:∃ np:Int,wrap64 (-pd)=np:=⟨_,rfl⟩
        have HNP:=zh (show wr (-pd)=np from by rw [← hnp];exact wrapE _)
        have HM2:=zh (show addL s.C (movC polC cc pd)=addC (addC s.C polC np) cc pd from by rw [← HNP.out];rfl)
        have HNPW:=zh (show wfI np from by rw [← hnp,← wrapE];exact wfI_in.2 (wr_in _))
        clear hpd hnp e1 h1 h2 h3
        try clear e2
        have HA6:=zh (HA5.out.ext ((Ext.refl W).drew'))
        have HDR6:=zh (fun (V:World) (e:Ext W.drew V)=>HDR.out V ((HXW.out.trans ((Ext.refl W).drew')).trans e))
        refine wp_region_held_drew (S:=fun _=>True) (by kernel_rfl) (trivial) (fun hHeld=>?_)
        refine zt 2 hHeld ?_
        refine zu 3 (v:=.int .i64 np) hHeld ?_ (hy:=by refine .inl ⟨by rfl,fun V _=>?_⟩;rw [← HNP.out];go_simp;try rfl)
        refine zzr [5,6,7,9] ?_
        refine held_joint (VV 0 (fun v V=>v=.agg (ssA s)) (VV 1 (fun v V=>v=.agg (ceA polC)) (VV 4 (fun v V=>∃ s2,v=.agg (ssA s2)∧OwnS V w.heap.size s2∧s2.V=⟨addC s.C polC np,s.Q,s.K,s.P,s.G⟩) (VV 8 (fun v V=>v=vc) (VV 10 (fun v V=>∃ s3,v=.agg (ssA s3)∧OwnS V w.heap.size s3∧s3.V=⟨addC (addC s.C polC np) cc pd,s.Q,s.K,s.P,s.G⟩) (VN)))))) [(0,some 105),(1,some 106),(4,some 109),(8,some 113),(10,some 115)] (fuel:=1) (by kernel_rfl) (by kernel_rfl) (fun _ _ h _=>h) (VV.ext (fun v w w' h e=>h) (VV.ext (fun v w w' h e=>h) (VV.ext (fun v w w' ⟨s2,h1,h2,h3⟩ e=>⟨s2,h1,h2.ext e,h3⟩) (VV.ext (fun v w w' h e=>h) (VV.ext (fun v w w' ⟨s2,h1,h2,h3⟩ e=>⟨s2,h1,h2.ext e,h3⟩) (VN.ext)))))) hHeld ?hm4 rfl ?hr4
        case hm4 =>
         refine Members.cons ?mm4_0 (Members.cons ?mm4_1 (Members.cons ?mm4_4 (Members.cons ?mm4_8 (Members.cons ?mm4_10 (Members.nil _)))))
         case mm4_0 =>
          refine zm [] (fun env W hE hS hD K hK=>?_)
          clear hD
          try simp only [layj]
          obtain ⟨q0,q1,q2,q3,q4⟩:=ss_facts (HA6.out.st.blk.ext hE)
          go_simp
          have hk:=hK.out (.agg (ssA s)) _ (Ext.refl _) (rfl)
          try simp only [layj] at hk
          exact hk
         case mm4_1 =>
          refine zm [] (fun env W hE hS hD K hK=>?_)
          clear hD
          try simp only [layj]
          go_simp
          go_at_call 31
          refine (rPool_any _).mono ?_
          rintro e w5 ⟨rfl,he5⟩
          have hk:=hK.out (.agg (ceA polC)) _ (he5) (rfl)
          try simp only [layj] at hk
          exact hk
         case mm4_4 =>
          refine zm [(0,some 105),(1,some 106)] (fun env W hE hS hD K hK=>?_)
          have h0:(fun v V=>v=.agg (ssA s)) (env 0) W:=hD (0,some 105) (by simp)
          have h1:(fun v V=>v=.agg (ceA polC)) (env 1) W:=hD (1,some 106) (by simp)
          clear hD
          try simp only [layj] at hK ⊢
          generalize env 0=x0 at h0 hK ⊢
          generalize env 1=x1 at h1 hK ⊢
          subst h0
          subst h1
          go_simp
          go_at_call 42
          refine (rPut_any s polC np _ (HA6.out.st.own.ok.ext hE) HCP.out HNPW.out (by have:=HBD.out;omega)).mono ?_
          rintro e w5 ⟨s2,rfl,ho2,hv2,he5⟩
          have hk:=hK.out (.agg (ssA s2)) _ (he5) (⟨s2,rfl,own_monoS ho2 (Nat.le_trans HA6.out.st.low.size hE.size),hv2⟩)
          try simp only [layj] at hk
          exact hk
         case mm4_8 =>
          refine zm [] (fun env W hE hS hD K hK=>?_)
          clear hD
          try simp only [layj]
          refine wp_loadG ceP (.tmp 112) rfl g (k * 10) rfl cc vc HVC.out (HDR6.out _ hE) ?_
          have hk:=hK.out (vc) _ (Ext.refl _) (rfl)
          try simp only [layj] at hk
          exact hk
         case mm4_10 =>
          refine zm [(4,some 109),(8,some 113)] (fun env W hE hS hD K hK=>?_)
          have h4:(fun v V=>∃ s2,v=.agg (ssA s2)∧OwnS V w.heap.size s2∧s2.V=⟨addC s.C polC np,s.Q,s.K,s.P,s.G⟩) (env 4) W:=hD (4,some 109) (by simp)
          have h8:(fun v V=>v=vc) (env 8) W:=hD (8,some 113) (by simp)
          clear hD
          try simp only [layj] at hK ⊢
          generalize env 4=x4 at h4 hK ⊢
          generalize env 8=x8 at h8 hK ⊢
          obtain ⟨s2,rfl,ho2,hv2⟩:=h4
          subst h8
          have hbd:=HPB.out s2 _ _ _ ho2 hv2
          have HPU:=zh (rPut_any s2 cc pd W ho2.ok HCW.out HPW.out hbd)
          rw [HVC.out] at HPU
          clear hbd
          go_simp
          go_at_call 42
          refine HPU.out.mono ?_
          rintro e w5 ⟨s3,rfl,ho3,hv3,he5⟩
          have hv4:s3.V=⟨addC (addC s.C polC np) cc pd,s.Q,s.K,s.P,s.G⟩:=by
               rw [hv3]
               have e1:s2.C=addC s.C polC np:=congrArg StV.C hv2
               have e2:s2.Q=s.Q:=congrArg StV.Q hv2
               have e3:s2.K=s.K:=congrArg StV.K hv2
               have e4:s2.P=s.P:=congrArg StV.P hv2
               have e5:s2.G=s.G:=congrArg StV.G hv2
               rw [e1,e2,e3,e4,e5]
          have hk:=hK.out (.agg (ssA s3)) _ (he5) (⟨s3,rfl,own_monoS ho3 (Nat.le_trans HA6.out.st.low.size hE.size),hv4⟩)
          try simp only [layj] at hk
          exact hk
        case hr4 =>
         intro env W hE hS hV
         have h0:(fun v V=>v=.agg (ssA s)) (env 0) W:=hV (0,some 105) (by simp)
         have h1:(fun v V=>v=.agg (ceA polC)) (env 1) W:=hV (1,some 106) (by simp)
         have h4:(fun v V=>∃ s2,v=.agg (ssA s2)∧OwnS V w.heap.size s2∧s2.V=⟨addC s.C polC np,s.Q,s.K,s.P,s.G⟩) (env 4) W:=hV (4,some 109) (by simp)
         have h8:(fun v V=>v=vc) (env 8) W:=hV (8,some 113) (by simp)
         have h10:(fun v V=>∃ s3,v=.agg (ssA s3)∧OwnS V w.heap.size s3∧s3.V=⟨addC (addC s.C polC np) cc pd,s.Q,s.K,s.P,s.G⟩) (env 10) W:=hV (10,some 115) (by simp)
         clear hV
         try simp only [layj]
         generalize env 0=x0 at h0 ⊢
         generalize env 1=x1 at h1 ⊢
         generalize env 4=x4 at h4 ⊢
         generalize env 8=x8 at h8 ⊢
         generalize env 10=x10 at h10 ⊢
         subst h0
         subst h1
         subst h8
         obtain ⟨s3,rfl,ho3,hv3⟩:=h10
         clear h4
         have hHeld:=hS
         refine za 11 (fun K hK=>?_)
         (refine step_storeSs rfl (.tmp 1) (.tmp 115) (by rfl) w.heap.size (.agg (ssA s3)) s3 rfl (by rfl) (by rfl) (HA6.out.st.blk.ext hE) ?_;intro W9 h9)
         refine hK.out _ _ (trivial) (fun hHeld=>?_)
         clear hK K
         try simp only [lays]
         refine wpAnyH_done (by kernel_rfl) ?_ _
         have HF:=zh (show CvB w W9 s1.V (some ⟨g,0,none⟩) n c (negL s1.C) (k+1) s3 from by
          rw [← h9.out.1]
          have hb:=HA6.out.st.blk.ext hE
          have hrw:=own_ext HA6.out.row hE
          refine ⟨StB.start ho3 hb (HA6.out.st.low.trans hE) (Nat.le_refl _),(HA6.out.res.ext hE).grown (grown_setCells' _ _ _ _) (fun e=>by injection e;omega),hrw.kept (grown_setCells' _ _ _ _) (.inr (Ne.symm (own_other hrw hb (by decide)))),?_⟩
          rw [hv3,cov_next HKL.out,HCC.out,← HVC5.out,HM1.out,HM2.out]
          exact HVS.out _)
         clear h9 ho3 hv3 hE hS hHeld HA6 HDR6 HA5
         go_wp2_with fail
         go_roundw
         case rel=>exact ⟨k+1,s3,by go_num,hlt2,HF⟩
         case measure=>simp [intOf];omega
    ·obtain rfl : n = k := by omega
     have i1:¬ (n:Int) < (n:Int):=by omega
     have HVF:=zh (show s.V=covS s0.V from by
      rw [HA.out.v,← HLL.out,List.take_length,← HV1.out]
      show (⟨(negL s1.C).foldl cov1 s1.C,s1.Q,s1.K,s1.P,s1.G⟩:StV)=covS s1.V
      rw [← covC_neg];rfl)
     have HF:=zh (HA.out.st)
     have HRF:=zh (HA.out.res)
     go_upto_region 24 with fail
     obtain ⟨q0,q1,q2,q3,q4⟩:=ss_facts HF.out.blk
     go_wp2_with ((with_reducible refine wpList_storeSs rfl (.tmp 2) (.tmp 116) rfl (w.heap.size+1) (s) rfl rfl HRF.out ?_);intro W9 h9)
     exact rtS _ _ HF.out HRF.out (by omega) h9 (HVF.out)
end Go.Proofs.YtohmmcahpakokaaGreat
