/- exec.Effect, exec.Outflow. -/
import Derived.Test.YtohmmcahpakokaaGreatC31
import Derived.Test.YtohmmcahpakokaaGreatC33
set_option maxRecDepth 100000
set_option maxHeartbeats 8000000
set_option linter.unusedVariables false
set_option linter.unusedSimpArgs false
namespace Go.Proofs.YtohmmcahpakokaaGreat
open Go.RowKit
attribute [local go_sem ↓] Go.wp_at_zero Go.wp_at_succ
theorem effO_len (ac sq:Int) (L:List OpR) (i:Nat):(effO ac sq L i).length≤2:=by
 unfold effO
 split
 ·exact Nat.le_refl _
 ·split
  ·exact Nat.le_refl _
  ·split
   ·exact Nat.le_refl _
   ·split
    ·exact Nat.le_refl _
    ·exact Nat.zero_le _
theorem effN_len (ac sq:Int) (L:List OpR) (k:Nat):(effN ac sq L k).length≤2 * k:=by
 induction k with
 | zero=>exact Nat.le_refl _
 | succ k ih=>rw [effN_succ,List.length_append];have:=effO_len ac sq L k;omega
theorem outN_step {ac sq:Int} {L:List OpR} (hv:vTx ac sq L=true):∀ k,k≤L.length→(0≤outN L k∧outN L k≤10000000000000 * k)∧∀ (h:k < L.length),outN L (k+1)=outN L k+(nthO L k).am:=by
 obtain ⟨⟨q1,q2,q3,q4,q5,q6⟩,hop⟩:=vTx_of hv
 have hs:∀ k,k≤L.length→0≤((L.take k).map OpR.am).sum∧((L.take k).map OpR.am).sum≤10000000000000 * k:=by
  intro k
  induction k with
  | zero=>intro _;simp
  | succ k ih =>
   intro hk
   have h1:=ih (by omega)
   obtain ⟨-,-,-,-,-,-,-,ham,-⟩:=vOp_bd (hop k (by omega))
   rw [take_nthO (by omega),List.map_append,List.sum_append]
   simp only [List.map_cons,List.map_nil,List.sum_cons,List.sum_nil]
   omega
 have he:∀ k,k≤L.length→outN L k=((L.take k).map OpR.am).sum:=fun k hk=>by
  have:=hs k hk
  exact wr_id ⟨by omega,by omega⟩
 intro k hk
 refine ⟨by rw [he k hk];exact hs k hk,fun h=>?_⟩
 rw [he k hk,he (k+1) h,take_nthO h,List.map_append,List.sum_append]
 simp
def EffOut (w:World) (l:List DeR) (e:Ending) (w':World):Prop:=∃ A n c,e=.returned (.slice A n c)∧w'.ownsRow w.heap.size 34 11 (.slice A n c) n (gcs l)∧(∀ d ∈ l,deW d)∧Ext w w'
theorem effO_wf {ac sq:Int} {L:List OpR} (hv:vTx ac sq L=true) {i:Nat} (hi:i < L.length):∀ d ∈ effO ac sq L i,deW d:=by
 obtain ⟨⟨q1,q2,q3,q4,q5,q6⟩,hop⟩:=vTx_of hv
 obtain ⟨hkk,hto,ham,hva,-,-,-,-,-⟩:=vOp_bd (hop i hi)
 have hac:wfI ac:=wfS ⟨by omega,by omega⟩
 have h0:wfI 0:=wfS (by decide)
 have h1:wfI 1:=wfS (by decide)
 have h2:wfI 2:=wfS (by decide)
 have h3:wfI 3:=wfS (by decide)
 unfold effO
 split
 ·exact mv_wf ⟨h1,hac⟩ ⟨h1,hto⟩ ham
 ·split
  ·exact mv_wf ⟨h1,hac⟩ ⟨h2,h0⟩ ham
  ·split
   ·exact mv_wf ⟨h2,h0⟩ ⟨h1,hto⟩ ham
   ·split
    ·exact mv_wf ⟨h1,hac⟩ ⟨h3,hva⟩ ham
    ·intro d hd;cases hd
theorem effN_wf {ac sq:Int} {L:List OpR} (hv:vTx ac sq L=true):∀ k,k≤L.length→∀ d ∈ effN ac sq L k,deW d:=by
 intro k
 induction k with
 | zero=>intro _ d hd;cases hd
 | succ k ih =>
  intro hk d hd
  rw [effN_succ] at hd
  rcases List.mem_append.1 hd with hd | hd
  ·exact ih (by omega) d hd
  ·exact effO_wf hv (by omega) d hd
theorem exEffect_any (ac sq:Int) (A:Option Addr) (n c:Nat) (L:List OpR) (w:World) (hS:SlO w A n c L) :
  Calls Tryz.prog 13 #[.agg (txA ac sq A n c)] w (EffOut w (effT ac sq L)):=by
 obtain ⟨W,hW⟩:∃ W,w.alloc (.cells (txA ac sq A n c) 24)=W:=⟨_,rfl⟩
 have HB:=zh (show Blk W w.heap.size 24 (txA ac sq A n c) from by rw [← hW];exact Blk.new w 24 (txA ac sq A n c))
 have HE:=zh (show Ext w W from by rw [← hW];exact (Ext.refl w).alloc' _)
 have HS:=zh (hS.ext HE.out)
 have HV:=zh (validate_any ac sq A n c L W HS.out)
 have hle:=hS.le
 have hcap:=hS.cap
 have HLEN:=zh hS.len
 have t0:=HB.out.cell 0
 have t1:=HB.out.cell 1
 have t2:=HB.out.cell 2
 clear hS
 cases hv:vTx ac sq L with
 | false =>
  have HT:=zh (show effT ac sq L=[] from by unfold effT;rw [hv];rfl)
  rw [hv] at HV
  have HV:=zh (show Calls Tryz.prog 44 #[.agg (txA ac sq A n c)] W (fun e w'=>e=.returned (.int .i64 1)∧Ext W w') from HV.out)
  clear hv
  go_enter Tryz.func13,Tryz.ntmps13
  go_wp2_with fail
  refine HV.out.mono ?_
  rintro e w1 ⟨rfl,he1⟩
  have HX:=zh (HE.out.trans he1)
  clear he1 t0 t1 t2 hW
  go_wp2_with fail
  go_ret
  exact ⟨none,0,0,rfl,by rw [HT.out];exact World.ownsRow_nil _ _ _ _,by rw [HT.out];exact (fun d hd=>by cases hd),HX.out⟩
 | true =>
  have HT:=zh (show effT ac sq L=effN ac sq L L.length from by unfold effT;rw [if_pos hv])
  have HVT:=zh hv
  rw [hv] at HV
  have HV:=zh (show Calls Tryz.prog 44 #[.agg (txA ac sq A n c)] W (fun e w'=>e=.returned (.int .i64 0)∧Ext W w') from HV.out)
  clear hv
  have hn4:n≤4:=by have:=(vTx_of HVT.out).1.2.2.2.2.2;have:=HLEN.out;omega
  go_enter Tryz.func13,Tryz.ntmps13
  go_wp2_with fail
  refine HV.out.mono ?_
  rintro e w1 ⟨rfl,he1⟩
  have HX1:=zh (HE.out.trans he1)
  have HB1:=zh (HB.out.ext he1)
  have HS1:=zh (HS.out.ext he1)
  clear he1 t0 t1 t2 hW
  have t2:=HB1.out.cell 2
  go_wp2_with fail
  go_loopw [3,11] (fun vl vi wr=>∃ (k:Nat) (A':Option Addr) (m d:Nat),vi=.int .i64 (k:Int)∧k≤n∧vl=.slice A' m d∧Hid (wr.ownsRow w1.heap.size 34 11 (.slice A' m d) m (gcs (effN ac sq L k)))∧Hid (Ext w1 wr)) (fun _ i _=>n - (intOf i).toNat)
  case atStart=>exact ⟨0,none,0,0,rfl,Nat.zero_le _,rfl,zh (World.ownsRow_nil _ _ _ _),zh (Ext.refl w1)⟩
  case round =>
   obtain ⟨k,A',m,d,rfl,hk,rfl,HO,HX⟩:=hrel
   by_cases hlt:k < n
   ·have i0 : (k : Int) < (n : Int) := by omega
    have HB2:=zh (HB1.out.ext HX.out)
    have t0:=HB2.out.cell 0
    have t1:=HB2.out.cell 1
    have t2:=HB2.out.cell 2
    have HC:=zh (effect_any ac sq A n c L k wr (HS1.out.ext HX.out) hlt HVT.out)
    have hm8:m≤8:=by
     have h1:(effN ac sq L k).length=m:=OwnG.len (e:=34) HO.out
     have:=effN_len ac sq L k
     omega
    go_wp2_with (first | (go_at_call 45;refine HC.out.mono ?_;rintro e w3 ⟨A9,n9,c9,rfl,hs9,he9⟩;have HS9:=zh hs9;have HE9:=zh he9;have HO9:=zh (own_ext HO.out he9);have h9:n9≤2:=(by have:=effO_len ac sq L k;have:=hs9.len;omega);have HL9:=zh (show (gcs (effO ac sq L k)).length=n9 * 11 from by rw [gcs_length,hs9.len];rfl);clear hs9 he9) | (at_builtin;go_must (refine wpList_appGG deE rfl (.tmp 14) (.tmp 17) rfl w1.heap.size A' m d _ rfl HO9.out A9 n9 c9 (gcs (effO ac sq L k)) rfl HS9.out.rd HL9.out (gcs_cell _) (by omega) (by omega) (Nat.le_trans HX.out.size HE9.out.size) ?_;intro A3 c3 w4 hO4 hg4)))
    have HO5:=zh (show w4.ownsRow w1.heap.size 34 11 (.slice A3 (m+n9) c3) (m+n9) (gcs (effN ac sq L (k+1))) from by rw [effN_succ,gcs_append];exact hO4)
    have HX5:=zh (show Ext w1 w4 from Below.grown (HX.out.trans HE9.out) hg4 (Nat.le_trans HX.out.size HE9.out.size) (fun k hk=>(World.ownsRow.lt HO9.out k hk).1))
    clear hO4 hg4 HS9 HE9 HO9 HL9 HC t0 t1 t2 HB2
    go_roundw
    case rel=>exact ⟨k+1,A3,m+n9,c3,by go_num,hlt,rfl,HO5,HX5⟩
    case measure=>simp [intOf];omega
   ·obtain rfl : k = n := by omega
    have i0:¬ (k:Int) < (k:Int):=by omega
    have HF:=zh (show effT ac sq L=effN ac sq L k from by rw [HT.out,HLEN.out])
    go_wp2_with fail
    go_ret
    exact ⟨A',m,d,rfl,by rw [HF.out];exact own_mono HO.out HX1.out.size,by rw [HF.out];exact effN_wf HVT.out k (by rw [HLEN.out];exact Nat.le_refl _),HX1.out.trans HX.out⟩
theorem exOutflow_any (ac sq:Int) (A:Option Addr) (n c:Nat) (L:List OpR) (w:World) (hS:SlO w A n c L) :
  Calls Tryz.prog 16 #[.agg (txA ac sq A n c)] w fun e w'=>e=.returned (.int .i64 (outT ac sq L))∧Ext w w':=by
 obtain ⟨W,hW⟩:∃ W,w.alloc (.cells (txA ac sq A n c) 24)=W:=⟨_,rfl⟩
 have HB:=zh (show Blk W w.heap.size 24 (txA ac sq A n c) from by rw [← hW];exact Blk.new w 24 (txA ac sq A n c))
 have HE:=zh (show Ext w W from by rw [← hW];exact (Ext.refl w).alloc' _)
 have HS:=zh (hS.ext HE.out)
 have HV:=zh (validate_any ac sq A n c L W HS.out)
 have hle:=hS.le
 have hcap:=hS.cap
 have HLEN:=zh hS.len
 have t0:=HB.out.cell 0
 have t1:=HB.out.cell 1
 have t2:=HB.out.cell 2
 clear hS
 cases hv:vTx ac sq L with
 | false =>
  have HT:=zh (show outT ac sq L=0 from by unfold outT;rw [hv];rfl)
  rw [hv] at HV
  have HV:=zh (show Calls Tryz.prog 44 #[.agg (txA ac sq A n c)] W (fun e w'=>e=.returned (.int .i64 1)∧Ext W w') from HV.out)
  clear hv
  go_enter Tryz.func16,Tryz.ntmps16
  go_wp2_with fail
  refine HV.out.mono ?_
  rintro e w1 ⟨rfl,he1⟩
  have HX:=zh (HE.out.trans he1)
  clear he1 t0 t1 t2 hW
  go_wp2_with fail
  go_ret
  exact ⟨by rw [HT.out];rfl,HX.out⟩
 | true =>
  have HT:=zh (show outT ac sq L=outN L L.length from by unfold outT;rw [if_pos hv])
  have HVT:=zh hv
  rw [hv] at HV
  have HV:=zh (show Calls Tryz.prog 44 #[.agg (txA ac sq A n c)] W (fun e w'=>e=.returned (.int .i64 0)∧Ext W w') from HV.out)
  clear hv
  have hn4:n≤4:=by have:=(vTx_of HVT.out).1.2.2.2.2.2;have:=HLEN.out;omega
  go_enter Tryz.func16,Tryz.ntmps16
  go_wp2_with fail
  refine HV.out.mono ?_
  rintro e w1 ⟨rfl,he1⟩
  have HX1:=zh (HE.out.trans he1)
  have HB1:=zh (HB.out.ext he1)
  have HS1:=zh (HS.out.ext he1)
  clear he1 t0 t1 t2 hW
  have t2:=HB1.out.cell 2
  go_wp2_with fail
  go_loopw [3,12] (fun vl vi wr=>∃ (k:Nat),vi=.int .i64 (k:Int)∧k≤n∧vl=.int .i64 (outN L k)∧Hid (Ext w1 wr)) (fun _ i _=>n - (intOf i).toNat)
  case atStart=>exact ⟨0,rfl,Nat.zero_le _,rfl,zh (Ext.refl w1)⟩
  case round =>
   obtain ⟨k,rfl,hk,rfl,HX⟩:=hrel
   by_cases hlt:k < n
   ·have i0 : (0 : Int) ≤ (k : Int) := by omega
    have i1:(k:Int) < (n:Int):=by omega
    obtain ⟨b,o,rfl,hrow,-⟩:=(HS1.out.ext HX.out).g.at (by omega)
    obtain ⟨R,hR⟩:∃ R,nthO L k=R:=⟨_,rfl⟩
    have hr:wr.rangeAt b (o+k * 23) (RowT.enc R):=by rw [← hR,nthO_G];exact el_at hrow (by rw [HLEN.out];exact hlt)
    obtain ⟨⟨n1,n2⟩,n3⟩:=outN_step HVT.out k (by rw [HLEN.out];omega)
    have n4:=n3 (by rw [HLEN.out];exact hlt)
    have ham:=(vOp_bd ((vTx_of HVT.out).2 k (by rw [HLEN.out];exact hlt))).2.2.2.2.2.2.2.1
    rw [hR] at n4 ham
    have HN4:=zh n4
    obtain ⟨z,hz⟩:∃ z,outN L k=z:=⟨_,rfl⟩
    rw [hz] at HN4 n1 n2 ⊢
    obtain ⟨v,hv⟩:∃ v,Value.agg (opA R)=v:=⟨_,rfl⟩
    have HVV:=zh hv
    have hm1:=ham.1
    have hm2:=ham.2
    have hz2:z≤10000000000000 * 4:=by omega
    clear hrow hR hv n3 n4 hz ham n2
    obtain ⟨X,hX⟩:∃ X,wr.heap.size=X:=⟨_,rfl⟩
    have HXS:=zh hX
    clear hX
    go_upto_region 7 with (first | (with_reducible refine wpList_loadG opP rfl (.tmp 14) rfl b (o+k * 23) rfl R v HVV.out hr ?_) | ((with_reducible refine wpList_newG opP rfl (.tmp 5) (.tmp 15) rfl zeroO rfl R v HVV.out rfl rfl ?_);intro W4 h4))
    have HD:=zh (show Blk W4 X 69 (opA R) from by rw [← h4.out,← HXS.out];exact Blk.new wr 69 (opA R))
    have HX4:=zh (show Ext w1 W4 from by rw [← h4.out];exact HX.out.alloc' _)
    have k2:W4.cell? ⟨X,2,none⟩=some (.int .i64 R.am):=HD.out.cell 2
    clear h4 hr
    rw [HXS.out]
    go_wp2_with fail
    go_roundw
    case rel=>exact ⟨k+1,by go_num,hlt,by rw [HN4.out],HX4⟩
    case measure=>simp [intOf];omega
   ·obtain rfl : k = n := by omega
    have i0:¬ (k:Int) < (k:Int):=by omega
    go_wp2_with fail
    go_ret
    exact ⟨by rw [HT.out,HLEN.out];rfl,HX1.out.trans HX.out⟩
theorem exp_len (g:Int) (S:StV) (n:Nat):(expN g S n).C.length≤S.C.length+2 * n:=by
 induction n with
 | zero=>exact Nat.le_refl _
 | succ n ih =>
  rw [expN_succ];unfold expS1;split
  ·have := addL_len (movC (stkC (n : Int)) polC (getC (expN g S n).C (stkC (n : Int)))) (expN g S n).C
   simp only [movC,List.length_cons,List.length_nil] at this ⊢
   omega
  ·omega
theorem exp_k (g:Int) (S:StV) (n:Nat):(expN g S n).K=S.K:=by
 induction n with
 | zero=>rfl
 | succ n ih=>rw [expN_succ];unfold expS1;split <;> exact ih
theorem pow_in {k:Nat} (hk:k≤9):in64 ((2:Int) ^ k):=by
 unfold in64
 obtain rfl | rfl | rfl | rfl | rfl | rfl | rfl | rfl | rfl | rfl:k=0 ∨ k=1 ∨ k=2 ∨ k=3 ∨ k=4 ∨ k=5 ∨ k=6 ∨ k=7 ∨ k=8 ∨ k=9:=by omega
 all_goals decide
theorem getC_wf {C:List DeR} {c:CeR} (h:∀ d ∈ C,deW d):wfI (getC C c):=by
 cases e:fdC C c with
 | none=>rw [getC_of e];exact wfS ⟨by decide,by decide⟩
 | some d=>rw [getC_of e];exact (h d (fdC_some e).1).2
structure ExpS (w wr:World) (g:Nat) (z:Int) (S0:StV) (k:Nat) (s:StR):Prop where
 st:StB w wr g s
 res:Blk wr (w.heap.size+1) 44 (ssA ss0)
 v:s.V=expN z S0 k
theorem ExpS.ext {w wr w':World} {g:Nat} {z:Int} {S0:StV} {k:Nat} {s:StR} (h:ExpS w wr g z S0 k s) (e:Ext wr w'):ExpS w w' g z S0 k s:=⟨h.st.ext e,h.res.ext e,h.v⟩
theorem expel_any (s0:StR) (z:Int) (w:World) (h:s0.ok w) (hz:wfI z) (hn:s0.n1≤900000∧s0.n2≤1000000∧s0.n3≤1000000∧s0.n4≤1000000):Calls Tryz.prog 43 #[.agg (ssA s0),.int .i64 z] w (StOut w (expS z s0.V)):=by
 have HS0:=zh h
 have HZ:=zh hz
 obtain ⟨W,hW⟩:∃ W,((w.alloc (.cells (ssA s0) 44)).alloc (.cells #[.slice none 0 0,.slice none 0 0,.slice none 0 0,.slice none 0 0,.int .i64 0] 44))=W:=⟨_,rfl⟩
 have HB:=zh (show Blk W w.heap.size 44 (ssA s0) from by rw [← hW];exact (Blk.new w 44 (ssA s0)).alloc _)
 have HD:=zh (show Blk W (w.heap.size+1) 44 (ssA ss0) from by rw [← hW];exact Blk.newAt _ _ _ _ (by simp))
 have HE:=zh (show Ext w W from by rw [← hW];exact ((Ext.refl w).alloc' _).alloc' _)
 have HN:=zh hn
 obtain ⟨q0,q1,q2,q3,q4⟩:=ss_facts HB.out
 clear h hn hz
 go_enter Tryz.func43,Tryz.ntmps43
 go_upto_region 2 with (first | (go_at_call 51;refine (stClone_any s0 W (HS0.out.ext HE.out) ⟨by have:=HN.out;omega,HN.out.2⟩).mono ?_;rintro e w5 ⟨s1,rfl,ho1,hv1,he1⟩;have HB1:=zh (HB.out.ext he1);have HD1:=zh (HD.out.ext he1);have HO1:=zh (own_monoS ho1 HE.out.size);have HV1:=zh hv1;have HX1:=zh (HE.out.trans he1);clear ho1 hv1 he1) | ((with_reducible refine wpList_storeSs rfl (.tmp 2) (.tmp 8) rfl w.heap.size s1 rfl rfl HB1.out ?_);intro W2 h2))
 have HA0:=zh (show ExpS w W2 w.heap.size z s0.V 0 s1 from by
  rw [← h2.out]
  exact ⟨StB.start HO1.out HB1.out HX1.out (Nat.le_refl _),HD1.out.grown (grown_setCells' _ _ _ _) (fun e=>by injection e;omega),HV1.out⟩)
 clear h2 HB1 HD1 HO1 HV1 HX1 HB HD q0 q1 q2 q3 q4 hW HE
 go_wp2_with fail
 go_loopw [9] (fun vi wr=>∃ (k:Nat) (s:StR),vi=.int .i64 (k:Int)∧k≤10∧Hid (ExpS w wr w.heap.size z s0.V k s)) (fun i _=>10 - (intOf i).toNat)
 case atStart=>exact ⟨0,s1,rfl,Nat.zero_le _,HA0⟩
 case round =>
  clear HA0
  obtain ⟨k,s,rfl,hk,HA⟩:=hrel
  by_cases hlt:k < 10
  ·have i0 : (0 : Int) ≤ (k : Int) := by omega
   have i1:(k:Int) < 10:=by omega
   have i2:(k:Int)≤64:=by omega
   have HLT:=zh hlt
   obtain ⟨q0,q1,q2,q3,q4⟩:=ss_facts HA.out.st.blk
   go_upto_region 6 with fail
   have HBK:=zh (show wrap64 (2 ^ k)=(2:Int) ^ k from by
    rw [← wrapE];exact wr_id (pow_in (by omega)))
   obtain ⟨B,hB⟩:∃ B:Int,wrap64 (2 ^ k)=B:=⟨_,rfl⟩
   rw [hB] at HBK ⊢
   have HP1:=zh (show (2:Int) ^ k ≠ 0 from Int.ne_of_gt (Int.pow_pos (by decide)))
   have HB1:=zh (show bits .and .i64 z B=if hasM z k=true then 2 ^ k else 0 from by rw [HBK.out];exact bits_and_pow z (by omega))
   have HB2:=zh (show bits .and .i64 s.G B=if hasM s.G k=true then 2 ^ k else 0 from by rw [HBK.out];exact bits_and_pow s.G (by omega))
   have HB3:=zh (show bits .or .i64 s.G B=addM s.G k from by rw [HBK.out];exact bits_or_pow HA.out.st.own.g (by omega))
   clear hB
   by_cases c1:hasM z k=true
   ·have b1 : (bits .and .i64 z B != 0) = true := by rw [HB1.out, if_pos c1]; exact bne_iff_ne.2 HP1.out
    by_cases c2:hasM s.G k=true
    ·have b2 : (bits .and .i64 s.G B == 0) = false := by rw [HB2.out, if_pos c2]; exact beq_false_of_ne HP1.out
     have HF:=zh (show ExpS w wr w.heap.size z s0.V (k+1) s from ⟨HA.out.st,HA.out.res,by
      rw [expN_succ,← HA.out.v];unfold expS1;rw [if_neg (fun h=>by have:=h.2;rw [show s.V.G=s.G from rfl,c2] at this;cases this)]⟩)
     clear c1 c2
     go_wp2_with fail
     go_roundw
     case rel=>exact ⟨k+1,s,by go_num,hlt,HF⟩
     case measure=>simp [intOf];omega
    ·have b2 : (bits .and .i64 s.G B == 0) = true := by rw [HB2.out, if_neg c2]; rfl
     have HC1:=zh c1
     have HC2:=zh c2
     clear c1 c2
     go_upto_region 7 with fail
     clear b1 b2
     have HAW:=zh (HA.out.ext ((Ext.refl wr).drew'))
     have HCE:=zh (show ceW (stkC (k:Int)) from ce_ok (k:=3) (i:=(k:Int)) (wfS ⟨by omega,by omega⟩) (wfS ⟨by omega,by omega⟩))
     have HCP:=zh (show ceW polC from ce_ok (k:=4) (i:=0) (wfS ⟨by omega,by omega⟩) (wfS ⟨by omega,by omega⟩))
     have HGW:=zh (show wfI (getC s.C (stkC (k:Int))) from getC_wf HA.out.st.own.k1)
     have HBD:=zh (show s.n1≤1000000∧s.n2≤1000000∧s.n3≤1000000∧s.n4≤1000000 from by
      have hv:=HA.out.v
      have h5:=HN.out
      have l1:=HA.out.st.own.l1
      have l2:=HA.out.st.own.l2
      have l3:=HA.out.st.own.l3
      have l4:=HA.out.st.own.l4
      have m1:=HS0.out.s1.len
      have m2:=HS0.out.s2.len
      have m3:=HS0.out.s3.len
      have m4:=HS0.out.s4.len
      have e1:s.C=(expN z s0.V k).C:=congrArg StV.C hv
      have e2:s.Q=s0.Q:=(congrArg StV.Q hv).trans (expN_QP z s0.V k).1
      have e3:s.K=s0.K:=(congrArg StV.K hv).trans (exp_k z s0.V k)
      have e4:s.P=s0.P:=(congrArg StV.P hv).trans (expN_QP z s0.V k).2
      have e5:=exp_len z s0.V k
      rw [e1] at l1;rw [e2] at l2;rw [e3] at l3;rw [e4] at l4
      have e6:s0.V.C=s0.C:=rfl
      rw [e6] at e5
      omega)
     clear q0 q1 q2 q3 q4
     refine wp_region_held_drew (S:=fun _=>True) (by kernel_rfl) (trivial) (fun hHeld=>?_)
     refine zzr [1,5] ?_
     refine zzj (VE 0 (.agg (ssA s)) (VE 2 (.agg (ceA (stkC (k:Int)))) (VE 3 (.agg (ceA polC)) (VE 4 (.agg (ssA s)) (VE 6 (.agg (ceA (stkC (k:Int)))) (VE 7 (.int .i64 (getC s.C (stkC (k:Int)))) (VV 8 (fun v V=>∃ A n c,v=.slice A n c∧SlG V A n c (movC (stkC (k:Int)) polC (getC s.C (stkC (k:Int))))) (VV 9 (fun v V=>∃ s2,v=.agg (ssA s2)∧OwnS V w.heap.size s2∧s2.V=⟨addL s.C (movC (stkC (k:Int)) polC (getC s.C (stkC (k:Int)))),s.Q,s.K,s.P,s.G⟩) VN)))))))) [(0,some 25),(2,some 27),(3,some 28),(4,some 29),(6,some 31),(7,some 32),(8,some 33),(9,some 34)] 1 (fun _ _ h _=>h) (ve (ve (ve (ve (ve (ve (VV.ext (fun v w w' ⟨A,n,c,h1,h2⟩ e=>⟨A,n,c,h1,h2.ext e⟩) (VV.ext (fun v w w' ⟨s2,h1,h2,h3⟩ e=>⟨s2,h1,h2.ext e,h3⟩) VN.ext)))))))) (zzc ?_ (zzc ?_ (zzc ?_ (zzc ?_ (zzc ?_ (zzc ?_ (zzc ?_ (zzc ?_ zzn)))))))) ?_
     ·refine zzp fun W5 hE hS K hK => ?_
      obtain ⟨q0,q1,q2,q3,q4⟩:=ss_facts (HAW.out.st.blk.ext hE)
      go_simp
      exact zzF hK (.agg (ssA s))
     ·refine zzp fun W5 hE hS K hK => ?_
      go_simp
      go_at_call 80
      refine (stake_any (k:Int) _).mono ?_
      rintro e w5 ⟨rfl,he5⟩
      exact zzK (hK.out (.agg (ceA (stkC (k:Int)))) _ (he5) (rfl))
     ·refine zzp fun W5 hE hS K hK => ?_
      go_simp
      go_at_call 68
      refine (pool_any _).mono ?_
      rintro e w5 ⟨rfl,he5⟩
      exact zzK (hK.out (.agg (ceA polC)) _ (he5) (rfl))
     ·refine zzp fun W5 hE hS K hK => ?_
      obtain ⟨q0,q1,q2,q3,q4⟩:=ss_facts (HAW.out.st.blk.ext hE)
      go_simp
      exact zzF hK (.agg (ssA s))
     ·refine zzp fun W5 hE hS K hK => ?_
      go_simp
      go_at_call 80
      refine (stake_any (k:Int) _).mono ?_
      rintro e w5 ⟨rfl,he5⟩
      exact zzK (hK.out (.agg (ceA (stkC (k:Int)))) _ (he5) (rfl))
     ·refine zm [(4, some 29), (6, some 31)] fun env W5 hE hS hD K hK => ?_
      obtain ⟨h4,h6,-⟩:=zzV hD
      clear hD
      simp only [layj,h4,h6] at hK ⊢
      clear h4
      clear h6
      go_simp
      go_at_call 67
      refine (stGet_any s (stkC (k:Int)) _ (HAW.out.st.own.ok.ext hE) HCE.out).mono ?_
      rintro e w5 ⟨rfl,he5⟩
      exact zzK (hK.out (.int .i64 (getC s.C (stkC (k:Int)))) _ (he5) (rfl))
     ·refine zm [(2, some 27), (3, some 28), (7, some 32)] fun env W5 hE hS hD K hK => ?_
      obtain ⟨h2,h3,h7,-⟩:=zzV hD
      clear hD
      simp only [layj,h2,h3,h7] at hK ⊢
      clear h2
      clear h3
      clear h7
      go_simp
      go_at_call 69
      refine (move_any (stkC (k:Int)) polC (getC s.C (stkC (k:Int))) _ HCE.out HCP.out HGW.out).mono ?_
      rintro e w5 ⟨A5,n5,c5,rfl,hs5,he5⟩
      exact zzK (hK.out (.slice A5 n5 c5) _ (he5) (⟨A5,n5,c5,rfl,hs5⟩))
     ·refine zm [(0, some 25), (8, some 33)] fun env W5 hE hS hD K hK => ?_
      obtain ⟨h0,h8,-⟩:=zzV hD
      clear hD
      simp only [layj,h0] at hK ⊢
      clear h0
      generalize env 8=x8 at h8 hK ⊢
      obtain ⟨A8,n8,c8,rfl,hs8⟩:=h8
      go_simp
      go_at_call 54
      refine (stAdd_any s A8 n8 c8 (movC (stkC (k:Int)) polC (getC s.C (stkC (k:Int)))) _ (HAW.out.st.own.ok.ext hE) hs8 ⟨by rw [← hs8.len];show 2≤100000;omega,HBD.out⟩).mono ?_
      rintro e w5 ⟨s2,rfl,ho2,hv2,he5⟩
      exact zzK (hK.out (.agg (ssA s2)) _ (he5) (⟨s2,rfl,own_monoS ho2 (Nat.le_trans HAW.out.st.low.size hE.size),hv2⟩))
     ·intro env W5 hE hS hV
      obtain ⟨h0,h2,h3,h4,h6,h7,h8,h9,-⟩:=zzV hV
      clear hV
      simp only [layj,h0,h2,h3,h4,h6,h7]
      clear h0
      clear h2
      clear h3
      clear h4
      clear h6
      clear h7
      generalize env 8=x8 at h8 ⊢
      generalize env 9=x9 at h9 ⊢
      obtain ⟨A8,n8,c8,rfl,hs8⟩:=h8
      obtain ⟨s2,rfl,ho2,hv2⟩:=h9
      clear hs8
      have hHeld:=hS
      refine za 10 (fun K hK=>?_)
      (refine step_storeSs rfl (.tmp 2) (.tmp 34) (by rfl) w.heap.size (.agg (ssA s2)) s2 rfl (by rfl) (by rfl) (HAW.out.st.blk.ext hE) ?_;intro W6 h6)
      refine hK.out _ _ (trivial) (fun hHeld=>?_)
      clear hK K
      try simp only [lays]
      refine wpAnyH_done (by kernel_rfl) ?_ _
      have HS2:=zh (show StB w W6 w.heap.size s2 from by rw [← h6.out.1];exact StB.start ho2 (HAW.out.st.blk.ext hE) (HAW.out.st.low.trans hE) (Nat.le_refl _))
      have HR2:=zh (show Blk W6 (w.heap.size+1) 44 (ssA ss0) from by rw [← h6.out.1];exact (HAW.out.res.ext hE).grown (grown_setCells' _ _ _ _) (fun e=>by injection e;omega))
      have HV2:=zh hv2
      clear h6 ho2 hv2 hE hS hHeld HAW
      obtain ⟨q0,q1,q2,q3,q4⟩:=ss_facts HS2.out.blk
      have e4:s2.G=s.G:=congrArg StV.G HV2.out
      rw [e4] at q4
      have f4:=HS2.out.blk.frozen 4
      have HST:=zh (HS2.out.guilty (addM s.G k) (wfI_addM HA.out.st.own.g (by omega)))
      have HF:=zh (show ExpS w (W6.setCell ⟨w.heap.size,4,none⟩ (.int .i64 (addM s.G k))) w.heap.size z s0.V (k+1) { s2 with G:=addM s.G k } from ⟨HST.out,HR2.out.far (p:=⟨w.heap.size,4,none⟩) (by simp) _,by
       rw [expN_succ,← HA.out.v];unfold expS1
       have c2':hasM s.V.G k=false:=by show hasM s.G k=false;simpa using HC2.out
       rw [if_pos ⟨HC1.out,c2'⟩]
       have hv:=HV2.out
       unfold StR.V at hv ⊢
       injection hv with e1 e2 e3 e4 e5
       simp only [e1,e2,e3,e4]⟩)
      rw [← HB3.out] at HF
      clear HST HS2 HR2 e4
      go_wp2_with fail
      go_roundw
      case rel=>exact ⟨k+1,_,by go_num,hlt,HF⟩
      case measure=>simp [intOf];omega
   ·have b1 : (bits .and .i64 z B != 0) = false := by rw [HB1.out, if_neg c1]; rfl
    have HF:=zh (show ExpS w wr w.heap.size z s0.V (k+1) s from ⟨HA.out.st,HA.out.res,by
     rw [expN_succ,← HA.out.v];unfold expS1;rw [if_neg (fun h=>c1 h.1)]⟩)
    clear c1
    go_wp2_with fail
    go_roundw
    case rel=>exact ⟨k+1,s,by go_num,hlt,HF⟩
    case measure=>simp [intOf];omega
  ·obtain rfl : k = 10 := by omega
   have i1:¬ (10:Int) < 10:=by omega
   obtain ⟨q0,q1,q2,q3,q4⟩:=ss_facts HA.out.st.blk
   go_wp2_with (first | ((with_reducible refine wpList_storeSs rfl (.tmp 4) (.tmp 41) rfl (w.heap.size+1) s rfl rfl HA.out.res ?_);intro W9 h9))
   have hst:Blk W9 (w.heap.size+1) 44 (ssA s):=by rw [← h9.out];exact blk_whole (ds:=ssA s) HA.out.res rfl
   have HOW:=zh (show OwnS W9 w.heap.size s from by
    rw [← h9.out]
    exact HA.out.st.own.kept (grown_setCells' _ _ _ _) HA.out.res (by decide) (by decide) (by decide) (by decide))
   have HXE:=zh (show Ext w W9 from by rw [← h9.out];exact Below.setCells' HA.out.st.low (Nat.le_succ _) _ _)
   clear h9
   exact bodyPost_ret (v:=.agg (ssA s)) (retC rfl _ _ (w.heap.size+1) _ rfl (run_loadVar_row _ _ _ _ _ (0,0) _ hst Tryz.underlying44 rfl (by kernel_rfl))) rfl ⟨s,rfl,HOW.out,HA.out.v,HXE.out⟩
end Go.Proofs.YtohmmcahpakokaaGreat
