/- The law's genesis. -/
import Derived.Test.YtohmmcahpakokaaGreatK46
import Derived.Test.YtohmmcahpakokaaGreatK48
set_option maxRecDepth 100000
set_option maxHeartbeats 8000000
set_option linter.unusedVariables false
set_option linter.unusedSimpArgs false
namespace Go.Proofs.YtohmmcahpakokaaGreat
open Go.RowKit
attribute [local go_sem ↓] Go.wp_at_zero Go.wp_at_succ
theorem vSg_right (seed pb:UInt64) (ac sq:Int) (L:List OpR) (hpb:pubV seed 1=pb) (hl:OpLens L) (hv:vTx ac sq L=true) (T:TxR) (hT:TxLens T) (e:T.v=(ac,sq,L.map OpR.v,sig1 seed sq.toNat (txNm ac sq L))):vSg pb T=true:=by
 obtain ⟨hh,_⟩:=vTx_of hv
 obtain ⟨nm,hnm⟩:∃ nm,txNm ac sq L=nm:=⟨_,rfl⟩
 have hsq:((sq.toNat:Nat):Int)=sq:=by omega
 obtain ⟨s,h1,_,h3,h4,_⟩:=sig_right seed nm 1 sq.toNat (.inl ⟨rfl,by omega⟩)
 rw [hsq,sigU_in seed nm hh.2.2.1 hh.2.2.2.1] at h1
 injection h1 with h1
 rw [hpb] at h4
 rw [hnm] at e
 unfold TxR.v at e
 injection e with e1 e
 injection e with e2 e
 injection e with e3 e4
 have hn:=congrArg List.length e3
 rw [List.length_map,List.length_map] at hn
 have hvt:vTx T.ac T.sq T.L=true:=by
  rw [vTx_v (fun R hR=>vOp_v (hT.1 R hR).1 (hT.1 R hR).2),e1,e2,e3,← vTx_v (fun R hR=>vOp_v (hl R hR).1 (hl R hR).2)]
  exact hv
 have hnt:txNm T.ac T.sq T.L=nm:=by
  rw [← hnm]
  unfold txNm
  rw [hvt,hv]
  unfold encTx
  rw [encOps_v e3,hn,e1,e2]
 unfold vSg
 rw [hvt,hnt,e4,h1,h4,h3,hsq,e2]
 simp
def seedTwo:UInt64:=144115188075855872
theorem seedTwo_cells:nmc seedTwo=#[.int .u8 2,.int .u8 0,.int .u8 0,.int .u8 0,.int .u8 0,.int .u8 0,.int .u8 0,.int .u8 0]:=by kernel_rfl
theorem run_bsN2 (a b:UInt64) (w:World):(Instr.buildSlice 37 2 #[(0,.agg (nmc a)),(1,.agg (nmc b))]).run Tryz.prog w=.ok (.slice (some ⟨w.heap.size,0,none⟩) 2 2) (w.alloc (.cells (nmc a ++ nmc b) 30)):=by
 rw [← nmc_nb8 a,← nmc_nb8 b];kernel_rfl
section
variable {ops:Array Oper} {rest:List Oper} {o:Oper} {a:Act} {w:World} {K:Act→World→Prop} {Q:Exit→Act→World→Prop}
theorem wpList_bs2 (hgd:o.guard=none) {ty e:TypeId} (x y:Operand) (ho:o.op=.buildSlice ty 2 #[(0,x),(1,y)]) {vx vy:Value} {cs:Array Value} (hx:a.eval x=vx) (hy:a.eval y=vy) (hr:(Instr.buildSlice ty 2 #[(0,vx),(1,vy)]).run Tryz.prog w=.ok (.slice (some ⟨w.heap.size,0,none⟩) 2 2) (w.alloc (.cells cs e)))
  (h:∀ (g:Nat) (W2:World),Hid (Blk W2 g e cs∧Ext w W2)→wpList Tryz.prog ops Q rest (a.put o.dst (.slice (some ⟨g,0,none⟩) 2 2)) W2):wpList Tryz.prog ops Q (o :: rest) a w :=
 wpList_run hgd (exec_bs2 x y ho hx hy hr) (h _ _ (zh ⟨Blk.new w e cs,(Ext.refl w).alloc' _⟩))
theorem wpList_storeGe (hgd:o.guard=none) (x y:Operand) (ho:o.op=.store 40 x y) (g:Nat) (N Z:Int) (B1:Option Addr) (m1 d1:Nat) (B2:Option Addr) (m2 d2:Nat) (B3:Option Addr) (m3 d3:Nat) (hx:a.eval x=.pointer (some ⟨g,0,none⟩)) (hy:a.eval y=.agg (genC N Z B1 m1 d1 B2 m2 d2 B3 m3 d3)) {cs:Array Value} (hcs:cs.size=5) (hb:Blk w g 40 cs)
  (h:∀ W,Hid (Blk W g 40 (genC N Z B1 m1 d1 B2 m2 d2 B3 m3 d3)∧w.setCells g 0 (genC N Z B1 m1 d1 B2 m2 d2 B3 m3 d3).toList=W)→wpList Tryz.prog ops Q rest (a.put o.dst undef) W):wpList Tryz.prog ops Q (o :: rest) a w :=
 wpList_store_mid hgd 40 x y ho g 0 (genC N Z B1 m1 d1 B2 m2 d2 B3 m3 d3) hx hy (by have:=there_of_blk hb;rw [hcs] at this;exact this) (by kernel_rfl) (by simp [Value.oneCell']) (h _ (zh ⟨blk_whole (ds:=genC N Z B1 m1 d1 B2 m2 d2 B3 m3 d3) hb (by rw [hcs];rfl),rfl⟩))
end
def GnOut (w:World) (e:Ending) (w':World):Prop:=∃ B1 B2 B3:Option Addr,e=.returned (.agg (genC 1 3 B1 1 1 B2 2 2 B3 2 2))∧SlG w' B2 2 2 [pubV seedOne 1,pubV seedTwo 1]∧SlG w' B3 2 2 [(5:Int),0]∧SlG w' B1 1 1 [seedOne]∧Ext w w'
theorem genesis22_any (w:World):Calls Tryz.prog 39 #[] w (GnOut w):=by
 obtain ⟨W,hW⟩:∃ W,w.alloc (.cells #[.int .i64 0,.int .i64 0,.slice none 0 0,.slice none 0 0,.slice none 0 0] 40)=W:=⟨_,rfl⟩
 have HB:=zh (show Blk W w.heap.size 40 #[.int .i64 0,.int .i64 0,.slice none 0 0,.slice none 0 0,.slice none 0 0] from by rw [← hW];exact Blk.new w _ _)
 have HE:=zh (show Ext w W from by rw [← hW];exact (Ext.refl w).alloc' _)
 obtain ⟨k1,hk1⟩:∃ k,pubV seedOne 1=k:=⟨_,rfl⟩
 obtain ⟨k2,hk2⟩:∃ k,pubV seedTwo 1=k:=⟨_,rfl⟩
 have HP1:=zh (fun (V:World)=>refPublic_any seedOne 1 V)
 have HP2:=zh (fun (V:World)=>refPublic_any seedTwo 1 V)
 rw [hk1,seedOne_cells] at HP1
 rw [hk2,seedTwo_cells] at HP2
 have HBN:=zh (fun (V:World)=>run_bsN2 k1 k2 V)
 obtain ⟨v1,hv1⟩:∃ v,Value.agg (nmc k1)=v:=⟨_,rfl⟩
 obtain ⟨v2,hv2⟩:∃ v,Value.agg (nmc k2)=v:=⟨_,rfl⟩
 rw [hv1] at HP1
 rw [hv2] at HP2
 rw [hv1,hv2] at HBN
 obtain ⟨W1,hW1⟩:∃ W1,W.alloc (.cells #[.int .u8 1,.int .u8 0,.int .u8 0,.int .u8 0,.int .u8 0,.int .u8 0,.int .u8 0,.int .u8 0] 30)=W1:=⟨_,rfl⟩
 obtain ⟨X,hX⟩:∃ X,W.heap.size=X:=⟨_,rfl⟩
 have HX:=zh (show Blk W1 X 30 (nmc seedOne) from by rw [← hW1,← hX,seedOne_cells];exact Blk.new W _ _)
 have HE1:=zh (show Ext W W1 from by rw [← hW1];exact (Ext.refl W).alloc' _)
 have HXE:=zh hX
 have HK1:=zh hk1
 have HK2:=zh hk2
 show Calls _ _ _ _ (fun e w'=>∃ B1 B2 B3:Option Addr,e=.returned (.agg (genC 1 3 B1 1 1 B2 2 2 B3 2 2))∧SlG w' B2 2 2 [pubV seedOne 1,pubV seedTwo 1]∧SlG w' B3 2 2 [(5:Int),0]∧SlG w' B1 1 1 [seedOne]∧Ext w w')
 rw [hk1,hk2]
 clear hk1 hk2 hv1 hv2 hX
 go_enter Tryz.func39,Tryz.ntmps39
 go_wp2_with fail
 try rw [hW1]
 rw [HXE.out]
 clear hW1
 refine (HP1.out _).mono ?_
 rintro e w1 ⟨rfl,he1⟩
 have HA1:=zh (HE1.out.trans he1)
 have HX1:=zh (HX.out.ext he1)
 clear he1
 go_wp2_with fail
 refine (HP2.out _).mono ?_
 rintro e w2 ⟨rfl,he2⟩
 have HA2:=zh (HA1.out.trans he2)
 have HX2:=zh (HX1.out.ext he2)
 clear he2
 have HZ2:=zh (HB.out.ext HA2.out)
 go_wp2_with (first | ((with_reducible refine wpList_bs2 (vx:=v1) (vy:=v2) rfl (.tmp 4) (.tmp 6) rfl rfl rfl (HBN.out _) ?_);intro g3 W3 h3;obtain ⟨W4,hW4⟩:∃ W4,W3.alloc (.cells #[.int .i64 5,.int .i64 0] 3)=W4:=⟨_,rfl⟩;have HE4:=zh (show Ext W3 W4 from by rw [← hW4];exact (Ext.refl W3).alloc' _);have HI4:=zh (show Blk W4 W3.heap.size 3 #[.int .i64 5,.int .i64 0] from by rw [← hW4];exact Blk.new W3 _ _);have HZ4:=zh ((HZ2.out.ext h3.out.2).ext HE4.out)) | ((try rw [hW4]);(with_reducible refine wpList_storeGe rfl (.tmp 0) (.tmp 9) rfl w.heap.size 1 3 (some ⟨X,0,none⟩) 1 1 (some ⟨g3,0,none⟩) 2 2 (some ⟨W3.heap.size,0,none⟩) 2 2 rfl rfl rfl HZ4.out ?_);intro W5 h5))
 have hZ:=HZ4.out
 have hb1:Blk W4 X 30 (nmc seedOne):=(HX2.out.ext h3.out.2).ext HE4.out
 have hb2:Blk W4 g3 30 (nmc k1 ++ nmc k2):=h3.out.1.ext HE4.out
 have hb3:=HI4.out
 have hA:Ext w W4:=HE.out.trans (HA2.out.trans (h3.out.2.trans HE4.out))
 have hst:=h5.out.1
 have h55:=h5.out.2
 have c1:Blk W5 X 30 (nmc seedOne):=by rw [← h55];exact hb1.setCells_far (blk_ne hb1 hZ (by decide)) _ _
 have c2:Blk W5 g3 30 (nmc k1 ++ nmc k2):=by rw [← h55];exact hb2.setCells_far (blk_ne hb2 hZ (by decide)) _ _
 have c3:Blk W5 W3.heap.size 3 #[.int .i64 5,.int .i64 0]:=by rw [← h55];exact hb3.setCells_far (blk_ne hb3 hZ (by decide)) _ _
 have c4:Ext w W5:=by rw [← h55];exact Below.setCells' hA (Nat.le_refl _) _ _
 refine bodyPost_ret (v:=.agg (genC 1 3 (some ⟨X,0,none⟩) 1 1 (some ⟨g3,0,none⟩) 2 2 (some ⟨W3.heap.size,0,none⟩) 2 2)) (retC rfl _ _ w.heap.size _ rfl (run_loadVar_row _ _ _ _ _ (0,0) _ hst Tryz.underlying40 rfl (by kernel_rfl))) rfl ⟨_,_,_,rfl,⟨rfl,by decide,by decide,?_,fun _ _=>trivial⟩,⟨rfl,by decide,by decide,?_,?_⟩,⟨rfl,by decide,by decide,?_,fun _ _=>trivial⟩,c4⟩
 ·have := Rd.of_blk c2
  rwa [Array.toList_append,nmc_toList,nmc_toList] at this
 ·exact Rd.of_blk c3
 ·intro R hR
  rcases List.mem_cons.1 hR with rfl | hR
  ·show (Lit.int .i64 5).wf=true;decide
  ·rcases List.mem_cons.1 hR with rfl | hR
   ·show (Lit.int .i64 0).wf=true;decide
   ·simp at hR
 ·have := Rd.of_blk c1
  rwa [nmc_toList] at this
theorem long22_any (ac sq:Int) (A:Option Addr) (n c:Nat) (L:List OpR) (w:World) (hS:SlO w A n c L) :
  Calls Tryz.prog 11 #[.agg (txA ac sq A n c)] w (LongOut w):=by
 have hle:=hS.le
 have hcap:=hS.cap
 have HL:=zh hS.len
 have hE:=(Ext.refl w).alloc' (.cells (txA ac sq A n c) 24)
 obtain ⟨w0,hw0⟩:∃ w0,w.alloc (.cells (txA ac sq A n c) 24)=w0:=⟨_,rfl⟩
 have q0:(w.alloc (.cells (txA ac sq A n c) 24)).cell? ⟨w.heap.size,2,none⟩=some (.slice A n c):=(Blk.new w 24 (txA ac sq A n c)).cell 2
 have HE:=zh hE
 have HS:=zh (hS.ext hE)
 rw [hw0] at HE HS q0
 clear hS hE
 by_cases h50:50 < n
 ·have d1 : (50 : Int) < (n : Int) := by omega
  go_enter Tryz.func11,Tryz.ntmps11
  go_wp2_with fail
  go_ret
  exact ⟨⟨_,rfl⟩,HE.out⟩
 ·have d1 : decide ((50 : Int) < (n : Int)) = false := decide_eq_false (by omega)
  go_enter Tryz.func11,Tryz.ntmps11
  go_wp2_with fail
  clear hw0
  go_loop [3] (fun i=>∃ k:Nat,k≤n∧i=.int .i64 (k:Int)) (fun i=>n - (intOf i).toNat)
  case atStart=>exact ⟨0,Nat.zero_le _,rfl⟩
  case round =>
   obtain ⟨k,hk,rfl⟩:=hrel
   by_cases hlt:k < n
   ·obtain ⟨b, o, rfl, hr, hb⟩ := HS.out.at (by omega)
    have hrt:=op_at hr (k:=k) (by rw [HL.out];exact hlt)
    have hok:=HS.out.nth hlt
    have i0:(0:Int)≤(k:Int):=by omega
    have i1:(k:Int) < (n:Int):=by omega
    obtain ⟨R,hR⟩:∃ R,nthO L k=R:=⟨_,rfl⟩
    rw [hR] at hrt hok
    obtain ⟨r1,r2⟩:=opL_cells hrt
    have m1:=hok.pre.le
    have m2:=hok.pre.cap
    have m3:=hok.prf.le
    have m4:=hok.prf.cap
    clear hr hb hrt hok hR
    by_cases hC:5000 < R.n2
    ·have d4 : (5000 : Int) < (R.n2 : Int) := by omega
     go_wp2_with fail
     go_ret
     exact ⟨⟨_,rfl⟩,HE.out⟩
    ·have d4 : decide ((5000 : Int) < (R.n2 : Int)) = false := decide_eq_false (by omega)
     by_cases hD:5000 < R.n1
     ·have d5 : (5000 : Int) < (R.n1 : Int) := by omega
      go_wp2_with fail
      go_ret
      exact ⟨⟨_,rfl⟩,HE.out⟩
     ·have d5 : decide ((5000 : Int) < (R.n1 : Int)) = false := decide_eq_false (by omega)
      go_wp2_with fail
      go_round
      case rel=>exact ⟨k+1,by omega,by go_num⟩
      case measure=>simp [intOf];omega
   ·obtain rfl : k = n := by omega
    go_wp2_with fail
    go_ret
    exact ⟨⟨_,rfl⟩,HE.out⟩
end Go.Proofs.YtohmmcahpakokaaGreat
namespace Go.Proofs.YtohmmcahpakokaaGreat
open Go.RowKit
def opW (n:Int) (A1:Option Addr) (c1:Nat) (A2:Option Addr) (c2:Nat):OpR:=⟨1,1,n,0,0,0,0,A1,0,c1,[],A2,0,c2,[]⟩
def opWV (n:Int):OpV:=⟨1,1,n,0,0,0,0,[],[]⟩
theorem op_of {n:Int} {R:OpR} {w:World} (h:R.ok w) (hv:R.v=opWV n):∃ A1 c1 A2 c2,R=opW n A1 c1 A2 c2:=by
 obtain ⟨k,to',am,ul,va,lk,hs,A1,n1,c1,pre,A2,n2,c2,prf⟩:=R
 have h1:=h.pre.len
 have h2:=h.prf.len
 unfold OpR.v opWV at hv
 injection hv with e1 e2 e3 e4 e5 e6 e7 e8 e9
 simp only at h1 h2 e1 e2 e3 e4 e5 e6 e7 e8 e9
 subst e1;subst e2;subst e3;subst e4;subst e5;subst e6;subst e7;subst e8;subst e9
 simp only [List.length_nil] at h1 h2
 subst h1;subst h2
 exact ⟨A1,c1,A2,c2,rfl⟩
theorem ops_of {n:Int} {L:List OpR} {w:World} (h:∀ R,R ∈ L→R.ok w) (hv:L.map OpR.v=[opWV n]):∃ A1 c1 A2 c2,L=[opW n A1 c1 A2 c2]:=by
 cases L with
 | nil=>simp at hv
 | cons R r =>
  cases r with
  | nil =>
   obtain ⟨A1,c1,A2,c2,rfl⟩:=op_of (h R (by simp)) (by simpa using hv)
   exact ⟨A1,c1,A2,c2,rfl⟩
  | cons _ _=>simp at hv
def S22:StV:=genSt 2 [5,0] 3 1
section
variable (H:List UInt8→UInt64) (ev:OpR→Bool) (A1:Option Addr) (c1:Nat) (A2:Option Addr) (c2:Nat)
theorem vW6:vTx 0 0 [opW 6 A1 c1 A2 c2]=true:=by kernel_rfl
theorem vW4:vTx 0 0 [opW 4 A1 c1 A2 c2]=true:=by kernel_rfl
theorem vldW:vldG 1 3 1 2 2 [5,0]=true:=by decide
theorem S22_v:S22=⟨[⟨balC 0,5⟩,⟨stkC 0,3⟩],[0,0],[],[],0⟩:=by kernel_rfl
theorem aw_c6:exeC (chkO 2 1 1 H ev 0) true 2 true S22 0 0 [opW 6 A1 c1 A2 c2]=100:=by kernel_rfl
theorem aw_c4:exeC (chkO 2 1 1 H ev 0) true 2 true S22 0 0 [opW 4 A1 c1 A2 c2]=0:=by kernel_rfl
theorem aw_s4:(exeS (chkO 2 1 1 H ev 0) true 2 true S22 0 0 [opW 4 A1 c1 A2 c2]).C=[⟨balC 0,1⟩,⟨balC 1,4⟩,⟨stkC 0,3⟩]:=by kernel_rfl
theorem aw_o4:outT 0 0 [opW 4 A1 c1 A2 c2]=4:=by kernel_rfl
theorem aw_o6:outT 0 0 [opW 6 A1 c1 A2 c2]=6:=by kernel_rfl
theorem aw_e4:(effT 0 0 [opW 4 A1 c1 A2 c2]).length=2:=by kernel_rfl
theorem aw_e6:(effT 0 0 [opW 6 A1 c1 A2 c2]).length=2:=by kernel_rfl
theorem aw_r6:(repS S22 0 0 [opW 6 A1 c1 A2 c2]).C=[⟨balC 0,-1⟩,⟨balC 1,6⟩,⟨stkC 0,3⟩]:=by kernel_rfl
theorem aw_p:addC [⟨balC 0,-1⟩,⟨balC 1,6⟩,⟨stkC 0,3⟩] polC 4=[⟨balC 0,-1⟩,⟨balC 1,6⟩,⟨stkC 0,3⟩,⟨polC,4⟩]:=by kernel_rfl
theorem aw_y:covC [⟨balC 0,-1⟩,⟨balC 1,6⟩,⟨stkC 0,3⟩,⟨polC,4⟩]=[⟨balC 1,6⟩,⟨stkC 0,3⟩,⟨polC,3⟩]:=by kernel_rfl
theorem aw_z:expS 1 S22=⟨[⟨balC 0,5⟩,⟨polC,3⟩],[0,0],[],[],1⟩:=by kernel_rfl
theorem aw_g1:getC [⟨balC 0,1⟩,⟨balC 1,4⟩,⟨stkC 0,3⟩] (balC 1)=4:=by kernel_rfl
theorem aw_g2:getC [⟨balC 0,-1⟩,⟨balC 1,6⟩,⟨stkC 0,3⟩] (balC 0)=-1:=by kernel_rfl
theorem aw_g3:getC [⟨balC 1,6⟩,⟨stkC 0,3⟩,⟨polC,3⟩] (balC 0)=0:=by kernel_rfl
theorem aw_g4:getC [⟨balC 1,6⟩,⟨stkC 0,3⟩,⟨polC,3⟩] polC=3:=by kernel_rfl
theorem aw_g5:getC [⟨balC 0,5⟩,⟨polC,3⟩] polC=3:=by kernel_rfl
end
end Go.Proofs.YtohmmcahpakokaaGreat
namespace Go.Proofs.YtohmmcahpakokaaGreat
open Go.RowKit
attribute [local go_sem ↓] Go.wp_at_zero Go.wp_at_succ
theorem rSame_any (s t:StR) (w:World) (hs:s.ok w) (ht:t.ok w):Calls Tryz.prog 22 #[.agg (ssA s),.agg (ssA t)] w fun e w'=>e=.returned (.bool (decide (s.V=t.V)))∧Ext w w':=by
 obtain ⟨W,hW⟩:∃ W,(w.alloc (.cells (ssA s) 44)).alloc (.cells (ssA t) 44)=W:=⟨_,rfl⟩
 have HB:=zh (show Blk W w.heap.size 44 (ssA s) from by rw [← hW];exact (Blk.new w 44 (ssA s)).alloc _)
 have HC:=zh (show Blk W (w.heap.size+1) 44 (ssA t) from by rw [← hW];exact Blk.newAt _ _ _ _ (by simp))
 have HE:=zh (show Ext w W from by rw [← hW];exact ((Ext.refl w).alloc' _).alloc' _)
 have HS:=zh hs
 have HT:=zh ht
 have hle:=hs.s3.le
 have hcap:=hs.s3.cap
 have hle2:=ht.s3.le
 have hcap2:=ht.s3.cap
 obtain ⟨q0,q1,q2,q3,q4⟩:=ss_facts HB.out
 obtain ⟨p0,p1,p2,p3,p4⟩:=ss_facts HC.out
 clear hs ht
 by_cases hnm:s.n3=t.n3
 ·have b0 : ((s.n3 : Int) != (t.n3 : Int)) = false := by rw [hnm]; exact bne_self_eq_false _
  have HNM:=zh hnm
  clear hnm
  go_enter Tryz.func22,Tryz.ntmps22
  go_wp2_with fail
  clear b0 q0 q1 q2 q3 q4 p0 p1 p2 p3 p4
  go_loopw [5] (fun vi wr=>∃ k:Nat,vi=.int .i64 (k:Int)∧k≤s.n3∧Hid (∀ j,j < k→nthG s.K j=nthG t.K j)∧Hid (Ext W wr)) (fun i _=>s.n3 - (intOf i).toNat)
  case atStart=>exact ⟨0,rfl,Nat.zero_le _,zh (fun j hj=>absurd hj (Nat.not_lt_zero _)),zh (Ext.refl W)⟩
  case round =>
   obtain ⟨k,rfl,hk,HN,HXW⟩:=hrel
   have HB1:=zh (HB.out.ext HXW.out)
   have HC1:=zh (HC.out.ext HXW.out)
   have HX:=zh (HE.out.trans HXW.out)
   have q2:wr.cell? ⟨w.heap.size,2,none⟩=some (.slice s.A3 s.n3 s.c3):=HB1.out.cell 2
   by_cases hlt:k < s.n3
   ·have i0 : (0 : Int) ≤ (k : Int) := by omega
    have i1:(k:Int) < (s.n3:Int):=by omega
    have hlt2:k < t.n3:=by have:=HNM.out;omega
    have i2:(k:Int) < (t.n3:Int):=by omega
    obtain ⟨d,hd⟩:∃ d,nthG s.K k=d:=⟨_,rfl⟩
    obtain ⟨d2,hd2⟩:∃ d,nthG t.K k=d:=⟨_,rfl⟩
    obtain ⟨b,o,hab,-,-⟩:=HS.out.s3.at (by omega)
    obtain ⟨b2,o2,hab2,-,-⟩:=HT.out.s3.at (by omega)
    have HAB:=zh hab
    have HAB2:=zh hab2
    have HR1:=zh (fun (V:World) (e:Ext w V)=>show V.rangeAt b (o+k * 19) (RowT.enc d) from by
     rw [← hd]
     obtain ⟨b9,o9,e2,hr2,-⟩:=(HS.out.ext e).s3.at (by omega)
     rw [HAB.out] at e2
     injection e2 with e3
     injection e3 with e4 e5
     subst e4
     subst e5
     exact el_at (k:=k) hr2 (by rw [HS.out.s3.len];omega))
    have HR2:=zh (fun (V:World) (e:Ext w V)=>show V.rangeAt b2 (o2+k * 19) (RowT.enc d2) from by
     rw [← hd2]
     obtain ⟨b9,o9,e2,hr2,-⟩:=(HT.out.ext e).s3.at (by omega)
     rw [HAB2.out] at e2
     injection e2 with e3
     injection e3 with e4 e5
     subst e4
     subst e5
     exact el_at (k:=k) hr2 (by rw [HT.out.s3.len];omega))
    have hw1:lkW d:=by rw [← hd];exact HS.out.s3.nth hlt
    have hw2:lkW d2:=by rw [← hd2];exact HT.out.s3.nth hlt2
    have HNE:=zh (fun W=>run_neqLk d d2 hw1 hw2 W)
    obtain ⟨ne,hne⟩:∃ ne,(!decide (d=d2))=ne:=⟨_,rfl⟩
    rw [hne] at HNE
    have HDK:=zh (show (!decide (nthG s.K k=nthG t.K k))=ne from by rw [hd,hd2];exact hne)
    clear hab hab2 hd hd2 hne hw1 hw2
    go_upto_region 6 with fail
    clear q2
    refine wp_region_held_drew (S:=fun V=>Blk V w.heap.size 44 (ssA s)∧Blk V (w.heap.size+1) 44 (ssA t)∧Ext w V) (by kernel_rfl) (⟨HB1.out.drew,HC1.out.drew,HX.out.trans ((Ext.refl _).drew')⟩) (fun hHeld=>?_)
    refine zt 0 hHeld ?_
    (refine zt 1 hHeld ?_ (hy:=by intro W hSW;have q9:W.cell? ⟨w.heap.size,2,none⟩=some (.slice (some ⟨b,o,none⟩) s.n3 s.c3):=(by rw [← HAB.out];exact hSW.1.cell 2);have q8:W.cell? ⟨w.heap.size+1,2,none⟩=some (.slice (some ⟨b2,o2,none⟩) t.n3 t.c3):=(by rw [← HAB2.out];exact hSW.2.1.cell 2);go_simp <;> with_reducible rfl))
    refine zt 2 hHeld ?_
    refine zt 3 hHeld ?_
    refine zu 4 (v:=.agg (lkA d)) hHeld ?_ (hy:=by exact yields_loadG lkP (by rfl) (.tmp 23) rfl b (o+k * 19) rfl d _ rfl (fun V h=>HR1.out V h.2.2))
    refine zt 5 hHeld ?_
    (refine zt 6 hHeld ?_ (hy:=by intro W hSW;have q9:W.cell? ⟨w.heap.size,2,none⟩=some (.slice (some ⟨b,o,none⟩) s.n3 s.c3):=(by rw [← HAB.out];exact hSW.1.cell 2);have q8:W.cell? ⟨w.heap.size+1,2,none⟩=some (.slice (some ⟨b2,o2,none⟩) t.n3 t.c3):=(by rw [← HAB2.out];exact hSW.2.1.cell 2);go_simp <;> with_reducible rfl))
    refine zt 7 hHeld ?_
    refine zt 8 hHeld ?_
    refine zu 9 (v:=.agg (lkA d2)) hHeld ?_ (hy:=by exact yields_loadG lkP (by rfl) (.tmp 28) rfl b2 (o2+k * 19) rfl d2 _ rfl (fun V h=>HR2.out V h.2.2))
    refine zu 10 (v:=.bool ne) hHeld ?_ (hy:=by exact yields_cmp (by rfl) (.tmp 24) (.tmp 29) (by rfl) (vx:=.agg (lkA d)) (vy:=.agg (lkA d2)) (by rfl) (by rfl) (guard_Lk _ _ _ _ _) HNE.out)
    refine wpAnyH_done (by kernel_rfl) ?_ _
    have HXN:=zh (HXW.out.trans ((Ext.refl _).drew'))
    have HXX:=zh hHeld.2.2
    clear hHeld
    cases ne
    ·go_wp2_with fail
     go_roundw
     case rel=>exact ⟨k+1,by go_num,hlt,zh (fun j hj=>by
      rcases (by omega:j < k ∨ j=k) with hj | rfl
      ·exact HN.out j hj
      ·have h9 := HDK.out
       simpa using h9),HXN⟩
     case measure=>simp [intOf];omega
    ·have HF:=zh (show decide (s.V=t.V)=false from decide_eq_false (fun e=>by
      have e1:s.K=t.K:=congrArg StV.K e
      have h9:=HDK.out
      rw [e1] at h9
      simp at h9))
     go_wp2_with fail
     go_ret
     exact ⟨by rw [HF.out];rfl,HXX.out⟩
   ·obtain rfl : k = s.n3 := by omega
    have i1:¬ (s.n3:Int) < (s.n3:Int):=by omega
    have HEK:=zh (show s.K=t.K from eq_nthG (by rw [HS.out.s3.len,HT.out.s3.len];exact HNM.out) (fun j hj=>HN.out j (by rw [← HS.out.s3.len];exact hj)))
    clear q2
    have HXr:=HX
    clear HB HC
    obtain ⟨q0,q1,q2,q3,q4⟩:=ss_facts HB1.out
    obtain ⟨p0,p1,p2,p3,p4⟩:=ss_facts HC1.out
    have HD:=zh (rSameDeltas_any s.A1 s.n1 s.c1 s.C t.A1 t.n1 t.c1 t.C wr (HS.out.ext HX.out).s1 (HT.out.ext HX.out).s1)
    cases h1:decide (s.C=t.C) with
    | false =>
     rw [h1] at HD
     have HF:=zh (show decide (s.V=t.V)=false from decide_eq_false (fun e=>(of_decide_eq_false h1) (congrArg StV.C e)))
     clear h1
     go_wp2_with fail
     refine HD.out.mono ?_
     rintro e W2 ⟨rfl,he2⟩
     have HX2:=zh (HX.out.trans he2)
     clear he2 q0 q1 q2 q3 q4 p0 p1 p2 p3 p4
     go_wp2_with fail
     go_ret
     exact ⟨by rw [HF.out];rfl,HX2.out⟩
    | true =>
     rw [h1] at HD
     have HE1:=zh (of_decide_eq_true h1)
     clear h1
     go_wp2_with fail
     refine HD.out.mono ?_
     rintro e W2 ⟨rfl,he2⟩
     have HX2:=zh (HX.out.trans he2)
     have HB2:=zh (HB1.out.ext he2)
     have HC2:=zh (HC1.out.ext he2)
     clear he2 q0 q1 q2 q3 q4 p0 p1 p2 p3 p4 HD HB1 HC1
     obtain ⟨q0,q1,q2,q3,q4⟩:=ss_facts HB2.out
     obtain ⟨p0,p1,p2,p3,p4⟩:=ss_facts HC2.out
     have HD:=zh (rSameInts_any s.A2 s.n2 s.c2 s.Q t.A2 t.n2 t.c2 t.Q W2 (HS.out.ext HX2.out).s2 (HT.out.ext HX2.out).s2)
     cases h2:decide (s.Q=t.Q) with
     | false =>
      rw [h2] at HD
      have HF:=zh (show decide (s.V=t.V)=false from decide_eq_false (fun e=>(of_decide_eq_false h2) (congrArg StV.Q e)))
      clear h2
      go_wp2_with fail
      refine HD.out.mono ?_
      rintro e W3 ⟨rfl,he3⟩
      have HX3:=zh (HX2.out.trans he3)
      clear he3 q0 q1 q2 q3 q4 p0 p1 p2 p3 p4
      go_wp2_with fail
      go_ret
      exact ⟨by rw [HF.out];rfl,HX3.out⟩
     | true =>
      rw [h2] at HD
      have HE2:=zh (of_decide_eq_true h2)
      clear h2
      go_wp2_with fail
      refine HD.out.mono ?_
      rintro e W3 ⟨rfl,he3⟩
      have HX3:=zh (HX2.out.trans he3)
      have HB3:=zh (HB2.out.ext he3)
      have HC3:=zh (HC2.out.ext he3)
      clear he3 q0 q1 q2 q3 q4 p0 p1 p2 p3 p4 HD HB2 HC2
      obtain ⟨q0,q1,q2,q3,q4⟩:=ss_facts HB3.out
      obtain ⟨p0,p1,p2,p3,p4⟩:=ss_facts HC3.out
      have HD:=zh (rSameNames_any s.A4 s.n4 s.c4 s.P t.A4 t.n4 t.c4 t.P W3 (HS.out.ext HX3.out).s4 (HT.out.ext HX3.out).s4)
      cases h3:decide (s.P=t.P) with
      | false =>
       rw [h3] at HD
       have HF:=zh (show decide (s.V=t.V)=false from decide_eq_false (fun e=>(of_decide_eq_false h3) (congrArg StV.P e)))
       clear h3
       go_wp2_with fail
       refine HD.out.mono ?_
       rintro e W4 ⟨rfl,he4⟩
       have HX4:=zh (HX3.out.trans he4)
       clear he4 q0 q1 q2 q3 q4 p0 p1 p2 p3 p4
       go_wp2_with fail
       go_ret
       exact ⟨by rw [HF.out];rfl,HX4.out⟩
      | true =>
       rw [h3] at HD
       have HF:=zh (show decide (s.V=t.V)=(s.G == t.G) from by
        have e3:=of_decide_eq_true h3
        rw [Bool.eq_iff_iff,decide_eq_true_eq,beq_iff_eq]
        refine ⟨fun e=>congrArg StV.G e,fun e=>?_⟩
        show (⟨s.C,s.Q,s.K,s.P,s.G⟩:StV)=⟨t.C,t.Q,t.K,t.P,t.G⟩
        rw [HE1.out,HE2.out,HEK.out,e3,e])
       clear h3
       go_wp2_with fail
       refine HD.out.mono ?_
       rintro e W4 ⟨rfl,he4⟩
       have HX4:=zh (HX3.out.trans he4)
       have q4:W4.cell? ⟨w.heap.size,4,none⟩=some (.int .i64 s.G):=(HB3.out.ext he4).cell 4
       have p4:W4.cell? ⟨w.heap.size+1,4,none⟩=some (.int .i64 t.G):=(HC3.out.ext he4).cell 4
       clear he4 q0 q1 q2 q3 p0 p1 p2 p3
       go_wp2_with fail
       go_ret
       exact ⟨by rw [HF.out];rfl,HX4.out⟩
 ·have HF := zh (show decide (s.V = t.V) = false from decide_eq_false (fun e => hnm (by have e1 : s.K = t.K := congrArg StV.K e; have h1 := HS.out.s3.len; have h2 := HT.out.s3.len; rw [e1] at h1; omega)))
  have b0:((s.n3:Int) != (t.n3:Int))=true:=bne_iff_ne.2 (by omega)
  clear hnm
  go_enter Tryz.func22,Tryz.ntmps22
  go_wp2_with fail
  go_ret
  exact ⟨by rw [HF.out];rfl,HE.out⟩
section
variable {ops:Array Oper} {rest:List Oper} {o o2:Oper} {a:Act} {w:World} {K:Act→World→Prop} {Q:Exit→Act→World→Prop}
theorem wpList_newB (hgd:o.guard=none) (ty:TypeId) (x y:Operand) (ho:o.op=.store ty x y) (cs ds:Array Value) (v:Value) (hv:Value.agg ds=v) (hx:a.eval x=.pointer (some ⟨w.heap.size,0,none⟩)) (hy:a.eval y=v) (hcs:ds.size=cs.size) (hi:(Tryz.prog.info? ty).map (·.size)=some ds.size) (h1:ds.all (·.oneCell')=true)
  (h:∀ W2 g,Hid (Blk W2 g ty ds∧Ext w W2∧w.heap.size=g)→wpList Tryz.prog ops Q rest (a.put o.dst undef) W2):wpList Tryz.prog ops Q (o :: rest) a (w.alloc (.cells cs ty)):=by
 subst hv
 refine wpList_store_mid hgd ty x y ho w.heap.size 0 ds hx hy (by rw [hcs];exact there_of_blk (Blk.new w ty cs)) hi h1 ?_
 rw [setCells_whole w ty cs ds hcs]
 exact h _ _ (zh ⟨Blk.new w ty ds,(Ext.refl w).alloc' _,rfl⟩)
theorem wpList_storeB (hgd:o.guard=none) (ty:TypeId) (x y:Operand) (ho:o.op=.store ty x y) (g:Nat) (cs ds:Array Value) (v:Value) (hv:Value.agg ds=v) (hx:a.eval x=.pointer (some ⟨g,0,none⟩)) (hy:a.eval y=v) (hcs:ds.size=cs.size) (hi:(Tryz.prog.info? ty).map (·.size)=some ds.size) (h1:ds.all (·.oneCell')=true) (hb:Blk w g ty cs)
  (h:∀ W2,Hid (Blk W2 g ty ds∧w.setCells g 0 ds.toList=W2)→wpList Tryz.prog ops Q rest (a.put o.dst undef) W2):wpList Tryz.prog ops Q (o :: rest) a w:=by
 subst hv
 exact wpList_store_mid hgd ty x y ho g 0 ds hx hy (by rw [hcs];exact there_of_blk hb) hi h1 (h _ (zh ⟨blk_whole hb hcs,rfl⟩))
end
theorem opW_cells (n:Int):opA (opW n none 0 none 0)=#[.int .i64 1,.int .i64 1,.int .i64 n,.int .i64 0,.int .i64 0,.int .u8 0,.int .u8 0,.int .u8 0,.int .u8 0,.int .u8 0,.int .u8 0,.int .u8 0,.int .u8 0,.int .u8 0,.int .u8 0,.int .u8 0,.int .u8 0,.int .u8 0,.int .u8 0,.int .u8 0,.int .u8 0,.slice none 0 0,.slice none 0 0]:=by
 unfold opA opW;simp only [nb8_nil 0 (by omega),nb8_nil 1 (by omega),nb8_nil 2 (by omega),nb8_nil 3 (by omega),nb8_nil 4 (by omega),nb8_nil 5 (by omega),nb8_nil 6 (by omega),nb8_nil 7 (by omega)]
theorem slO_W (n:Int) (w:World) (g:Nat) (t:TypeId) (h:Blk w g t (opA (opW n none 0 none 0))):SlO w (some ⟨g,0,none⟩) 1 1 [opW n none 0 none 0] :=
 ⟨rfl,Nat.le_refl _,by omega,by
  have e:ocs [opW n none 0 none 0]=(opA (opW n none 0 none 0)).toList:=by rw [ocs_cons,ocs_nil,List.append_nil];rfl
  rw [e];exact Rd.of_blk h,fun R hR=>by
  rw [List.mem_singleton] at hR
  subst hR
  exact ⟨SlB.nil w,SlB.nil w⟩⟩
def tS (n:Int) (A:Option Addr) (c:Nat) (S:Option Addr) (m d:Nat) (A1:Option Addr) (c1:Nat) (A2:Option Addr) (c2:Nat) (sg:List UInt8):TxR:=⟨0,0,A,1,c,S,m,d,[opW n A1 c1 A2 c2],sg⟩
def Sg22 (n:Int) (w:World) (e:Ending) (w':World):Prop:=∃ (A:Option Addr) (c:Nat) (S:Option Addr) (m d:Nat) (A1:Option Addr) (c1:Nat) (A2:Option Addr) (c2:Nat) (sg:List UInt8),e=.returned (.tuple #[.agg (stA 0 0 A 1 c S m d),.int .i64 0])∧(tS n A c S m d A1 c1 A2 c2 sg).ok w'∧vSg (pubV seedOne 1) (tS n A c S m d A1 c1 A2 c2 sg)=true∧Ext w w'
theorem sign22_any (n:Int) (hn:n=6 ∨ n=4) (w:World):Calls Tryz.prog 41 #[.agg #[.int .u8 1,.int .u8 0,.int .u8 0,.int .u8 0,.int .u8 0,.int .u8 0,.int .u8 0,.int .u8 0],.agg #[.int .i64 0,.int .i64 0,.slice (some ⟨w.heap.size,0,none⟩) 1 1]] (w.alloc (.cells #[.int .i64 1,.int .i64 1,.int .i64 n,.int .i64 0,.int .i64 0,.int .u8 0,.int .u8 0,.int .u8 0,.int .u8 0,.int .u8 0,.int .u8 0,.int .u8 0,.int .u8 0,.int .u8 0,.int .u8 0,.int .u8 0,.int .u8 0,.int .u8 0,.int .u8 0,.int .u8 0,.int .u8 0,.slice none 0 0,.slice none 0 0] 69)) (Sg22 n w):=by
 rw [← seedOne_cells,← opW_cells n]
 refine (refSignTx_any seedOne 0 0 (some ⟨w.heap.size,0,none⟩) 1 1 [opW n none 0 none 0] _ (slO_W n _ _ 69 (Blk.new w _ _))).mono ?_
 have hV:vTx 0 0 [opW n none 0 none 0]=true:=by rcases hn with rfl | rfl;exact vW6 none 0 none 0;exact vW4 none 0 none 0
 rintro e w' ⟨he,h⟩
 rcases h with ⟨h,-⟩ | ⟨-,T,rfl,hT,hv⟩
 ·rw [hV] at h;cases h
 ·have hl:OpLens [opW n none 0 none 0]:=by
   intro R hR
   rw [List.mem_singleton] at hR
   subst hR
   exact ⟨rfl,rfl⟩
  have h1:=vSg_right seedOne _ 0 0 _ rfl hl hV T (lens_of hT) hv
  obtain ⟨ac,sq,A,k,c,S,m,d,L,sg⟩:=T
  unfold TxR.v at hv
  simp only [Prod.mk.injEq] at hv
  obtain ⟨rfl,rfl,h3,h4⟩:=hv
  have hops:=hT.ops
  simp only at hops h3 h4
  obtain ⟨A1,c1,A2,c2,rfl⟩:=ops_of hops.ok h3
  have h5:1=k:=hops.len
  subst h5
  exact ⟨A,c,S,m,d,A1,c1,A2,c2,sg,rfl,hT,h1,((Ext.refl w).alloc' _).trans he⟩
theorem aw_s6 (H:List UInt8→UInt64) (ev:OpR→Bool) (A1:Option Addr) (c1:Nat) (A2:Option Addr) (c2:Nat):exeS (chkO 2 1 1 H ev 0) true 2 true S22 0 0 [opW 6 A1 c1 A2 c2]=S22:=by kernel_rfl
theorem slZ_of {w:World} {A:Option Addr} {n c:Nat} {l:List Int} (h:SlG w A n c l):SlZ w A n c l:=⟨h.len,h.le,h.cap,by
 have e:gcs l=ics l:=by
  induction l with
  | nil=>rfl
  | cons x r ih =>
   clear h ih
   generalize x :: r=L
   induction L with
   | nil=>rfl
   | cons y q iq=>rw [gcs_cons,iq];rfl
 rw [← e];exact h.rd⟩
theorem S22_bd {w:World} {s:StR} (h:s.ok w) (hv:s.V=S22):s.n1≤200000∧s.n2≤200000∧s.n3≤200000∧s.n4≤200000:=by
 rw [S22_v] at hv
 have e1:s.C=_:=congrArg StV.C hv
 have e2:s.Q=_:=congrArg StV.Q hv
 have e3:s.K=_:=congrArg StV.K hv
 have e4:s.P=_:=congrArg StV.P hv
 have l1:=h.s1.len
 have l2:=h.s2.len
 have l3:=h.s3.len
 have l4:=h.s4.len
 rw [e1] at l1;rw [e2] at l2;rw [e3] at l3;rw [e4] at l4
 simp only [List.length_cons,List.length_nil] at l1 l2 l3 l4
 omega
theorem exec22_any (n:Int) (hn:n=6 ∨ n=4) (s:StR) (hv:s.V=S22) (B1 B2 B3 A:Option Addr) (c:Nat) (S:Option Addr) (m d:Nat) (A1:Option Addr) (c1:Nat) (A2:Option Addr) (c2:Nat) (sg:List UInt8) (w:World) (hs:s.ok w) (hN:SlG w B2 2 2 [pubV seedOne 1,pubV seedTwo 1]) (hB:SlG w B3 2 2 [(5:Int),0]) (hT:(tS n A c S m d A1 c1 A2 c2 sg).ok w) (hg:vSg (pubV seedOne 1) (tS n A c S m d A1 c1 A2 c2 sg)=true) :
  Calls Tryz.prog 20 #[.agg (genC 1 3 B1 1 1 B2 2 2 B3 2 2),.agg (ssA s),.agg (stA 0 0 A 1 c S m d),.int .i64 1] w (fun e w'=>∃ (s2:StR) (A9:Option Addr) (n9 c9:Nat) (g9:Int),e=.returned (.tuple #[.agg (ssA s2),.agg (rcA ⟨if n=6 then 100 else 0,A9,n9,c9,if n=6 then 0 else 4,g9⟩)])∧s2.ok w'∧(n=6→s2.V=S22)∧(n=4→s2.C=[⟨balC 0,1⟩,⟨balC 1,4⟩,⟨stkC 0,3⟩]∧n9=2)∧Ext w w'):=by
 have hA:=execute_any ⟨1,3,B1,1,1,B2,2,2,B3,2,2,s,0,0,A,1,c,1⟩ S m d [opW n A1 c1 A2 c2] sg [pubV seedOne 1,pubV seedTwo 1] [5,0] (fun _=>false) true true _ w hs hT hN (slZ_of hB) (show (1:Nat)≤9223372036854775807 from by decide) (S22_bd hs hv) (by
  intro R hR
  rw [List.mem_singleton] at hR
  subst hR
  exact Nat.zero_le _) vldW hg rfl (by
  intro R hR hk
  rw [List.mem_singleton] at hR
  subst hR
  exact absurd (show (1:Int)=6 from hk) (by decide))
 refine hA.mono ?_
 simp only
 rw [hv]
 rintro e w' ⟨s2,A9,n9,c9,rfl,ho,hV,hl,he⟩
 rcases hn with rfl | rfl
 ·rw [aw_c6] at hl ⊢
  rw [aw_s6] at hV ⊢
  exact ⟨s2,A9,n9,c9,_,rfl,ho.ok,fun _=>hV,fun h=>absurd h (by decide),he⟩
 ·rw [aw_c4] at hl ⊢
  refine ⟨s2,A9,n9,c9,rcG 0 S22 (exeS (chkO 2 1 1 sumU (fun _=>false) 0) true 2 true S22 0 0 [opW 4 A1 c1 A2 c2]),?_,ho.ok,fun h=>absurd h (by decide),fun _=>⟨?_,?_⟩,he⟩
  ·rw [if_neg (by decide),if_neg (by decide),show rcO 0 0 0 [opW 4 A1 c1 A2 c2]=4 from by unfold rcO;rw [if_pos rfl,aw_o4]]
  ·exact (congrArg StV.C hV).trans (aw_s4 _ _ A1 c1 A2 c2)
  ·have h1 := hl.len
   unfold rcE at h1
   rw [if_pos rfl,aw_e4] at h1
   exact h1.symm
end Go.Proofs.YtohmmcahpakokaaGreat
