/- forkledgermake.Collide: where it answers no, no two valid transactions of one name differ. -/
import Derived.Test.YtohmmcahpakokaaGreatJ34
import Derived.Test.YtohmmcahpakokaaGreatJ45
set_option maxRecDepth 100000
set_option maxHeartbeats 8000000
set_option linter.unusedVariables false
set_option linter.unusedSimpArgs false
namespace Go.Proofs.YtohmmcahpakokaaGreat
section
open Go.RowKit
attribute [local go_sem ↓] Go.wp_at_zero Go.wp_at_succ
def aLW (L:List TtR) (w:World) (e:Ending) (w':World):Prop:=((e=.returned (.bool false)∧aJh L) ∨ e=.returned (.bool true))∧Ext w w'
theorem aCk (A:Option Addr) (n c:Nat) (L:List TtR) (w:World) (h:SlG w A n c L) (hn:n≤12) :
  Calls Tryz.prog 36 #[.slice A n c] w (aLW L w):=by
 have HS:=zh h
 have HLEN:=zh h.len
 have hle:=h.le
 have hcap:=h.cap
 have H0:=zh (ClF.nil (Ext.refl w))
 clear h
 go_enter Tryz.func36,Tryz.ntmps36
 go_wp2_with fail
 go_loopw [3,4,5,6] (fun v3 v4 v5 v6 wr=>∃ (i:Nat) (A1:Option Addr) (n1 c1:Nat) (N:List UInt64) (A2:Option Addr) (n2 c2:Nat) (M:List UInt64) (A3:Option Addr) (n3 c3:Nat) (X:List TtR),v3=.slice A1 n1 c1∧v4=.slice A2 n2 c2∧v5=.slice A3 n3 c3∧v6=.int .i64 (i:Int)∧i≤n∧n2≤4 * i∧Hid (ClF w wr A1 n1 c1 N A2 n2 c2 M A3 n3 c3 X)∧Hid (ColV L i N X)) (fun _ _ _ i _=>n - (intOf i).toNat)
 case atStart=>exact ⟨0,none,0,0,[],none,0,0,[],none,0,0,[],rfl,rfl,rfl,rfl,Nat.zero_le _,Nat.zero_le _,H0,zh (ColV.nil L)⟩
 case round =>
  clear H0
  obtain ⟨i,A1,n1,c1,N,A2,n2,c2,M,A3,n3,c3,X,rfl,rfl,rfl,rfl,hi,hn2,HF,HV⟩:=hrel
  by_cases hlt:i < n
  ·have hn13:n3=n1:=by
    have h1:N.length=n1:=OwnG.len (e:=30) HF.out.o1
    have h2:X.length=n3:=OwnG.len (e:=24) HF.out.o3
    have h3:=HV.out.len
    omega
   subst hn13
   have HNL:=zh (show N.length=n3∧X.length=n3 from ⟨OwnG.len (e:=30) HF.out.o1,OwnG.len (e:=24) HF.out.o3⟩)
   have i0:(0:Int)≤(i:Int):=by omega
   have i1:(i:Int) < (n:Int):=by omega
   obtain ⟨T,hT⟩:∃ T,nthG L i=T:=⟨_,rfl⟩
   have HTD:=zh hT
   have HTK:=zh (show RowT.ok T w from by rw [← hT];exact HS.out.nth hlt)
   obtain ⟨b,o,hab,-,-⟩:=HS.out.at (by omega)
   subst hab
   have HTR:=zh (fun (V:World) (e:Ext w V)=>show V.rangeAt b (o+i * 3) (RowT.enc T) from by
    rw [← hT]
    obtain ⟨b2,o2,e2,hr2,-⟩:=(HS.out.ext e).at (by omega)
    injection e2 with e3
    injection e3 with e4 e5
    subst e4
    subst e5
    exact cG (k:=i) hr2 (by rw [HLEN.out];exact hlt))
   have hr:=HTR.out wr HF.out.low
   have hn3:n3≤i:=by have h2:=HNL.out.2;have h4:=HV.out.le;omega
   clear hT
   go_wp2_with (first | (with_reducible refine aB ttP rfl (.tmp 20) rfl b (o+i * 3) rfl T _ rfl hr ?_))
   refine (gD T.ac T.sq T.A T.n T.c T.L _ (RowT.ext _ _ _ HTK.out HF.out.low)).mono ?_
   rintro e w1 ⟨rfl,he1⟩
   have HF1:=zh (HF.out.ext he1)
   have HE1:=zh (HF.out.low.trans he1)
   have hr1:=HTR.out w1 HE1.out
   clear he1 hr HF
   have HOK:Hid (T.ok1=vTx T.ac T.sq T.L):=zh rfl
   cases hv:vTx T.ac T.sq T.L with
   | false =>
    have HV1:=zh (HV.out.skip (by rw [HTD.out,HOK.out];exact hv))
    clear hv
    go_wp2_with fail
    go_roundw
    case rel=>exact ⟨i+1,A1,n3,c1,N,A2,n2,c2,M,A3,n3,c3,X,rfl,rfl,rfl,by go_num,hlt,by omega,HF1,HV1⟩
    case measure=>simp [intOf];omega
   | true =>
    have HOK1:=zh (show T.ok1=true from by rw [HOK.out];exact hv)
    clear hv HOK
    go_wp2_with (first | (with_reducible refine aB ttP rfl (.tmp 26) rfl b (o+i * 3) rfl T _ rfl hr1 ?_))
    refine (kJ T.ac T.sq T.A T.n T.c T.L _ (RowT.ext _ _ _ HTK.out HE1.out)).mono ?_
    rintro e w2 ⟨rfl,he2⟩
    obtain ⟨x,hx⟩:∃ x,bQ T.ac T.sq T.L=x:=⟨_,rfl⟩
    have HXN:=zh (show T.nm=x from hx)
    rw [hx]
    obtain ⟨X7,hX7⟩:∃ X7,w2.heap.size=X7:=⟨_,rfl⟩
    have HXS:=zh hX7
    have HF2:=zh (HF1.out.ext he2)
    have HE2:=zh (HE1.out.trans he2)
    clear he2 hx hX7 HF1 HE1 hr1
    go_upto_region 7 with (first | ((with_reducible refine aP nmP rfl (.tmp 7) (.tmp 28) rfl zcs.toArray rfl x _ rfl rfl rfl ?_);intro W7 h7))
    have HE7:=zh (show Ext w W7 from by rw [← h7.out];exact HE2.out.alloc' _)
    have HF7:=zh (show ClF w W7 A1 n3 c1 N A2 n2 c2 M A3 n3 c3 X from by rw [← h7.out];exact HF2.out.ext ((Ext.refl w2).alloc' _))
    have HX7:=zh (show Blk W7 X7 30 (nmc x) from by rw [← h7.out,← HXS.out];exact Blk.new w2 30 (nmc x))
    have HAP:=zh (show some X7 ≠ Value.ownBlock (.slice A1 n3 c1) from by rw [← HXS.out];exact HF2.out.apart (t:=30) (cs:=#[]) (Nat.le_refl _))
    rw [HXS.out]
    clear h7 HF2 HE2
    go_wp2_with fail
    go_loopw [8,9] (fun v8 v9 wr=>∃ (p:Nat) (kn:Bool),v8=.bool kn∧v9=.int .i64 (p:Int)∧p≤n3∧Hid (kn=true→∃ j,j < X.length∧nthG N j=x∧EqT (nthG X j) T)∧Hid (kn=false→∀ j,j < p→nthG N j ≠ x)∧Hid (Ext W7 wr)) (fun _ k _=>n3 - (intOf k).toNat)
    case atStart=>exact ⟨0,false,rfl,rfl,Nat.zero_le _,zh (fun h=>by cases h),zh (fun _ j hj=>absurd hj (Nat.not_lt_zero _)),zh (Ext.refl _)⟩
    case round =>
     obtain ⟨p,kn,rfl,rfl,hp,HKT,HKF,HXW⟩:=hrel
     by_cases hlp:p < n3
     ·have j0 : (0 : Int) ≤ (p : Int) := by omega
      have j1:(p:Int) < (n3:Int):=by omega
      obtain ⟨y,hy⟩:∃ y,nthG N p=y:=⟨_,rfl⟩
      have HYD:=zh hy
      obtain ⟨U,hU⟩:∃ U,nthG X p=U:=⟨_,rfl⟩
      have HUD:=zh hU
      obtain ⟨g1,hag,-,-⟩:=cF HF7.out.o1 (show 0 < n3 by omega)
      subst hag
      have HYR:=zh (fun (V:World) (e:Ext W7 V)=>show V.rangeAt g1 (p * 8) (RowT.enc y) from by
       rw [← hy]
       obtain ⟨b2,e2,-,hr2⟩:=cF (bA HF7.out.o1 e) (show 0 < n3 by omega)
       injection e2 with e3
       injection e3 with e4
       subst e4
       have h1:=cG (k:=p) hr2 (by rw [HNL.out.1];exact hlp)
       rw [Nat.zero_add] at h1
       exact h1)
      obtain ⟨g3,hag3,-,-⟩:=cF HF7.out.o3 (show 0 < n3 by omega)
      subst hag3
      have HUR:=zh (fun (V:World) (e:Ext W7 V)=>show V.rangeAt g3 (p * 3) (RowT.enc U) from by
       rw [← hU]
       obtain ⟨b2,e2,-,hr2⟩:=cF (bA HF7.out.o3 e) (show 0 < n3 by omega)
       injection e2 with e3
       injection e3 with e4
       subst e4
       have h1:=cG (k:=p) hr2 (by rw [HNL.out.2];exact hlp)
       rw [Nat.zero_add] at h1
       exact h1)
      have HUK:=zh (show RowT.ok U w from by rw [← hU];exact HF7.out.ok _ (gE (by rw [HNL.out.2];exact hlp)))
      have HSX:=zh (fun (V:World) (e:Ext W7 V)=>aCW U.ac U.sq U.A U.n U.c U.L T.ac T.sq T.A T.n T.c T.L V (RowT.ext _ _ _ HUK.out (HE7.out.trans e)) (RowT.ext _ _ _ HTK.out (HE7.out.trans e)))
      have HNE:=zh (fun W=>pI y x W)
      obtain ⟨ne,hne⟩:∃ ne,(!decide (y=x))=ne:=⟨_,rfl⟩
      rw [hne] at HNE
      have HNB:=zh hne
      obtain ⟨eq,heq⟩:∃ eq,eqX U.ac U.sq U.L T.ac T.sq T.L=eq:=⟨_,rfl⟩
      rw [heq] at HSX
      have HEQ:=zh heq
      clear hy hU hne heq
      go_upto_region 12 with fail
      refine wp_region_held_drew (S:=fun V=>Blk V X7 30 (nmc x)∧Ext W7 V) (by kernel_rfl) (⟨(HX7.out.ext HXW.out).drew,HXW.out.trans ((Ext.refl _).drew')⟩) (fun aA=>?_)
      refine zzr [0,1,2] ?_
      refine zu 3 (v:=.agg (nmc y)) aA ?_ (hy:=by exact aF nmP (by rfl) (.tmp 37) (by rfl) g1 (p * 8) (by rfl) y _ rfl (fun V h=>HYR.out V h.2))
      refine zu 4 (v:=.agg (nmc x)) aA ?_ (hy:=by exact aF nmP (by rfl) (.tmp 7) (by rfl) X7 0 (by rfl) x _ rfl (fun V h=>bM h.1))
      refine zu 5 (v:=.bool ne) aA ?_ (hy:=by exact cI (by rfl) (.tmp 38) (.tmp 39) (by rfl) (vx:=.agg (nmc y)) (vy:=.agg (nmc x)) (by rfl) (by rfl) (gI _ _ _ _ _) HNE.out)
      refine wpAnyH_done (by kernel_rfl) ?_ _
      have HXN':=zh (HXW.out.trans ((Ext.refl _).drew'))
      clear aA
      cases ne with
      | true =>
       have HKF':=zh (show kn=false→∀ j,j < p+1→nthG N j ≠ x from fun hk j hj=>by
        rcases (by omega:j < p ∨ j=p) with hj | rfl
        ·exact HKF.out hk j hj
        rw [HYD.out];exact of_decide_eq_false (by have:=HNB.out;revert this;cases decide (y=x) <;> simp))
       go_wp2_with fail
       go_roundw
       case rel=>exact ⟨p+1,kn,rfl,by go_num,hlp,HKT,HKF',HXN'⟩
       case measure=>simp [intOf];omega
      | false =>
       have HYX:=zh (show y=x from of_decide_eq_true (by have:=HNB.out;revert this;cases decide (y=x) <;> simp))
       go_upto_region 13 with fail
       refine wp_region_held_drew (S:=fun V=>Ext W7 V) (by kernel_rfl) (HXN'.out.trans ((Ext.refl _).drew')) (fun aA=>?_)
       refine zzr [0,1,2] ?_
       refine zu 3 (v:=.agg (ttA U)) aA ?_ (hy:=by exact aF ttP (by rfl) (.tmp 43) (by rfl) g3 (p * 3) (by rfl) U _ rfl (fun V h=>HUR.out V h))
       refine zzr [4,5,6] ?_
       refine zu 7 (v:=.agg (ttA T)) aA ?_ (hy:=by exact aF ttP (by rfl) (.tmp 47) (by rfl) b (o+i * 3) (by rfl) T _ rfl (fun V h=>HTR.out V (HE7.out.trans h)))
       refine za 8 (fun K hK=>?_)
       (go_simp;go_at_call 77;refine (HSX.out _ aA).mono ?_;rintro e w8 ⟨rfl,he8⟩)
       refine hK.out _ _ (aA.trans he8) (fun aA=>?_)
       clear hK K
       try simp only [aS]
       refine zt 9 aA ?_
       refine wpAnyH_done (by kernel_rfl) ?_ _
       have HX13:=zh aA
       clear aA
       cases eq with
       | true =>
        have HKT':=zh (show true=true→∃ j,j < X.length∧nthG N j=x∧EqT (nthG X j) T from fun _=>⟨p,by rw [HNL.out.2];exact hlp,by rw [HYD.out];exact HYX.out,by rw [HUD.out];exact aIy.1 HEQ.out⟩)
        go_wp2_with fail
        go_roundw
        case rel=>exact ⟨p+1,true,rfl,by go_num,hlp,HKT',zh (fun h=>by cases h),HX13⟩
        case measure=>simp [intOf];omega
       | false =>
        go_wp2_with fail
        go_ret
        exact ⟨.inr rfl,HE7.out.trans HX13.out⟩
     have j1:¬ (p:Int) < (n3:Int):=by omega
     have HF8:=zh (HF7.out.ext HXW.out)
     have HX8:=zh (HX7.out.ext HXW.out)
     have HKF8:=zh (show kn=false→∀ j,j < n3→nthG N j ≠ x from fun hk j hj=>HKF.out hk j (by omega))
     clear HF7 HX7 HE7 HXW HKF
     cases kn with
     | true =>
      have HV1:=zh (HV.out.known (by rw [HTD.out,HXN.out];exact HKT.out rfl))
      go_wp2_with fail
      go_roundw
      case rel=>exact ⟨i+1,A1,n3,c1,N,A2,n2,c2,M,A3,n3,c3,X,rfl,rfl,rfl,by go_num,hlt,by omega,HF8,HV1⟩
      case measure=>simp [intOf];omega
     | false =>
      have HV1:=zh (show ColV L (i+1) (N ++ [x]) (X ++ [T]) from by
       have h1:=HV.out.push (by rw [HTD.out,HXN.out,HNL.out.1];exact HKF8.out rfl)
       rw [HTD.out,HXN.out] at h1
       exact h1)
      clear HKT HKF8
      go_upto_region 17 with fail
      go_cut [3,5] from 12 to 95 (fun t3 t5 wx=>∃ (A4:Option Addr) (c4:Nat) (A5:Option Addr) (c5:Nat),t3=.slice A4 (n3+1) c4∧t5=.slice A5 (n3+1) c5∧Hid (ClF w wx A4 (n3+1) c4 (N ++ [x]) A2 n2 c2 M A5 (n3+1) c5 (X ++ [T])))
      case first =>
       have HF:=zh (HF8.out.ext ((Ext.refl _).drew'))
       clear HF8
       refine wp_region_held_drew (S:=fun V=>Blk V X7 30 (nmc x)∧Ext w V) (by kernel_rfl) (⟨HX8.out.drew,HF.out.low⟩) (fun aA=>?_)
       refine zt 0 aA ?_
       refine zu 1 (v:=.agg (nmc x)) aA ?_ (hy:=by exact aF nmP (by rfl) (.tmp 7) (by rfl) X7 0 (by rfl) x _ rfl (fun V h=>bM h.1))
       refine zzr [4,5,6,7] ?_
       refine zu 8 (v:=.agg (ttA T)) aA ?_ (hy:=by exact aF ttP (by rfl) (.tmp 59) (by rfl) b (o+i * 3) (by rfl) T _ rfl (fun V h=>HTR.out V h.2))
       refine wpAnyH_ready (rs:=[2,9]) (by kernel_rfl) (by simp) ?_
       refine (AllReadyH.cons (o:=⟨some 54,.buildSlice 37 1 #[(0,.tmp 53)],37,"make.go:368",#[⟨1,.data⟩],none⟩) rfl (fun K hK=>?ka3_17_7_2_n1) (AllReadyH.cons (o:=⟨some 61,.buildSlice 67 1 #[(0,.tmp 60)],67,"make.go:368",#[⟨8,.data⟩],none⟩) rfl (fun K hK=>?ka3_17_7_9_n1) AllReadyH.nil))
       case' ka3_17_7_2_n1 =>
        (refine cY rfl (tB (.tmp 53) (by rfl) (by rfl) (jY x _) ?_);intro g4 W4 h4;have HXX:=zh (h4.out.2.1);have HF:=zh (HF.out.ext HXX.out);(try (have HN:=zh (HN.out.ext HXX.out)));(try (have HT:=zh (HT.out.ext HXX.out)));have HN:=zh h4.out.1;clear h4)
        refine hK.out _ _ (⟨aA.1.ext HXX.out,aA.2.trans HXX.out⟩) (fun aA=>?_)
        clear hK K
        try simp only [aS]
        refine wpAnyH_ready (rs:=[3,9]) (by kernel_rfl) (by simp) ?_
        refine (AllReadyH.cons (o:=⟨some 55,.call { callee:=.builtin .append,args:=#[.tmp 52,.tmp 54],argTypes:=#[37,37] },37,"make.go:368",#[⟨0,.data⟩,⟨2,.data⟩],none⟩) rfl (fun K hK=>?ka3_17_8_3_n2) (AllReadyH.cons (o:=⟨some 61,.buildSlice 67 1 #[(0,.tmp 60)],67,"make.go:368",#[⟨8,.data⟩],none⟩) rfl (fun K hK=>?ka3_17_8_9_n2) AllReadyH.nil))
        case' ka3_17_8_3_n2 =>
         (refine cY rfl (jH dC (.tmp 52) (.tmp 54) (by rfl) w.heap.size A1 n3 c1 (gcs N) (by rfl) HF.out.o1 _ 1 1 (RowT.enc x) (by rfl) (Rd.of_blk HN.out) rfl (by decide) (RowT.one x) (by omega) (by omega) HF.out.low.size ?_);intro A4 c4 W4 ho4 hg4 ha4;have HK:=zh (show _∧_ from ⟨aA.1.grown hg4 HAP.out,Below.grown aA.2 hg4 aA.2.size (fun q hq=>(World.ownsRow.lt HF.out.o1 q hq).1)⟩);(try (have HT:=zh (HT.out.grown hg4 (aI HF.out.o1 HT.out (by decide)))));have HF:=zh (HF.out.pushN ho4 hg4 ha4);clear ho4 hg4 ha4)
         refine hK.out _ _ (HK.out) (fun aA=>?_)
         clear hK K
         try simp only [aS]
         refine za 9 (fun K hK=>?_)
         (refine cY rfl (tB (.tmp 60) (by rfl) (by rfl) (mJ T _) ?_);intro g5 W5 h5;have HXX:=zh (h5.out.2.1);have HF:=zh (HF.out.ext HXX.out);(try (have HN:=zh (HN.out.ext HXX.out)));(try (have HT:=zh (HT.out.ext HXX.out)));have HT:=zh h5.out.1;clear h5)
         refine hK.out _ _ (⟨aA.1.ext HXX.out,aA.2.trans HXX.out⟩) (fun aA=>?_)
         clear hK K
         try simp only [aS]
         refine za 10 (fun K hK=>?_)
         (refine cY rfl (jH ttE (.tmp 56) (.tmp 61) (by rfl) w.heap.size A3 n3 c3 (gcs X) (by rfl) HF.out.o3 _ 1 1 (RowT.enc T) (by rfl) (Rd.of_blk HT.out) rfl (by decide) (RowT.one T) (by omega) (by omega) HF.out.low.size ?_);intro A5 c5 W5 ho5 hg5 ha5;have HK:=zh (show _∧_ from ⟨aA.1.grown hg5 (aI HF.out.o3 aA.1 (by decide)),Below.grown aA.2 hg5 aA.2.size (fun q hq=>(World.ownsRow.lt HF.out.o3 q hq).1)⟩);(try (have HN:=zh (HN.out.grown hg5 (aI HF.out.o3 HN.out (by decide)))));have HF:=zh (HF.out.pushX HTK.out ho5 hg5);clear ho5 hg5 ha5)
         refine hK.out _ _ (HK.out) (fun aA=>?_)
         clear hK K
         try simp only [aS]
         refine zzr [11,12] ?_
         refine wpAnyH_done (by kernel_rfl) ?_ _
        case' ka3_17_8_9_n2 =>
         (refine cY rfl (tB (.tmp 60) (by rfl) (by rfl) (mJ T _) ?_);intro g5 W5 h5;have HXX:=zh (h5.out.2.1);have HF:=zh (HF.out.ext HXX.out);(try (have HN:=zh (HN.out.ext HXX.out)));(try (have HT:=zh (HT.out.ext HXX.out)));have HT:=zh h5.out.1;clear h5)
         refine hK.out _ _ (⟨aA.1.ext HXX.out,aA.2.trans HXX.out⟩) (fun aA=>?_)
         clear hK K
         try simp only [aS]
         refine za 3 (fun K hK=>?_)
         (refine cY rfl (jH dC (.tmp 52) (.tmp 54) (by rfl) w.heap.size A1 n3 c1 (gcs N) (by rfl) HF.out.o1 _ 1 1 (RowT.enc x) (by rfl) (Rd.of_blk HN.out) rfl (by decide) (RowT.one x) (by omega) (by omega) HF.out.low.size ?_);intro A4 c4 W4 ho4 hg4 ha4;have HK:=zh (show _∧_ from ⟨aA.1.grown hg4 HAP.out,Below.grown aA.2 hg4 aA.2.size (fun q hq=>(World.ownsRow.lt HF.out.o1 q hq).1)⟩);(try (have HT:=zh (HT.out.grown hg4 (aI HF.out.o1 HT.out (by decide)))));have HF:=zh (HF.out.pushN ho4 hg4 ha4);clear ho4 hg4 ha4)
         refine hK.out _ _ (HK.out) (fun aA=>?_)
         clear hK K
         try simp only [aS]
         refine za 10 (fun K hK=>?_)
         (refine cY rfl (jH ttE (.tmp 56) (.tmp 61) (by rfl) w.heap.size A3 n3 c3 (gcs X) (by rfl) HF.out.o3 _ 1 1 (RowT.enc T) (by rfl) (Rd.of_blk HT.out) rfl (by decide) (RowT.one T) (by omega) (by omega) HF.out.low.size ?_);intro A5 c5 W5 ho5 hg5 ha5;have HK:=zh (show _∧_ from ⟨aA.1.grown hg5 (aI HF.out.o3 aA.1 (by decide)),Below.grown aA.2 hg5 aA.2.size (fun q hq=>(World.ownsRow.lt HF.out.o3 q hq).1)⟩);(try (have HN:=zh (HN.out.grown hg5 (aI HF.out.o3 HN.out (by decide)))));have HF:=zh (HF.out.pushX HTK.out ho5 hg5);clear ho5 hg5 ha5)
         refine hK.out _ _ (HK.out) (fun aA=>?_)
         clear hK K
         try simp only [aS]
         refine zzr [11,12] ?_
         refine wpAnyH_done (by kernel_rfl) ?_ _
       case' ka3_17_7_9_n1 =>
        (refine cY rfl (tB (.tmp 60) (by rfl) (by rfl) (mJ T _) ?_);intro g5 W5 h5;have HXX:=zh (h5.out.2.1);have HF:=zh (HF.out.ext HXX.out);(try (have HN:=zh (HN.out.ext HXX.out)));(try (have HT:=zh (HT.out.ext HXX.out)));have HT:=zh h5.out.1;clear h5)
        refine hK.out _ _ (⟨aA.1.ext HXX.out,aA.2.trans HXX.out⟩) (fun aA=>?_)
        clear hK K
        try simp only [aS]
        refine za 2 (fun K hK=>?_)
        (refine cY rfl (tB (.tmp 53) (by rfl) (by rfl) (jY x _) ?_);intro g4 W4 h4;have HXX:=zh (h4.out.2.1);have HF:=zh (HF.out.ext HXX.out);(try (have HN:=zh (HN.out.ext HXX.out)));(try (have HT:=zh (HT.out.ext HXX.out)));have HN:=zh h4.out.1;clear h4)
        refine hK.out _ _ (⟨aA.1.ext HXX.out,aA.2.trans HXX.out⟩) (fun aA=>?_)
        clear hK K
        try simp only [aS]
        refine za 3 (fun K hK=>?_)
        (refine cY rfl (jH dC (.tmp 52) (.tmp 54) (by rfl) w.heap.size A1 n3 c1 (gcs N) (by rfl) HF.out.o1 _ 1 1 (RowT.enc x) (by rfl) (Rd.of_blk HN.out) rfl (by decide) (RowT.one x) (by omega) (by omega) HF.out.low.size ?_);intro A4 c4 W4 ho4 hg4 ha4;have HK:=zh (show _∧_ from ⟨aA.1.grown hg4 HAP.out,Below.grown aA.2 hg4 aA.2.size (fun q hq=>(World.ownsRow.lt HF.out.o1 q hq).1)⟩);(try (have HT:=zh (HT.out.grown hg4 (aI HF.out.o1 HT.out (by decide)))));have HF:=zh (HF.out.pushN ho4 hg4 ha4);clear ho4 hg4 ha4)
        refine hK.out _ _ (HK.out) (fun aA=>?_)
        clear hK K
        try simp only [aS]
        refine za 10 (fun K hK=>?_)
        (refine cY rfl (jH ttE (.tmp 56) (.tmp 61) (by rfl) w.heap.size A3 n3 c3 (gcs X) (by rfl) HF.out.o3 _ 1 1 (RowT.enc T) (by rfl) (Rd.of_blk HT.out) rfl (by decide) (RowT.one T) (by omega) (by omega) HF.out.low.size ?_);intro A5 c5 W5 ho5 hg5 ha5;have HK:=zh (show _∧_ from ⟨aA.1.grown hg5 (aI HF.out.o3 aA.1 (by decide)),Below.grown aA.2 hg5 aA.2.size (fun q hq=>(World.ownsRow.lt HF.out.o3 q hq).1)⟩);(try (have HN:=zh (HN.out.grown hg5 (aI HF.out.o3 HN.out (by decide)))));have HF:=zh (HF.out.pushX HTK.out ho5 hg5);clear ho5 hg5 ha5)
        refine hK.out _ _ (HK.out) (fun aA=>?_)
        clear hK K
        try simp only [aS]
        refine zzr [11,12] ?_
        refine wpAnyH_done (by kernel_rfl) ?_ _
       all_goals (
        go_wp2_with fail
        go_meet
        exact ⟨A4,c4,A5,c5,rfl,rfl,HF⟩)
      case rest =>
       obtain ⟨A4,c4,A5,c5,rfl,rfl,HFC⟩:=hcut
       obtain ⟨W9,hW9⟩:∃ W9,wc=W9:=⟨_,rfl⟩
       rw [hW9] at HFC ⊢
       clear hW9 HF8 HX8 HAP HV
       go_wp2_with fail
       go_loopw [4,10] (fun v4 v10 wr=>∃ (k:Nat) (B:Option Addr) (m d:Nat) (M:List UInt64),v4=.slice B m d∧v10=.int .i64 (k:Int)∧k≤T.n∧m≤n2+k∧Hid (ClF w wr A4 (n3+1) c4 (N ++ [x]) B m d M A5 (n3+1) c5 (X ++ [T]))) (fun _ k _=>T.n - (intOf k).toNat)
       case atStart=>exact ⟨0,A2,n2,c2,M,rfl,rfl,Nat.zero_le _,Nat.le_refl _,HFC⟩
       case round =>
        clear HFC M
        obtain ⟨k,B,m,d,M,rfl,rfl,hk,hm,HF⟩:=hrel
        have HT4:=zh (show T.n≤4 from by have h1:=aIe HOK1.out;have h2:=SlO.len HTK.out;omega)
        have q2:=HTR.out wr HF.out.low 2 _ rfl
        by_cases hlk:k < T.n
        ·have k0 : (0 : Int) ≤ (k : Int) := by omega
         have k1:(k:Int) < (T.n:Int):=by omega
         have ht1:=SlO.le HTK.out
         have ht2:=SlO.cap HTK.out
         have hm60:m≤60:=by have:=HT4.out;omega
         obtain ⟨b2,o2,hab2,-,-⟩:=SlO.at (SlO.ext HTK.out HF.out.low) (show 0 < T.n by omega)
         obtain ⟨R,hR⟩:∃ R,aY T.L k=R:=⟨_,rfl⟩
         have q3:wr.cell? ⟨b2,o2+k * 23,none⟩=some (.int .i64 R.k):=by
          obtain ⟨b3,o3,e3,hr3,-⟩:=SlO.at (SlO.ext HTK.out HF.out.low) (show 0 < T.n by omega)
          rw [hab2] at e3
          injection e3 with e3
          injection e3 with e4 e5
          subst e4
          subst e5
          have h1:=kW (k:=k) hr3 (by rw [SlO.len HTK.out];exact hlk)
          rw [hR] at h1
          exact h1 0 _ rfl
         rw [hab2] at q2
         have hr:=HTR.out wr HF.out.low
         by_cases hk2:R.k=2
         ·have k2 : (R.k != 2) = false := by rw [hk2]; rfl
          clear hR hab2
          go_wp2_with (first | (with_reducible refine aB ttP rfl (.tmp 85) rfl b (o+i * 3) rfl T _ rfl hr ?_))
          refine (sK T.ac T.sq T.A T.n T.c T.L (k:Int) _ (RowT.ext _ _ _ HTK.out HF.out.low)).mono ?_
          rintro e w2 ⟨rfl,he2⟩
          obtain ⟨z,hz⟩:∃ z,cB T.ac T.sq T.L (k:Int)=z:=⟨_,rfl⟩
          rw [hz]
          obtain ⟨vz,hvz⟩:∃ v,Value.agg (nmc z)=v:=⟨_,rfl⟩
          have HVZ:=zh hvz
          have HHN:=zh (fun (V:World) (h:SlG V B m d M)=>zW B m d M z V h)
          have HBC:=zh (fun W=>jY z W)
          rw [hvz] at HHN HBC ⊢
          clear hz hvz q2 q3 hr
          obtain ⟨X7,hX7⟩:∃ X7,w2.heap.size=X7:=⟨_,rfl⟩
          have HXS:=zh hX7
          have HF2:=zh (HF.out.ext he2)
          clear he2 hX7
          go_upto_region 23 with (first | ((with_reducible refine aP nmP rfl (.tmp 11) (.tmp 88) rfl zcs.toArray rfl z vz HVZ.out rfl rfl ?_);intro W7 h7))
          have HF7:=zh (show ClF w W7 A4 (n3+1) c4 (N ++ [x]) B m d M A5 (n3+1) c5 (X ++ [T]) from by rw [← h7.out];exact HF2.out.ext ((Ext.refl w2).alloc' _))
          have HX7:=zh (show Blk W7 X7 30 (nmc z) from by rw [← h7.out,← HXS.out];exact Blk.new w2 30 (nmc z))
          rw [HXS.out]
          clear h7 HF2
          have rc:W7.rangeAt X7 0 (RowT.enc z):=bM HX7.out
          go_wp2_with (first | (with_reducible refine aB nmP rfl (.tmp 11) rfl X7 0 rfl z vz HVZ.out rc ?_))
          refine (HHN.out _ HF7.out.sl2).mono ?_
          rintro e w8 ⟨rfl,he8⟩
          obtain ⟨hb,hhb⟩:∃ hb,decide (z ∈ M)=hb:=⟨_,rfl⟩
          rw [hhb]
          have HF8:=zh (HF7.out.ext he8)
          have rc8:w8.rangeAt X7 0 (RowT.enc z):=bM (HX7.out.ext he8)
          clear hhb he8 rc HF7 HX7
          cases hb with
          | true =>
           go_wp2_with fail
           go_ret
           exact ⟨.inr rfl,HF8.out.low⟩
          | false =>
           go_wp2_with (first | (with_reducible refine aB nmP rfl (.tmp 11) rfl X7 0 rfl z vz HVZ.out rc8 ?_) | ((with_reducible refine gW (vx:=vz) rfl (.tmp 93) rfl rfl (HBC.out _) ?_);intro g4 W4 h4;have HF4:=zh (HF8.out.ext h4.out.2.1);have HN4:=zh (show Rd W4 (some ⟨g4,0,none⟩) (RowT.enc z) from Rd.of_blk h4.out.1);have HL4:=zh (show (RowT.enc z).length=1 * 8 from by rw [RowT.len];rfl)) | (at_builtin;go_must (refine yT dC rfl (.tmp 92) (.tmp 94) rfl w.heap.size B m d (gcs M) rfl HF4.out.o2 (some ⟨g4,0,none⟩) 1 1 (RowT.enc z) rfl HN4.out HL4.out (by decide) (RowT.one z) (by omega) (by omega) HF4.out.low.size ?_;intro A6 c6 W6 ho6 hg6 ha6)))
           have HF6:=zh (HF4.out.pushM ho6 hg6 ha6)
           clear ho6 hg6 ha6 h4
           go_wp2_with fail
           go_roundw
           case rel=>exact ⟨k+1,A6,m+1,c6,M ++ [z],by first | rfl | go_num,by go_num,hlk,by omega,HF6⟩
           case measure=>simp [intOf];omega
         have k2:(R.k != 2)=true:=by simp [bne,hk2]
         clear hR hab2 hr
         go_wp2_with fail
         go_roundw
         case rel=>exact ⟨k+1,B,m,d,M,rfl,by go_num,hlk,by omega,HF⟩
         case measure=>simp [intOf];omega
        have k1:¬ (k:Int) < (T.n:Int):=by omega
        have hkn:k=T.n:=by omega
        have hm4:m≤4 * (i+1):=by have:=HT4.out;omega
        go_wp2_with fail
        go_roundw
        case rel=>exact ⟨i+1,A4,n3+1,c4,N ++ [x],B,m,d,M,A5,n3+1,c5,X ++ [T],by first | rfl | go_num,rfl,by first | rfl | go_num,by go_num,hlt,hm4,HF,HV1⟩
        case measure=>simp [intOf];omega
  obtain rfl:i=n:=by omega
  have i1:¬ (i:Int) < (i:Int):=by omega
  have HNO:=zh (show aJh L from ColV.fin (by rw [HLEN.out];exact HV.out))
  go_wp2_with fail
  go_ret
  exact ⟨.inl ⟨rfl,HNO.out⟩,HF.out.low⟩
end
end Go.Proofs.YtohmmcahpakokaaGreat
