/- Repetitions of cells struck (slices.Compact). -/
import Derived.Test.YtohmmcahpakokaaGreatC28
import Derived.Test.YtohmmcahpakokaaGreatC30
set_option maxRecDepth 100000
set_option maxHeartbeats 8000000
set_option linter.unusedSectionVars false
set_option linter.unusedVariables false
set_option linter.unusedSimpArgs false
namespace Go.Proofs.YtohmmcahpakokaaGreat
open Go.RowKit
attribute [local go_sem ↓] Go.wp_at_zero Go.wp_at_succ
def ceV (x:CeR):CeR:=x
theorem ce0_one:∀ v ∈ (Value.agg ce0).cells,v.oneCell'=true:=fun v hv=>Array.all_eq_true_iff_forall_mem.1 (show ce0.all (·.oneCell')=true from by kernel_rfl) v hv
theorem RowCe.load {w0 w w':World} {base n c:Nat} {A:Option Addr} {d:Array CeR} (h:RowS w0 w base 32 A n c d) {g:Nat} (hA:A=some ⟨g,0,none⟩) {i:Nat} (hi:i < n) {R:CeR} (hR:d[i]! = R) (he:Ext w w'):w'.rangeAt g (i * 10) (RowT.enc R):=by
 have:=(RowS.ext h he).cell hA hi
 rw [hR] at this
 exact this
theorem RowCe.eqv {w0 w:World} {base n c:Nat} {A:Option Addr} {d:Array CeR} (h:RowS w0 w base 32 A n c d) {i j:Nat} (hi:i < n) (hj:j < n) {R T:CeR} (hR:d[i]! = R) (hT:d[j]! = T) (vx vy:Value) (hx:Value.agg (ceA R)=vx) (hy:Value.agg (ceA T)=vy) (b:Bool) (hb:decide (ceV d[i]! = ceV d[j]!)=b) :
  Hid (∀ W,(binOp .eql 32 vx vy).run Tryz.prog W=.ok (.bool b) W):=by
 subst hR;subst hT;rw [← hx,← hy,← hb]
 exact zh (fun W=>run_eqCe _ _ (h.ok hi) (h.ok hj) W)
theorem RowCe.neqv {w0 w:World} {base n c:Nat} {A:Option Addr} {d:Array CeR} (h:RowS w0 w base 32 A n c d) {i j:Nat} (hi:i < n) (hj:j < n) {R T:CeR} (hR:d[i]! = R) (hT:d[j]! = T) (vx vy:Value) (hx:Value.agg (ceA R)=vx) (hy:Value.agg (ceA T)=vy) (b:Bool) (hb:decide (ceV d[i]! = ceV d[j]!)=b) :
  Hid (∀ W,(binOp .neq 32 vx vy).run Tryz.prog W=.ok (.bool (!b)) W):=by
 subst hR;subst hT;rw [← hx,← hy,← hb]
 exact zh (fun W=>run_neqCe _ _ (h.ok hi) (h.ok hj) W)
def CpOutCe (w0:World) (base:Nat) (A:Option Addr) (n c:Nat) (d:Array CeR) (e:Ending) (w':World):Prop:=∃ (m:Nat) (d':Array CeR),e=.returned (.slice A m c)∧m≤n∧RowS w0 w' base 32 A m c d'∧d'.toList.map ceV=compO (d.toList.map ceV)
theorem compactCe_any (w0 w:World) (base:Nat) (A:Option Addr) (n c:Nat) (d:Array CeR) (h:RowS w0 w base 32 A n c d) (hn:n≤1000000000) (hnc:n≤c) (hc:c≤9223372036854775807) :
  Calls Tryz.prog 66 #[.slice A n c] w (CpOutCe w0 base A n c d):=by
 have HD:=zh h
 have HSZ:=zh (RowS.size h)
 rcases (by omega:n=0 ∨ 1≤n) with rfl | hpos
 ·have HC:=zh (show d.toList.map ceV=compO (d.toList.map ceV) from by
   have:d.toList=[]:=List.eq_nil_of_length_eq_zero (by simpa using HSZ.out)
   rw [this];rfl)
  go_enter Tryz.func66,Tryz.ntmps66
  go_wp2_with fail
  go_ret
  exact ⟨0,d,rfl,Nat.le_refl _,HD.out,HC.out⟩
 have HC1:=zh (Cm1.start (V:=ceV) (d:=d) (by rw [HSZ.out];exact hpos))
 obtain ⟨g,hA,-,-⟩:=RowS.at h (by omega)
 subst hA
 clear h
 by_cases h2:n < 2
 ·have i1 : (n : Int) < 2 := by omega
  go_enter Tryz.func66,Tryz.ntmps66
  go_wp2_with fail
  go_ret
  exact ⟨n,d,rfl,Nat.le_refl _,HD.out,HC1.out.all (by rw [HSZ.out];omega)⟩
 have i1:¬ (n:Int) < 2:=by omega
 go_enter Tryz.func66,Tryz.ntmps66
 go_wp2_with fail
 go_loopw [3] (fun vk wr=>∃ (k:Nat),vk=.int .i64 (k:Int)∧1≤k∧k≤n∧Hid (Cm1 ceV d k)∧Hid (RowS w0 wr base 32 (some ⟨g,0,none⟩) n c d)) (fun k _=>n - (intOf k).toNat)
 case atStart=>exact ⟨1,rfl,Nat.le_refl _,hpos,HC1,HD⟩
 case round =>
  clear HD HC1
  obtain ⟨k,rfl,hk1,hkn,HC,HD⟩:=hrel
  by_cases hlt:k < n
  ·have i2 : (k : Int) < (n : Int) := by omega
   obtain ⟨p,hp⟩:∃ p,p=k - 1:=⟨_,rfl⟩
   have HP:=zh hp
   have p0:(k:Int) - 1=(p:Int):=by omega
   have hpn:p < n:=by omega
   have p1:(p:Int) < (n:Int):=by omega
   have pw:IntKind.i64.wrap (p:Int)=(p:Int):=by rw [IntKind.wrap_i64];omega
   have kw:IntKind.i64.wrap (k:Int)=(k:Int):=by rw [IntKind.wrap_i64];omega
   clear hp
   cases hb:decide (ceV d[k]! = ceV d[p]!) with
   | false =>
    have HB:=zh (of_decide_eq_false hb)
    obtain ⟨R,hR⟩:∃ R,d[k]! = R:=⟨_,rfl⟩
    obtain ⟨T,hT⟩:∃ R,d[p]! = R:=⟨_,rfl⟩
    obtain ⟨vx,hvx⟩:∃ v,Value.agg (ceA R)=v:=⟨_,rfl⟩
    obtain ⟨vy,hvy⟩:∃ v,Value.agg (ceA T)=v:=⟨_,rfl⟩
    have HVX:=zh hvx
    have HVY:=zh hvy
    have L1:=zh (fun (W:World) (he:Ext wr W)=>show W.rangeAt g (k * 10) (RowT.enc R) from by rw [show k * 10=k * 10 from rfl];exact RowCe.load HD.out rfl hlt hR he)
    have L2:=zh (fun (W:World) (he:Ext wr W)=>show W.rangeAt g (p * 10) (RowT.enc T) from by rw [show p * 10=p * 10 from rfl];exact RowCe.load HD.out rfl hpn hT he)
    have HCM:=RowCe.eqv HD.out hlt hpn hR hT vx vy hvx hvy false hb
    have HGD:=zh (fun op x y (W:World)=>show (eqGuard op 32 x y vx vy).run Tryz.prog W=.ok () W from by rw [← HVX.out,← HVY.out];exact guard_Ce op x y R T W)
    have HKR:=zh hR
    clear hvx hvy hR hT
    clear hb
    go_wp2_with fail
    refine wp_region_plan (S:=fun W=>Ext wr W) (by kernel_rfl) (by kernel_rfl) ((Ext.refl wr).drew') ?_
    (refine zzx 0 ?_)
    (refine zzx 1 ?_)
    (refine zzx 2 ?_)
    (refine plan_take (i:=3) (oi:=⟨some 19,.load 32 (.tmp 18),32,"slices.go:376",#[⟨2,.data⟩],none⟩) (v:=vx) rfl (by kernel_rfl) (by kernel_rfl) (fx_read ?hy1_3) ?_;case hy1_3=>(exact yields_loadG ceP (by rfl) (.tmp 18) (by rfl) g (k * 10) (by rfl) R vx HVX.out (fun W hS=>L1.out W hS)))
    try simp only [lays]
    (refine zzx 4 ?_)
    (refine zzx 5 ?_)
    (refine zzx 6 ?_)
    (refine zzx 7 ?_)
    (refine plan_take (i:=8) (oi:=⟨some 24,.load 32 (.tmp 23),32,"slices.go:376",#[⟨7,.data⟩],none⟩) (v:=vy) rfl (by kernel_rfl) (by kernel_rfl) (fx_read ?hy1_8) ?_;case hy1_8=>(exact yields_loadG ceP (by rfl) (.tmp 23) (by rfl) g (p * 10) (by rfl) T vy HVY.out (fun W hS=>L2.out W hS)))
    try simp only [lays]
    (refine plan_take (i:=9) (oi:=⟨some 25,.binOp .eql 32 (.tmp 19) (.tmp 24) 32,4,"slices.go:376",#[⟨3,.data⟩,⟨8,.data⟩],none⟩) (v:=.bool false) rfl (by kernel_rfl) (by kernel_rfl) (fx_read ?hy1_9) ?_;case hy1_9=>(exact yields_cmp (by rfl) (.tmp 19) (.tmp 24) (by rfl) (vx:=vx) (vy:=vy) (by rfl) (by rfl) (HGD.out _ _ _) HCM.out))
    try simp only [lays]
    refine Plan.done (by kernel_rfl) (fun W hSW=>?_)
    have HD2:=zh (RowS.ext HD.out hSW)
    have HC2:=zh (HC.out.next (by rw [HSZ.out];exact hlt) (by rw [← HP.out];exact HB.out))
    clear HD HCM HGD L1 L2 hSW HVX HVY pw kw
    go_wp2_with fail
    go_roundw
    case rel=>exact ⟨k+1,by go_num,by omega,by omega,HC2,HD2⟩
    case measure=>simp [intOf];omega
   | true =>
    have HB:=zh (of_decide_eq_true hb)
    obtain ⟨R,hR⟩:∃ R,d[k]! = R:=⟨_,rfl⟩
    obtain ⟨T,hT⟩:∃ R,d[p]! = R:=⟨_,rfl⟩
    obtain ⟨vx,hvx⟩:∃ v,Value.agg (ceA R)=v:=⟨_,rfl⟩
    obtain ⟨vy,hvy⟩:∃ v,Value.agg (ceA T)=v:=⟨_,rfl⟩
    have HVX:=zh hvx
    have HVY:=zh hvy
    have L1:=zh (fun (W:World) (he:Ext wr W)=>show W.rangeAt g (k * 10) (RowT.enc R) from by rw [show k * 10=k * 10 from rfl];exact RowCe.load HD.out rfl hlt hR he)
    have L2:=zh (fun (W:World) (he:Ext wr W)=>show W.rangeAt g (p * 10) (RowT.enc T) from by rw [show p * 10=p * 10 from rfl];exact RowCe.load HD.out rfl hpn hT he)
    have HCM:=RowCe.eqv HD.out hlt hpn hR hT vx vy hvx hvy true hb
    have HGD:=zh (fun op x y (W:World)=>show (eqGuard op 32 x y vx vy).run Tryz.prog W=.ok () W from by rw [← HVX.out,← HVY.out];exact guard_Ce op x y R T W)
    have HKR:=zh hR
    clear hvx hvy hR hT
    clear hb
    go_wp2_with fail
    refine wp_region_plan (S:=fun W=>Ext wr W) (by kernel_rfl) (by kernel_rfl) ((Ext.refl wr).drew') ?_
    (refine zzx 0 ?_)
    (refine zzx 1 ?_)
    (refine zzx 2 ?_)
    (refine plan_take (i:=3) (oi:=⟨some 19,.load 32 (.tmp 18),32,"slices.go:376",#[⟨2,.data⟩],none⟩) (v:=vx) rfl (by kernel_rfl) (by kernel_rfl) (fx_read ?hy2_3) ?_;case hy2_3=>(exact yields_loadG ceP (by rfl) (.tmp 18) (by rfl) g (k * 10) (by rfl) R vx HVX.out (fun W hS=>L1.out W hS)))
    try simp only [lays]
    (refine zzx 4 ?_)
    (refine zzx 5 ?_)
    (refine zzx 6 ?_)
    (refine zzx 7 ?_)
    (refine plan_take (i:=8) (oi:=⟨some 24,.load 32 (.tmp 23),32,"slices.go:376",#[⟨7,.data⟩],none⟩) (v:=vy) rfl (by kernel_rfl) (by kernel_rfl) (fx_read ?hy2_8) ?_;case hy2_8=>(exact yields_loadG ceP (by rfl) (.tmp 23) (by rfl) g (p * 10) (by rfl) T vy HVY.out (fun W hS=>L2.out W hS)))
    try simp only [lays]
    (refine plan_take (i:=9) (oi:=⟨some 25,.binOp .eql 32 (.tmp 19) (.tmp 24) 32,4,"slices.go:376",#[⟨3,.data⟩,⟨8,.data⟩],none⟩) (v:=.bool true) rfl (by kernel_rfl) (by kernel_rfl) (fx_read ?hy2_9) ?_;case hy2_9=>(exact yields_cmp (by rfl) (.tmp 19) (.tmp 24) (by rfl) (vx:=vx) (vy:=vy) (by rfl) (by rfl) (HGD.out _ _ _) HCM.out))
    try simp only [lays]
    refine Plan.done (by kernel_rfl) (fun W hSW=>?_)
    have HD2:=zh (RowS.ext HD.out hSW)
    have HC2:=zh (HC.out.dup (by rw [HSZ.out];exact hlt) (by rw [← HP.out];exact HB.out))
    clear HD HCM HGD L1 L2 hSW HVX HVY pw kw p0 p1
    have k1:k≤n:=by omega
    have k2:k≤c:=by omega
    have k3:¬ c=k:=by omega
    go_wp2_with fail
    go_loopw [3,5] (fun vk vj wr=>∃ (kk k2:Nat) (dk:Array CeR),vk=.int .i64 (kk:Int)∧vj=.int .i64 (k2:Int)∧1≤k2∧k2≤n - k∧kk < k+k2∧1≤kk∧Hid (Cmp ceV d dk kk (k+k2))∧Hid (RowS w0 wr base 32 (some ⟨g,0,none⟩) n c dk)) (fun _ j _=>n - k - (intOf j).toNat)
    case atStart=>exact ⟨k,1,d,rfl,rfl,Nat.le_refl _,by omega,by omega,hk1,HC2,HD2⟩
    case round =>
     clear HD2 HC2
     obtain ⟨kk,k2,dk,rfl,rfl,h21,h2n,hkk,hkp,HC,HD⟩:=hrel
     by_cases hlt2:k2 < n - k
     ·have i3 : (k2 : Int) < ((n - k : Nat) : Int) := by omega
      obtain ⟨m,hm⟩:∃ m,n - k=m:=⟨_,rfl⟩
      have i4:(k2:Int) < (m:Int):=by omega
      obtain ⟨k3',hk3⟩:∃ q,q=k2 - 1:=⟨_,rfl⟩
      have q0:(k2:Int) - 1=(k3':Int):=by omega
      have q1:(k3':Int) < ((n - k:Nat):Int):=by omega
      have q2:(k3':Int) < (m:Int):=by omega
      have qw:IntKind.i64.wrap (k3':Int)=(k3':Int):=by rw [IntKind.wrap_i64];omega
      have kw:IntKind.i64.wrap (k2:Int)=(k2:Int):=by rw [IntKind.wrap_i64];omega
      obtain ⟨j,hj⟩:∃ j,j=k+k2:=⟨_,rfl⟩
      obtain ⟨jp,hjp⟩:∃ j,j=k+k3':=⟨_,rfl⟩
      have e1:k * 10+k2 * 10=j * 10:=by rw [hj,Nat.add_mul]
      have e2:k * 10+k3' * 10=jp * 10:=by rw [hjp,Nat.add_mul]
      have E1:=zh e1
      have E2:=zh e2
      have HJ:=zh (show j=k+k2∧jp=k+k2 - 1∧j < d.size∧kk < j by rw [HSZ.out];omega)
      have hjn:j < n:=by omega
      have hjpn:jp < n:=by omega
      have hkn2:kk < n:=by omega
      have kkn:(kk:Int) < (n:Int):=by omega
      have kkw:IntKind.i64.wrap (kk:Int)=(kk:Int):=by rw [IntKind.wrap_i64];omega
      have r1:dk[j]! = d[j]!:=HC.out.rest j (by omega)
      have r2:dk[jp]! = d[jp]!:=HC.out.rest jp (by omega)
      have HRR:=zh (And.intro r1 r2)
      have HMM:=zh hm
      clear e1 e2 hj hjp hk3 r1 r2 hm
      cases hb:decide (ceV dk[j]! = ceV dk[jp]!) with
      | false =>
       have HB:=zh (of_decide_eq_false hb)
       obtain ⟨R,hR⟩:∃ R,dk[j]! = R:=⟨_,rfl⟩
       obtain ⟨T,hT⟩:∃ R,dk[jp]! = R:=⟨_,rfl⟩
       obtain ⟨vx,hvx⟩:∃ v,Value.agg (ceA R)=v:=⟨_,rfl⟩
       obtain ⟨vy,hvy⟩:∃ v,Value.agg (ceA T)=v:=⟨_,rfl⟩
       have HVX:=zh hvx
       have HVY:=zh hvy
       have L1:=zh (fun (W:World) (he:Ext wr W)=>show W.rangeAt g (k * 10+k2 * 10) (RowT.enc R) from by rw [E1.out];exact RowCe.load HD.out rfl hjn hR he)
       have L2:=zh (fun (W:World) (he:Ext wr W)=>show W.rangeAt g (k * 10+k3' * 10) (RowT.enc T) from by rw [E2.out];exact RowCe.load HD.out rfl hjpn hT he)
       have HCM:=RowCe.neqv HD.out hjn hjpn hR hT vx vy hvx hvy false hb
       have HGD:=zh (fun op x y (W:World)=>show (eqGuard op 32 x y vx vy).run Tryz.prog W=.ok () W from by rw [← HVX.out,← HVY.out];exact guard_Ce op x y R T W)
       have HKR:=zh hR
       clear hvx hvy hR hT
       clear hb
       go_wp2_with fail
       refine wp_region_plan (S:=fun W=>Ext wr W) (by kernel_rfl) (by kernel_rfl) ((Ext.refl wr).drew') ?_
       (refine zzx 0 ?_)
       (refine zzx 1 ?_)
       (refine zzx 2 ?_)
       (refine plan_take (i:=3) (oi:=⟨some 38,.load 32 (.tmp 37),32,"slices.go:379",#[⟨2,.data⟩],none⟩) (v:=vx) rfl (by kernel_rfl) (by kernel_rfl) (fx_read ?hy3_3) ?_;case hy3_3=>(exact yields_loadG ceP (by rfl) (.tmp 37) (by rfl) g (k * 10+k2 * 10) (by rfl) R vx HVX.out (fun W hS=>L1.out W hS)))
       try simp only [lays]
       (refine zzx 4 ?_)
       (refine zzx 5 ?_)
       (refine zzx 6 ?_)
       (refine zzx 7 ?_)
       (refine plan_take (i:=8) (oi:=⟨some 43,.load 32 (.tmp 42),32,"slices.go:379",#[⟨7,.data⟩],none⟩) (v:=vy) rfl (by kernel_rfl) (by kernel_rfl) (fx_read ?hy3_8) ?_;case hy3_8=>(exact yields_loadG ceP (by rfl) (.tmp 42) (by rfl) g (k * 10+k3' * 10) (by rfl) T vy HVY.out (fun W hS=>L2.out W hS)))
       try simp only [lays]
       (refine plan_take (i:=9) (oi:=⟨some 44,.binOp .neq 32 (.tmp 38) (.tmp 43) 32,4,"slices.go:379",#[⟨3,.data⟩,⟨8,.data⟩],none⟩) (v:=.bool true) rfl (by kernel_rfl) (by kernel_rfl) (fx_read ?hy3_9) ?_;case hy3_9=>(exact yields_cmp (by rfl) (.tmp 38) (.tmp 43) (by rfl) (vx:=vx) (vy:=vy) (by rfl) (by rfl) (HGD.out _ _ _) HCM.out))
       try simp only [lays]
       refine Plan.done (by kernel_rfl) (fun W hSW=>?_)
       have HD2:=zh (RowS.ext HD.out hSW)
       have L1':=zh (fun (W':World) (he:Ext W W')=>L1.out W' (hSW.trans he))
       have HB2:=zh (show ceV d[j]! ≠ ceV d[j - 1]! from by
        have h1:=HB.out
        rw [HRR.out.1,HRR.out.2] at h1
        rw [show j - 1=jp from by have:=HJ.out;omega];exact h1)
       have HC2:=zh (show Cmp ceV d (dk.setIfInBounds kk R) (kk+1) (k+(k2+1)) from by
        have h1:=HC.out.keep (by have:=HJ.out;omega) (by have:=HB2.out;rw [HJ.out.1] at this;exact this)
        rw [← HJ.out.1,← HRR.out.1,HKR.out] at h1
        rw [show k+(k2+1)=j+1 from by have:=HJ.out;omega];exact h1)
       have HD3:=zh (HD2.out.set rfl hkn2 R (by rw [← HKR.out];exact HD2.out.owAt hjn))
       have ht:W.there g (kk * 10) (RowT.sz CeR):=HD2.out.there rfl hkn2
       clear HD HC HCM HGD L1 L2 hSW qw HVY HKR
       go_upto_region 13 with (first | ((with_reducible refine wpList_loadG ceP rfl (.tmp 49) rfl g (k * 10+k2 * 10) ?hx R vx HVX.out (L1'.out _ (Ext.refl _)) ?_);case hx=>rfl) | ((with_reducible refine wpList_storeG ceP rfl (.tmp 51) (.tmp 50) rfl g (kk * 10) ?hx R vx HVX.out ?hy ht ?_);(case hx=>rfl);(case hy=>rfl)))
       have HD4:=zh (show RowS w0 (W.setCells g (kk * 10) (RowT.enc R)) base 32 (some ⟨g,0,none⟩) n c (dk.setIfInBounds kk R) from HD3.out)
       clear HD3 HD2 kkw
       generalize W.setCells g (kk * 10) (RowT.enc R)=W8 at HD4 ⊢
       go_wp2_with fail
       go_roundw
       case rel=>exact ⟨kk+1,k2+1,_,by go_num,by go_num,by omega,by have:=HMM.out;omega,by omega,by omega,HC2,HD4⟩
       case measure=>simp [intOf];have:=HMM.out;omega
      | true =>
       have HB:=zh (of_decide_eq_true hb)
       obtain ⟨R,hR⟩:∃ R,dk[j]! = R:=⟨_,rfl⟩
       obtain ⟨T,hT⟩:∃ R,dk[jp]! = R:=⟨_,rfl⟩
       obtain ⟨vx,hvx⟩:∃ v,Value.agg (ceA R)=v:=⟨_,rfl⟩
       obtain ⟨vy,hvy⟩:∃ v,Value.agg (ceA T)=v:=⟨_,rfl⟩
       have HVX:=zh hvx
       have HVY:=zh hvy
       have L1:=zh (fun (W:World) (he:Ext wr W)=>show W.rangeAt g (k * 10+k2 * 10) (RowT.enc R) from by rw [E1.out];exact RowCe.load HD.out rfl hjn hR he)
       have L2:=zh (fun (W:World) (he:Ext wr W)=>show W.rangeAt g (k * 10+k3' * 10) (RowT.enc T) from by rw [E2.out];exact RowCe.load HD.out rfl hjpn hT he)
       have HCM:=RowCe.neqv HD.out hjn hjpn hR hT vx vy hvx hvy true hb
       have HGD:=zh (fun op x y (W:World)=>show (eqGuard op 32 x y vx vy).run Tryz.prog W=.ok () W from by rw [← HVX.out,← HVY.out];exact guard_Ce op x y R T W)
       have HKR:=zh hR
       clear hvx hvy hR hT
       clear hb
       go_wp2_with fail
       refine wp_region_plan (S:=fun W=>Ext wr W) (by kernel_rfl) (by kernel_rfl) ((Ext.refl wr).drew') ?_
       (refine zzx 0 ?_)
       (refine zzx 1 ?_)
       (refine zzx 2 ?_)
       (refine plan_take (i:=3) (oi:=⟨some 38,.load 32 (.tmp 37),32,"slices.go:379",#[⟨2,.data⟩],none⟩) (v:=vx) rfl (by kernel_rfl) (by kernel_rfl) (fx_read ?hy4_3) ?_;case hy4_3=>(exact yields_loadG ceP (by rfl) (.tmp 37) (by rfl) g (k * 10+k2 * 10) (by rfl) R vx HVX.out (fun W hS=>L1.out W hS)))
       try simp only [lays]
       (refine zzx 4 ?_)
       (refine zzx 5 ?_)
       (refine zzx 6 ?_)
       (refine zzx 7 ?_)
       (refine plan_take (i:=8) (oi:=⟨some 43,.load 32 (.tmp 42),32,"slices.go:379",#[⟨7,.data⟩],none⟩) (v:=vy) rfl (by kernel_rfl) (by kernel_rfl) (fx_read ?hy4_8) ?_;case hy4_8=>(exact yields_loadG ceP (by rfl) (.tmp 42) (by rfl) g (k * 10+k3' * 10) (by rfl) T vy HVY.out (fun W hS=>L2.out W hS)))
       try simp only [lays]
       (refine plan_take (i:=9) (oi:=⟨some 44,.binOp .neq 32 (.tmp 38) (.tmp 43) 32,4,"slices.go:379",#[⟨3,.data⟩,⟨8,.data⟩],none⟩) (v:=.bool false) rfl (by kernel_rfl) (by kernel_rfl) (fx_read ?hy4_9) ?_;case hy4_9=>(exact yields_cmp (by rfl) (.tmp 38) (.tmp 43) (by rfl) (vx:=vx) (vy:=vy) (by rfl) (by rfl) (HGD.out _ _ _) HCM.out))
       try simp only [lays]
       refine Plan.done (by kernel_rfl) (fun W hSW=>?_)
       have HD2:=zh (RowS.ext HD.out hSW)
       have HC2:=zh (show Cmp ceV d dk kk (k+(k2+1)) from by
        have h1:=HB.out
        rw [HRR.out.1,HRR.out.2,HJ.out.2.1,HJ.out.1] at h1
        exact HC.out.dup (by have:=HJ.out;omega) h1)
       clear HD HC HCM HGD L1 L2 hSW HVX HVY qw kw kkw
       go_wp2_with fail
       go_roundw
       case rel=>exact ⟨kk,k2+1,dk,rfl,by go_num,by omega,by have:=HMM.out;omega,by omega,hkp,HC2,HD2⟩
       case measure=>simp [intOf];have:=HMM.out;omega
     ·obtain ⟨m, hm⟩ : ∃ m, n - k = m := ⟨_, rfl⟩
      have i3:¬ (k2:Int) < ((n - k:Nat):Int):=by omega
      have i4:¬ (k2:Int) < (m:Int):=by omega
      have y1:kk≤n:=by omega
      have y2:kk≤c:=by omega
      have y3:¬ c=kk:=by omega
      have y4:¬ n=kk:=by omega
      have y5:0 < n - kk:=by omega
      have HF:=zh (show (dk.toList.take kk).map ceV=compO (d.toList.map ceV) from HC.out.all (by rw [HSZ.out];omega))
      have hcl:=fun ty=>run_clearG ceE ce0_one wr ty g (kk * 10) (n - kk) (c - kk) y5 (HD.out.clearOk rfl y1).1 (HD.out.clearOk rfl y1).2
      have HD2:=zh (HD.out.cutClear rfl y1 (Builtin.zeroCells (Value.agg ce0).cells (n - kk)).toList)
      have HLE:=zh y1
      clear HD HC hm
      obtain ⟨W8,hW8⟩:∃ W,wr.setCells g (kk * 10) (Builtin.zeroCells (Value.agg ce0).cells (n - kk)).toList=W:=⟨_,rfl⟩
      simp only [hW8] at hcl
      have HD3:=zh (show RowS w0 W8 base 32 (some ⟨g,0,none⟩) kk c (dk.toList.take kk).toArray from by rw [← hW8];exact HD2.out)
      clear HD2 hW8
      go_wp2_with fail
      go_ret
      exact ⟨kk,_,rfl,HLE.out,HD3.out,HF.out⟩
  ·obtain rfl : k = n := by omega
   have i2:¬ (k:Int) < (k:Int):=by omega
   go_wp2_with fail
   go_ret
   exact ⟨k,d,rfl,Nat.le_refl _,HD.out,HC.out.all (by rw [HSZ.out];exact Nat.le_refl _)⟩
end Go.Proofs.YtohmmcahpakokaaGreat
