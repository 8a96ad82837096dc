/- Repetitions of cells struck (slices.Compact). -/
import Derived.Test.YtohmmcahpakokaaGreatG24
set_option maxRecDepth 100000
set_option maxHeartbeats 8000000
set_option linter.unusedSectionVars false
set_option linter.unusedVariables false
set_option linter.unusedSimpArgs false
namespace Go.Proofs.YtohmmcahpakokaaGreat
section
open Go.RowKit
attribute [local go_sem ↓] Go.wp_at_zero Go.wp_at_succ
def ceV (x:CeR):CeR:=x
theorem aKg:∀ v ∈ (Value.agg ce0).cells,v.oneCell'=true:=fun v hv=>Array.all_eq_true_iff_forall_mem.1 (show ce0.all (·.oneCell')=true from by kernel_rfl) v hv
theorem RowCe.load {w0 w w':World} {base n c:Nat} {A:Option Addr} {d:Array CeR} (h:RowS w0 w base 32 A n c d) {g:Nat} (hA:A=some ⟨g,0,none⟩) {i:Nat} (hi:i < n) {R:CeR} (hR:d[i]! = R) (he:Ext w w'):w'.rangeAt g (i * 10) (RowT.enc R):=by
 have:=(RowS.ext h he).cell hA hi
 rw [hR] at this
 exact this
theorem RowCe.eqv {w0 w:World} {base n c:Nat} {A:Option Addr} {d:Array CeR} (h:RowS w0 w base 32 A n c d) {i j:Nat} (hi:i < n) (hj:j < n) {R T:CeR} (hR:d[i]! = R) (hT:d[j]! = T) (vx vy:Value) (hx:Value.agg (ceA R)=vx) (hy:Value.agg (ceA T)=vy) (b:Bool) (hb:decide (ceV d[i]! = ceV d[j]!)=b) :
  Hid (∀ W,(binOp .eql 32 vx vy).run Tryz.prog W=.ok (.bool b) W):=by
 subst hR;subst hT;rw [← hx,← hy,← hb]
 exact zh (fun W=>uL _ _ (h.ok hi) (h.ok hj) W)
theorem RowCe.neqv {w0 w:World} {base n c:Nat} {A:Option Addr} {d:Array CeR} (h:RowS w0 w base 32 A n c d) {i j:Nat} (hi:i < n) (hj:j < n) {R T:CeR} (hR:d[i]! = R) (hT:d[j]! = T) (vx vy:Value) (hx:Value.agg (ceA R)=vx) (hy:Value.agg (ceA T)=vy) (b:Bool) (hb:decide (ceV d[i]! = ceV d[j]!)=b) :
  Hid (∀ W,(binOp .neq 32 vx vy).run Tryz.prog W=.ok (.bool (!b)) W):=by
 subst hR;subst hT;rw [← hx,← hy,← hb]
 exact zh (fun W=>aFF _ _ (h.ok hi) (h.ok hj) W)
def aKn (w0:World) (base:Nat) (A:Option Addr) (n c:Nat) (d:Array CeR) (e:Ending) (w':World):Prop:=∃ (m:Nat) (d':Array CeR),e=.returned (.slice A m c)∧m≤n∧RowS w0 w' base 32 A m c d'∧d'.toList.map ceV=compO (d.toList.map ceV)
theorem xX (w0 w:World) (base:Nat) (A:Option Addr) (n c:Nat) (d:Array CeR) (h:RowS w0 w base 32 A n c d) (hn:n≤1000000000) (hnc:n≤c) (hc:c≤9223372036854775807) :
  Calls Tryz.prog 66 #[.slice A n c] w (aKn w0 base A n c d):=by
 have HD:=zh h
 have HSZ:=zh (RowS.size h)
 rcases (by omega:n=0 ∨ 1≤n) with rfl | hpos
 ·have HC:=zh (show d.toList.map ceV=compO (d.toList.map ceV) from by
   have:d.toList=[]:=List.eq_nil_of_length_eq_zero (by simpa using HSZ.out)
   rw [this];rfl)
  go_enter Tryz.func66,Tryz.ntmps66
  go_wp2_with fail
  go_ret
  exact ⟨0,d,rfl,Nat.le_refl _,HD.out,HC.out⟩
 have HC1:=zh (Cm1.start (V:=ceV) (d:=d) (by rw [HSZ.out];exact hpos))
 obtain ⟨g,hA,-,-⟩:=RowS.at h (by omega)
 subst hA
 clear h
 by_cases h2:n < 2
 ·have i1 : (n : Int) < 2 := by omega
  go_enter Tryz.func66,Tryz.ntmps66
  go_wp2_with fail
  go_ret
  exact ⟨n,d,rfl,Nat.le_refl _,HD.out,HC1.out.all (by rw [HSZ.out];omega)⟩
 have i1:¬ (n:Int) < 2:=by omega
 go_enter Tryz.func66,Tryz.ntmps66
 go_wp2_with fail
 go_loopw [3] (fun vk wr=>∃ (k:Nat),vk=.int .i64 (k:Int)∧1≤k∧k≤n∧Hid (Cm1 ceV d k)∧Hid (RowS w0 wr base 32 (some ⟨g,0,none⟩) n c d)) (fun k _=>n - (intOf k).toNat)
 case atStart=>exact ⟨1,rfl,Nat.le_refl _,hpos,HC1,HD⟩
 case round =>
  clear HD HC1
  obtain ⟨k,rfl,hk1,hkn,HC,HD⟩:=hrel
  by_cases hlt:k < n
  ·have i2 : (k : Int) < (n : Int) := by omega
   obtain ⟨p,hp⟩:∃ p,p=k - 1:=⟨_,rfl⟩
   have HP:=zh hp
   have p0:(k:Int) - 1=(p:Int):=by omega
   have hpn:p < n:=by omega
   have p1:(p:Int) < (n:Int):=by omega
   have pw:IntKind.i64.wrap (p:Int)=(p:Int):=by rw [IntKind.wrap_i64];omega
   have kw:IntKind.i64.wrap (k:Int)=(k:Int):=by rw [IntKind.wrap_i64];omega
   clear hp
   cases hb:decide (ceV d[k]! = ceV d[p]!) with
   | false =>
    have HB:=zh (of_decide_eq_false hb)
    obtain ⟨R,hR⟩:∃ R,d[k]! = R:=⟨_,rfl⟩
    obtain ⟨T,hT⟩:∃ R,d[p]! = R:=⟨_,rfl⟩
    obtain ⟨vx,hvx⟩:∃ v,Value.agg (ceA R)=v:=⟨_,rfl⟩
    obtain ⟨vy,hvy⟩:∃ v,Value.agg (ceA T)=v:=⟨_,rfl⟩
    have HVX:=zh hvx
    have HVY:=zh hvy
    have L1:=zh (fun (W:World) (he:Ext wr W)=>show W.rangeAt g (k * 10) (RowT.enc R) from by rw [show k * 10=k * 10 from rfl];exact RowCe.load HD.out rfl hlt hR he)
    have L2:=zh (fun (W:World) (he:Ext wr W)=>show W.rangeAt g (p * 10) (RowT.enc T) from by rw [show p * 10=p * 10 from rfl];exact RowCe.load HD.out rfl hpn hT he)
    have HCM:=RowCe.eqv HD.out hlt hpn hR hT vx vy hvx hvy false hb
    have HGD:=zh (fun op x y (W:World)=>show (eqGuard op 32 x y vx vy).run Tryz.prog W=.ok () W from by rw [← HVX.out,← HVY.out];exact kZ op x y R T W)
    have HKR:=zh hR
    clear hvx hvy hR hT
    clear hb
    go_wp2_with fail
    refine eE (S:=fun W=>Ext wr W) (by kernel_rfl) (by kernel_rfl) ((Ext.refl wr).drew') ?_
    (refine zzx 0 ?_)
    (refine zzx 1 ?_)
    (refine zzx 2 ?_)
    (refine cE (i:=3) (oi:=⟨some 19,.load 32 (.tmp 18),32,"slices.go:376",#[⟨2,.data⟩],none⟩) (v:=vx) rfl (by kernel_rfl) (by kernel_rfl) (eZ ?hy1_3) ?_;case hy1_3=>(exact aF ceP (by rfl) (.tmp 18) (by rfl) g (k * 10) (by rfl) R vx HVX.out (fun W hS=>L1.out W hS)))
    try simp only [aX]
    (refine zzx 4 ?_)
    (refine zzx 5 ?_)
    (refine zzx 6 ?_)
    (refine zzx 7 ?_)
    (refine cE (i:=8) (oi:=⟨some 24,.load 32 (.tmp 23),32,"slices.go:376",#[⟨7,.data⟩],none⟩) (v:=vy) rfl (by kernel_rfl) (by kernel_rfl) (eZ ?hy1_8) ?_;case hy1_8=>(exact aF ceP (by rfl) (.tmp 23) (by rfl) g (p * 10) (by rfl) T vy HVY.out (fun W hS=>L2.out W hS)))
    try simp only [aX]
    (refine cE (i:=9) (oi:=⟨some 25,.binOp .eql 32 (.tmp 19) (.tmp 24) 32,4,"slices.go:376",#[⟨3,.data⟩,⟨8,.data⟩],none⟩) (v:=.bool false) rfl (by kernel_rfl) (by kernel_rfl) (eZ ?hy1_9) ?_;case hy1_9=>(exact cS (by rfl) (.tmp 19) (.tmp 24) (by rfl) (vx:=vx) (vy:=vy) (by rfl) (by rfl) (HGD.out _ _ _) HCM.out))
    try simp only [aX]
    refine Plan.done (by kernel_rfl) (fun W aL=>?_)
    have HD2:=zh (RowS.ext HD.out aL)
    have HC2:=zh (HC.out.next (by rw [HSZ.out];exact hlt) (by rw [← HP.out];exact HB.out))
    clear HD HCM HGD L1 L2 aL HVX HVY pw kw
    go_wp2_with fail
    go_roundw
    case rel=>exact ⟨k+1,by go_num,by omega,by omega,HC2,HD2⟩
    case measure=>simp [intOf];omega
   | true =>
    have HB:=zh (of_decide_eq_true hb)
    obtain ⟨R,hR⟩:∃ R,d[k]! = R:=⟨_,rfl⟩
    obtain ⟨T,hT⟩:∃ R,d[p]! = R:=⟨_,rfl⟩
    obtain ⟨vx,hvx⟩:∃ v,Value.agg (ceA R)=v:=⟨_,rfl⟩
    obtain ⟨vy,hvy⟩:∃ v,Value.agg (ceA T)=v:=⟨_,rfl⟩
    have HVX:=zh hvx
    have HVY:=zh hvy
    have L1:=zh (fun (W:World) (he:Ext wr W)=>show W.rangeAt g (k * 10) (RowT.enc R) from by rw [show k * 10=k * 10 from rfl];exact RowCe.load HD.out rfl hlt hR he)
    have L2:=zh (fun (W:World) (he:Ext wr W)=>show W.rangeAt g (p * 10) (RowT.enc T) from by rw [show p * 10=p * 10 from rfl];exact RowCe.load HD.out rfl hpn hT he)
    have HCM:=RowCe.eqv HD.out hlt hpn hR hT vx vy hvx hvy true hb
    have HGD:=zh (fun op x y (W:World)=>show (eqGuard op 32 x y vx vy).run Tryz.prog W=.ok () W from by rw [← HVX.out,← HVY.out];exact kZ op x y R T W)
    have HKR:=zh hR
    clear hvx hvy hR hT
    clear hb
    go_wp2_with fail
    refine eE (S:=fun W=>Ext wr W) (by kernel_rfl) (by kernel_rfl) ((Ext.refl wr).drew') ?_
    (refine zzx 0 ?_)
    (refine zzx 1 ?_)
    (refine zzx 2 ?_)
    (refine cE (i:=3) (oi:=⟨some 19,.load 32 (.tmp 18),32,"slices.go:376",#[⟨2,.data⟩],none⟩) (v:=vx) rfl (by kernel_rfl) (by kernel_rfl) (eZ ?hy2_3) ?_;case hy2_3=>(exact aF ceP (by rfl) (.tmp 18) (by rfl) g (k * 10) (by rfl) R vx HVX.out (fun W hS=>L1.out W hS)))
    try simp only [aX]
    (refine zzx 4 ?_)
    (refine zzx 5 ?_)
    (refine zzx 6 ?_)
    (refine zzx 7 ?_)
    (refine cE (i:=8) (oi:=⟨some 24,.load 32 (.tmp 23),32,"slices.go:376",#[⟨7,.data⟩],none⟩) (v:=vy) rfl (by kernel_rfl) (by kernel_rfl) (eZ ?hy2_8) ?_;case hy2_8=>(exact aF ceP (by rfl) (.tmp 23) (by rfl) g (p * 10) (by rfl) T vy HVY.out (fun W hS=>L2.out W hS)))
    try simp only [aX]
    (refine cE (i:=9) (oi:=⟨some 25,.binOp .eql 32 (.tmp 19) (.tmp 24) 32,4,"slices.go:376",#[⟨3,.data⟩,⟨8,.data⟩],none⟩) (v:=.bool true) rfl (by kernel_rfl) (by kernel_rfl) (eZ ?hy2_9) ?_;case hy2_9=>(exact cS (by rfl) (.tmp 19) (.tmp 24) (by rfl) (vx:=vx) (vy:=vy) (by rfl) (by rfl) (HGD.out _ _ _) HCM.out))
    try simp only [aX]
    refine Plan.done (by kernel_rfl) (fun W aL=>?_)
    have HD2:=zh (RowS.ext HD.out aL)
    have HC2:=zh (HC.out.dup (by rw [HSZ.out];exact hlt) (by rw [← HP.out];exact HB.out))
    clear HD HCM HGD L1 L2 aL HVX HVY pw kw p0 p1
    have k1:k≤n:=by omega
    have k2:k≤c:=by omega
    have k3:¬ c=k:=by omega
    go_wp2_with fail
    go_loopw [3,5] (fun vk vj wr=>∃ (kk k2:Nat) (dk:Array CeR),vk=.int .i64 (kk:Int)∧vj=.int .i64 (k2:Int)∧1≤k2∧k2≤n - k∧kk < k+k2∧1≤kk∧Hid (Cmp ceV d dk kk (k+k2))∧Hid (RowS w0 wr base 32 (some ⟨g,0,none⟩) n c dk)) (fun _ j _=>n - k - (intOf j).toNat)
    case atStart=>exact ⟨k,1,d,rfl,rfl,Nat.le_refl _,by omega,by omega,hk1,HC2,HD2⟩
    case round =>
     clear HD2 HC2
     obtain ⟨kk,k2,dk,rfl,rfl,h21,h2n,hkk,hkp,HC,HD⟩:=hrel
     by_cases hlt2:k2 < n - k
     ·have i3 : (k2 : Int) < ((n - k : Nat) : Int) := by omega
      obtain ⟨m,hm⟩:∃ m,n - k=m:=⟨_,rfl⟩
      have i4:(k2:Int) < (m:Int):=by omega
      obtain ⟨k3',hk3⟩:∃ q,q=k2 - 1:=⟨_,rfl⟩
      have q0:(k2:Int) - 1=(k3':Int):=by omega
      have q1:(k3':Int) < ((n - k:Nat):Int):=by omega
      have q2:(k3':Int) < (m:Int):=by omega
      have qw:IntKind.i64.wrap (k3':Int)=(k3':Int):=by rw [IntKind.wrap_i64];omega
      have kw:IntKind.i64.wrap (k2:Int)=(k2:Int):=by rw [IntKind.wrap_i64];omega
      obtain ⟨j,hj⟩:∃ j,j=k+k2:=⟨_,rfl⟩
      obtain ⟨jp,hjp⟩:∃ j,j=k+k3':=⟨_,rfl⟩
      have e1:k * 10+k2 * 10=j * 10:=by rw [hj,Nat.add_mul]
      have e2:k * 10+k3' * 10=jp * 10:=by rw [hjp,Nat.add_mul]
      have E1:=zh e1
      have E2:=zh e2
      have HJ:=zh (show j=k+k2∧jp=k+k2 - 1∧j < d.size∧kk < j by rw [HSZ.out];omega)
      have hjn:j < n:=by omega
      have hjpn:jp < n:=by omega
      have hkn2:kk < n:=by omega
      have kkn:(kk:Int) < (n:Int):=by omega
      have kkw:IntKind.i64.wrap (kk:Int)=(kk:Int):=by rw [IntKind.wrap_i64];omega
      have r1:dk[j]! = d[j]!:=HC.out.rest j (by omega)
      have r2:dk[jp]! = d[jp]!:=HC.out.rest jp (by omega)
      have HRR:=zh (And.intro r1 r2)
      have HMM:=zh hm
      clear e1 e2 hj hjp hk3 r1 r2 hm
      cases hb:decide (ceV dk[j]! = ceV dk[jp]!) with
      | false =>
       have HB:=zh (of_decide_eq_false hb)
       obtain ⟨R,hR⟩:∃ R,dk[j]! = R:=⟨_,rfl⟩
       obtain ⟨T,hT⟩:∃ R,dk[jp]! = R:=⟨_,rfl⟩
       obtain ⟨vx,hvx⟩:∃ v,Value.agg (ceA R)=v:=⟨_,rfl⟩
       obtain ⟨vy,hvy⟩:∃ v,Value.agg (ceA T)=v:=⟨_,rfl⟩
       have HVX:=zh hvx
       have HVY:=zh hvy
       have L1:=zh (fun (W:World) (he:Ext wr W)=>show W.rangeAt g (k * 10+k2 * 10) (RowT.enc R) from by rw [E1.out];exact RowCe.load HD.out rfl hjn hR he)
       have L2:=zh (fun (W:World) (he:Ext wr W)=>show W.rangeAt g (k * 10+k3' * 10) (RowT.enc T) from by rw [E2.out];exact RowCe.load HD.out rfl hjpn hT he)
       have HCM:=RowCe.neqv HD.out hjn hjpn hR hT vx vy hvx hvy false hb
       have HGD:=zh (fun op x y (W:World)=>show (eqGuard op 32 x y vx vy).run Tryz.prog W=.ok () W from by rw [← HVX.out,← HVY.out];exact kZ op x y R T W)
       have HKR:=zh hR
       clear hvx hvy hR hT
       clear hb
       go_wp2_with fail
       refine eE (S:=fun W=>Ext wr W) (by kernel_rfl) (by kernel_rfl) ((Ext.refl wr).drew') ?_
       (refine zzx 0 ?_)
       (refine zzx 1 ?_)
       (refine zzx 2 ?_)
       (refine cE (i:=3) (oi:=⟨some 38,.load 32 (.tmp 37),32,"slices.go:379",#[⟨2,.data⟩],none⟩) (v:=vx) rfl (by kernel_rfl) (by kernel_rfl) (eZ ?hy3_3) ?_;case hy3_3=>(exact aF ceP (by rfl) (.tmp 37) (by rfl) g (k * 10+k2 * 10) (by rfl) R vx HVX.out (fun W hS=>L1.out W hS)))
       try simp only [aX]
       (refine zzx 4 ?_)
       (refine zzx 5 ?_)
       (refine zzx 6 ?_)
       (refine zzx 7 ?_)
       (refine cE (i:=8) (oi:=⟨some 43,.load 32 (.tmp 42),32,"slices.go:379",#[⟨7,.data⟩],none⟩) (v:=vy) rfl (by kernel_rfl) (by kernel_rfl) (eZ ?hy3_8) ?_;case hy3_8=>(exact aF ceP (by rfl) (.tmp 42) (by rfl) g (k * 10+k3' * 10) (by rfl) T vy HVY.out (fun W hS=>L2.out W hS)))
       try simp only [aX]
       (refine cE (i:=9) (oi:=⟨some 44,.binOp .neq 32 (.tmp 38) (.tmp 43) 32,4,"slices.go:379",#[⟨3,.data⟩,⟨8,.data⟩],none⟩) (v:=.bool true) rfl (by kernel_rfl) (by kernel_rfl) (eZ ?hy3_9) ?_;case hy3_9=>(exact cS (by rfl) (.tmp 38) (.tmp 43) (by rfl) (vx:=vx) (vy:=vy) (by rfl) (by rfl) (HGD.out _ _ _) HCM.out))
       try simp only [aX]
       refine Plan.done (by kernel_rfl) (fun W aL=>?_)
       have HD2:=zh (RowS.ext HD.out aL)
       have L1':=zh (fun (W':World) (he:Ext W W')=>L1.out W' (aL.trans he))
       have HB2:=zh (show ceV d[j]! ≠ ceV d[j - 1]! from by
        have h1:=HB.out
        rw [HRR.out.1,HRR.out.2] at h1
        rw [show j - 1=jp from by have:=HJ.out;omega];exact h1)
       have HC2:=zh (show Cmp ceV d (dk.setIfInBounds kk R) (kk+1) (k+(k2+1)) from by
        have h1:=HC.out.keep (by have:=HJ.out;omega) (by have:=HB2.out;rw [HJ.out.1] at this;exact this)
        rw [← HJ.out.1,← HRR.out.1,HKR.out] at h1
        rw [show k+(k2+1)=j+1 from by have:=HJ.out;omega];exact h1)
       have HD3:=zh (HD2.out.set rfl hkn2 R (by rw [← HKR.out];exact HD2.out.owAt hjn))
       have ht:W.there g (kk * 10) (RowT.sz CeR):=HD2.out.there rfl hkn2
       clear HD HC HCM HGD L1 L2 aL qw HVY HKR
       go_upto_region 13 with (first | ((with_reducible refine aB ceP rfl (.tmp 49) rfl g (k * 10+k2 * 10) ?hx R vx HVX.out (L1'.out _ (Ext.refl _)) ?_);case hx=>rfl) | ((with_reducible refine bT ceP rfl (.tmp 51) (.tmp 50) rfl g (kk * 10) ?hx R vx HVX.out ?hy ht ?_);(case hx=>rfl);(case hy=>rfl)))
       have HD4:=zh (show RowS w0 (W.setCells g (kk * 10) (RowT.enc R)) base 32 (some ⟨g,0,none⟩) n c (dk.setIfInBounds kk R) from HD3.out)
       clear HD3 HD2 kkw
       generalize W.setCells g (kk * 10) (RowT.enc R)=W8 at HD4 ⊢
       go_wp2_with fail
       go_roundw
       case rel=>exact ⟨kk+1,k2+1,_,by go_num,by go_num,by omega,by have:=HMM.out;omega,by omega,by omega,HC2,HD4⟩
       case measure=>simp [intOf];have:=HMM.out;omega
      | true =>
       have HB:=zh (of_decide_eq_true hb)
       obtain ⟨R,hR⟩:∃ R,dk[j]! = R:=⟨_,rfl⟩
       obtain ⟨T,hT⟩:∃ R,dk[jp]! = R:=⟨_,rfl⟩
       obtain ⟨vx,hvx⟩:∃ v,Value.agg (ceA R)=v:=⟨_,rfl⟩
       obtain ⟨vy,hvy⟩:∃ v,Value.agg (ceA T)=v:=⟨_,rfl⟩
       have HVX:=zh hvx
       have HVY:=zh hvy
       have L1:=zh (fun (W:World) (he:Ext wr W)=>show W.rangeAt g (k * 10+k2 * 10) (RowT.enc R) from by rw [E1.out];exact RowCe.load HD.out rfl hjn hR he)
       have L2:=zh (fun (W:World) (he:Ext wr W)=>show W.rangeAt g (k * 10+k3' * 10) (RowT.enc T) from by rw [E2.out];exact RowCe.load HD.out rfl hjpn hT he)
       have HCM:=RowCe.neqv HD.out hjn hjpn hR hT vx vy hvx hvy true hb
       have HGD:=zh (fun op x y (W:World)=>show (eqGuard op 32 x y vx vy).run Tryz.prog W=.ok () W from by rw [← HVX.out,← HVY.out];exact kZ op x y R T W)
       have HKR:=zh hR
       clear hvx hvy hR hT
       clear hb
       go_wp2_with fail
       refine eE (S:=fun W=>Ext wr W) (by kernel_rfl) (by kernel_rfl) ((Ext.refl wr).drew') ?_
       (refine zzx 0 ?_)
       (refine zzx 1 ?_)
       (refine zzx 2 ?_)
       (refine cE (i:=3) (oi:=⟨some 38,.load 32 (.tmp 37),32,"slices.go:379",#[⟨2,.data⟩],none⟩) (v:=vx) rfl (by kernel_rfl) (by kernel_rfl) (eZ ?hy4_3) ?_;case hy4_3=>(exact aF ceP (by rfl) (.tmp 37) (by rfl) g (k * 10+k2 * 10) (by rfl) R vx HVX.out (fun W hS=>L1.out W hS)))
       try simp only [aX]
       (refine zzx 4 ?_)
       (refine zzx 5 ?_)
       (refine zzx 6 ?_)
       (refine zzx 7 ?_)
       (refine cE (i:=8) (oi:=⟨some 43,.load 32 (.tmp 42),32,"slices.go:379",#[⟨7,.data⟩],none⟩) (v:=vy) rfl (by kernel_rfl) (by kernel_rfl) (eZ ?hy4_8) ?_;case hy4_8=>(exact aF ceP (by rfl) (.tmp 42) (by rfl) g (k * 10+k3' * 10) (by rfl) T vy HVY.out (fun W hS=>L2.out W hS)))
       try simp only [aX]
       (refine cE (i:=9) (oi:=⟨some 44,.binOp .neq 32 (.tmp 38) (.tmp 43) 32,4,"slices.go:379",#[⟨3,.data⟩,⟨8,.data⟩],none⟩) (v:=.bool false) rfl (by kernel_rfl) (by kernel_rfl) (eZ ?hy4_9) ?_;case hy4_9=>(exact cS (by rfl) (.tmp 38) (.tmp 43) (by rfl) (vx:=vx) (vy:=vy) (by rfl) (by rfl) (HGD.out _ _ _) HCM.out))
       try simp only [aX]
       refine Plan.done (by kernel_rfl) (fun W aL=>?_)
       have HD2:=zh (RowS.ext HD.out aL)
       have HC2:=zh (show Cmp ceV d dk kk (k+(k2+1)) from by
        have h1:=HB.out
        rw [HRR.out.1,HRR.out.2,HJ.out.2.1,HJ.out.1] at h1
        exact HC.out.dup (by have:=HJ.out;omega) h1)
       clear HD HC HCM HGD L1 L2 aL HVX HVY qw kw kkw
       go_wp2_with fail
       go_roundw
       case rel=>exact ⟨kk,k2+1,dk,rfl,by go_num,by omega,by have:=HMM.out;omega,by omega,hkp,HC2,HD2⟩
       case measure=>simp [intOf];have:=HMM.out;omega
     obtain ⟨m,hm⟩:∃ m,n - k=m:=⟨_,rfl⟩
     have i3:¬ (k2:Int) < ((n - k:Nat):Int):=by omega
     have i4:¬ (k2:Int) < (m:Int):=by omega
     have y1:kk≤n:=by omega
     have y2:kk≤c:=by omega
     have y3:¬ c=kk:=by omega
     have y4:¬ n=kk:=by omega
     have y5:0 < n - kk:=by omega
     have HF:=zh (show (dk.toList.take kk).map ceV=compO (d.toList.map ceV) from HC.out.all (by rw [HSZ.out];omega))
     have hcl:=fun ty=>aDI ceE aKg wr ty g (kk * 10) (n - kk) (c - kk) y5 (HD.out.clearOk rfl y1).1 (HD.out.clearOk rfl y1).2
     have HD2:=zh (HD.out.cutClear rfl y1 (Builtin.zeroCells (Value.agg ce0).cells (n - kk)).toList)
     have HLE:=zh y1
     clear HD HC hm
     obtain ⟨W8,hW8⟩:∃ W,wr.setCells g (kk * 10) (Builtin.zeroCells (Value.agg ce0).cells (n - kk)).toList=W:=⟨_,rfl⟩
     simp only [hW8] at hcl
     have HD3:=zh (show RowS w0 W8 base 32 (some ⟨g,0,none⟩) kk c (dk.toList.take kk).toArray from by rw [← hW8];exact HD2.out)
     clear HD2 hW8
     go_wp2_with fail
     go_ret
     exact ⟨kk,_,rfl,HLE.out,HD3.out,HF.out⟩
  obtain rfl:k=n:=by omega
  have i2:¬ (k:Int) < (k:Int):=by omega
  go_wp2_with fail
  go_ret
  exact ⟨k,d,rfl,Nat.le_refl _,HD.out,HC.out.all (by rw [HSZ.out];exact Nat.le_refl _)⟩
theorem aGB (N Z:Int) (B1:Option Addr) (m1 d1:Nat) (B2:Option Addr) (m2 d2:Nat) (B3:Option Addr) (m3 d3:Nat) (PN:List UInt64) (BL:List Int) (s:StR) (T:TxR) (w:World)
    (hs:s.ok w) (hT:T.ok w) (hN:SlG w B2 m2 d2 PN) (hB:SlZ w B3 m3 d3 BL) (hm1:m1≤9223372036854775807) :
    Calls Tryz.prog 50 #[.agg (genC N Z B1 m1 d1 B2 m2 d2 B3 m3 d3),.agg (ssA s),.agg (tA T)] w fun e w'=>e=.returned (.int .i64 (lE (eV N Z m1 m2 m3 BL) m2 (vSg (aH PN T.ac.toNat) T) s.V T.ac T.sq T.L))∧Ext w w':=by
  obtain ⟨ac,sq,A,n,c,S,m,d,L,sig⟩:=T
  have HS:=zh hs
  have HOPS:=zh hT.ops
  have HT:=zh hT
  have HZ:=zh hB
  have HNN:=zh hN
  have hm2:m2≤9223372036854775807:=Nat.le_trans hN.le hN.cap
  have hq2:s.n2≤9223372036854775807:=Nat.le_trans hs.s2.le hs.s2.cap
  have HQL:=zh (show s.V.Q.length=s.n2 from hs.s2.len)
  show Calls _ _ _ _ fun e w'=>e=.returned (.int .i64 (lE (eV N Z m1 m2 m3 BL) m2 (vSg (aH PN ac.toNat) ⟨ac,sq,A,n,c,S,m,d,L,sig⟩) s.V ac sq L))∧Ext w w'
  have HV:=zh (fun (V:World) (e:Ext w V)=>eM ac sq A n c L V (HOPS.out.ext e))
  have HG:=zh (fun (V:World) (e:Ext w V)=>tX N Z B1 m1 d1 B2 m2 d2 B3 m3 d3 BL V (HZ.out.ext e) hm1 hm2)
  obtain ⟨W,hW⟩:∃ W,((w.alloc (.cells (genC N Z B1 m1 d1 B2 m2 d2 B3 m3 d3) 40)).alloc (.cells (ssA s) 44)).alloc (.cells (tA ⟨ac,sq,A,n,c,S,m,d,L,sig⟩) 47)=W:=⟨_,rfl⟩
  have HB:=zh (show Blk W w.heap.size 40 (genC N Z B1 m1 d1 B2 m2 d2 B3 m3 d3) from by rw [← hW];exact ((Blk.new w 40 (genC N Z B1 m1 d1 B2 m2 d2 B3 m3 d3)).alloc _).alloc _)
  have HC:=zh (show Blk W (w.heap.size+1) 44 (ssA s) from by rw [← hW];exact Blk.alloc (Blk.newAt _ _ _ _ (by simp)) _)
  have HD:=zh (show Blk W (w.heap.size+2) 47 (tA ⟨ac,sq,A,n,c,S,m,d,L,sig⟩) from by rw [← hW];exact Blk.newAt _ _ _ _ (by simp))
  have HX:=zh (show Ext w W from by rw [← hW];exact (((Ext.refl w).alloc' _).alloc' _).alloc' _)
  have t0:=HD.out.cell 0
  have t1:=HD.out.cell 1
  have t2:=HD.out.cell 2
  clear hs hT hN hB
  cases hv:vTx ac sq L with
  | false =>
    have HSP:=zh (show lE (eV N Z m1 m2 m3 BL) m2 (vSg (aH PN ac.toNat) ⟨ac,sq,A,n,c,S,m,d,L,sig⟩) s.V ac sq L=1 from if_pos (.inl hv))
    rw [hv] at HV
    have HV:=zh (show ∀ (V:World),Ext w V→Calls Tryz.prog 44 #[.agg (txA ac sq A n c)] V (fun e w'=>e=.returned (.int .i64 1)∧Ext V w') from HV.out)
    clear hv
    go_enter Tryz.func50,Tryz.ntmps50
    go_wp2_with fail
    refine (HV.out _ HX.out).mono ?_
    rintro e w5 ⟨rfl,he5⟩
    have HX5:=zh (HX.out.trans he5)
    clear he5 t0 t1 t2
    go_wp2_with fail
    go_ret
    exact ⟨by rw [HSP.out];rfl,HX5.out⟩
  | true =>
    rw [hv] at HV
    have HV:=zh (show ∀ (V:World),Ext w V→Calls Tryz.prog 44 #[.agg (txA ac sq A n c)] V (fun e w'=>e=.returned (.int .i64 0)∧Ext V w') from HV.out)
    obtain ⟨⟨a1,a2,a3,a4,a5,a6⟩,-⟩:=eW hv
    obtain ⟨a,rfl⟩:∃ a:Nat,ac=(a:Int):=⟨ac.toNat,by omega⟩
    have HVT:=zh hv
    clear hv
    cases hg:eV N Z m1 m2 m3 BL with
    | false =>
      have HSP:=zh (show lE false m2 (vSg (aH PN (a:Int).toNat) ⟨(a:Int),sq,A,n,c,S,m,d,L,sig⟩) s.V (a:Int) sq L=1 from if_pos (.inr (.inl rfl)))
      rw [hg] at HG
      have HG:=zh (show ∀ (V:World),Ext w V→Calls Tryz.prog 88 #[.agg (genC N Z B1 m1 d1 B2 m2 d2 B3 m3 d3)] V (fun e w'=>e=.returned (.int .i64 1)∧Ext V w') from HG.out)
      clear hg
      go_enter Tryz.func50,Tryz.ntmps50
      go_wp2_with fail
      refine (HV.out _ HX.out).mono ?_
      rintro e w5 ⟨rfl,he5⟩
      have HX5:=zh (HX.out.trans he5)
      have HB5:=zh (HB.out.ext he5)
      have g0:=HB5.out.cell 0
      have g1:=HB5.out.cell 1
      have g2:=HB5.out.cell 2
      have g3:=HB5.out.cell 3
      have g4:=HB5.out.cell 4
      clear he5 t0 t1 t2
      go_wp2_with fail
      refine (HG.out _ HX5.out).mono ?_
      rintro e w6 ⟨rfl,he6⟩
      have HX6:=zh (HX5.out.trans he6)
      clear he6 g0 g1 g2 g3 g4
      go_wp2_with fail
      go_ret
      exact ⟨by rw [HSP.out];rfl,HX6.out⟩
    | true =>
      rw [hg] at HG
      have HG:=zh (show ∀ (V:World),Ext w V→Calls Tryz.prog 88 #[.agg (genC N Z B1 m1 d1 B2 m2 d2 B3 m3 d3)] V (fun e w'=>e=.returned (.int .i64 0)∧Ext V w') from HG.out)
      clear hg
      by_cases h1:m2≤a
      · have HSP := zh (show lE true m2 (vSg (aH PN (a : Int).toNat) ⟨(a : Int), sq, A, n, c, S, m, d, L, sig⟩) s.V (a : Int) sq L = 1 from if_pos (.inr (.inr (.inl (by omega)))))
        have i1:(m2:Int)≤(a:Int):=by omega
        go_enter Tryz.func50,Tryz.ntmps50
        go_wp2_with fail
        refine (HV.out _ HX.out).mono ?_
        rintro e w5 ⟨rfl,he5⟩
        have HX5:=zh (HX.out.trans he5)
        have HB5:=zh (HB.out.ext he5)
        have HC5:=zh (HC.out.ext he5)
        have HD5:=zh (HD.out.ext he5)
        have g0:=HB5.out.cell 0
        have g1:=HB5.out.cell 1
        have g2:=HB5.out.cell 2
        have g3:=HB5.out.cell 3
        have g4:=HB5.out.cell 4
        clear he5 t0 t1 t2
        go_wp2_with fail
        refine (HG.out _ HX5.out).mono ?_
        rintro e w6 ⟨rfl,he6⟩
        have HX6:=zh (HX5.out.trans he6)
        have HB6:=zh (HB5.out.ext he6)
        have HC6:=zh (HC5.out.ext he6)
        have HD6:=zh (HD5.out.ext he6)
        have g3:=HB6.out.cell 3
        obtain ⟨q0,q1,q2,q3,q4⟩:=aE HC6.out
        clear he6 g0 g1 g2 g4 HB5 HC5 HD5 HX5
        go_wp2_with fail
        go_ret
        exact ⟨by rw [HSP.out];rfl,HX6.out⟩
      have i1:¬ (m2:Int)≤(a:Int):=by omega
      by_cases h2:s.n2=m2
      · subst h2
        obtain ⟨gb,go,rfl,hrow,-⟩:=HNN.out.at (by omega)
        obtain ⟨qb,qo,hqa,hqr,-⟩:=HS.out.s2.at (by omega)
        have HQB:=zh hqa
        obtain ⟨pk,hpk⟩:∃ pk,aH PN a=pk:=⟨_,rfl⟩
        have HPK:=zh (fun (V:World) (e:Ext w V)=>show V.rangeAt gb (go+a * 8) (RowT.enc pk) from by
          rw [← hpk]
          obtain ⟨b2,o2,e2,hr2,-⟩:=(HNN.out.ext e).at (by omega)
          injection e2 with e3
          injection e3 with e4 e5
          subst e4
          subst e5
          exact cO (k:=a) hr2 (by rw [HNN.out.len];omega))
        have HQC:=zh (fun (V:World) (e:Ext w V)=>show V.cell? ⟨qb,qo+a,none⟩=some (.int .i64 (aH s.Q a)) from by
          obtain ⟨b2,o2,e2,hr2,-⟩:=(HS.out.ext e).s2.at (by omega)
          rw [HQB.out] at e2
          injection e2 with e3
          injection e3 with e4 e5
          subst e4
          subst e5
          have h5:V.rangeAt qb (qo+a * 1) (RowT.enc (aH s.Q a)):=cO hr2 (by rw [HS.out.s2.len];omega)
          have h7:=h5 0 _ rfl
          rwa [show qo+a * 1+0=qo+a from by omega] at h7)
        have HVER:=zh (fun (V:World) (e:Ext w V)=>zS pk ⟨(a:Int),sq,A,n,c,S,m,d,L,sig⟩ V (HT.out.ext e))
        have HAPP:=zh (fun (V:World) (e:Ext w V)=>fT s (cB (a:Int) sq L) V (HS.out.ext e))
        obtain ⟨sg,hsg⟩:∃ sg,vSg pk ⟨(a:Int),sq,A,n,c,S,m,d,L,sig⟩=sg:=⟨_,rfl⟩
        obtain ⟨ap,hap⟩:∃ ap,decide (cB (a:Int) sq L ∈ s.P)=ap:=⟨_,rfl⟩
        rw [hsg] at HVER
        rw [hap] at HAPP
        have HSG:=zh hsg
        have HAP:=zh hap
        have HBE:=zh (show lE true s.n2 (vSg (aH PN a) ⟨(a:Int),sq,A,n,c,S,m,d,L,sig⟩) s.V (a:Int) sq L=if sg=false then 8 else if ap=true then 7 else if sq ≠ aH s.Q a then 101 else 0 from by
          rw [hpk,hsg]
          unfold lE
          rw [if_neg (by rintro (h | h | h | h); · rw [HVT.out] at h; cases h
                         · cases h
                         · omega
                         exact h HQL.out)]
          rw [← hap]
          simp only [decide_eq_true_eq]
          rfl)
        have i2:(a:Int) < (s.n2:Int):=by omega
        have i3:(0:Int)≤(a:Int):=by omega
        clear hsg hap hpk hrow hqa hqr
        go_enter Tryz.func50,Tryz.ntmps50
        go_wp2_with fail
        refine (HV.out _ HX.out).mono ?_
        rintro e w5 ⟨rfl,he5⟩
        have HX5:=zh (HX.out.trans he5)
        have HB5:=zh (HB.out.ext he5)
        have HC5:=zh (HC.out.ext he5)
        have HD5:=zh (HD.out.ext he5)
        have g0:=HB5.out.cell 0
        have g1:=HB5.out.cell 1
        have g2:=HB5.out.cell 2
        have g3:=HB5.out.cell 3
        have g4:=HB5.out.cell 4
        clear he5 t0 t1 t2
        go_wp2_with fail
        refine (HG.out _ HX5.out).mono ?_
        rintro e w6 ⟨rfl,he6⟩
        have HX6:=zh (HX5.out.trans he6)
        have HB6:=zh (HB5.out.ext he6)
        have HC6:=zh (HC5.out.ext he6)
        have HD6:=zh (HD5.out.ext he6)
        have g3:=HB6.out.cell 3
        obtain ⟨q0,q1,q2,q3,q4⟩:=aE HC6.out
        clear he6 g0 g1 g2 g4 HB5 HC5 HD5 HX5
        go_upto_region 4 with fail
        clear g3 q0 q1 q2 q3 q4
        refine wp_region_held_drew (S:=fun V=>Blk V w.heap.size 40 (genC N Z B1 m1 d1 (some ⟨gb,go,none⟩) s.n2 d2 B3 m3 d3)∧Blk V (w.heap.size+1) 44 (ssA s)∧Blk V (w.heap.size+2) 47 (tA ⟨(a:Int),sq,A,n,c,S,m,d,L,sig⟩)∧Ext w V) (by kernel_rfl) (⟨HB6.out.drew,HC6.out.drew,HD6.out.drew,HX6.out.trans ((Ext.refl _).drew')⟩) (fun aA=>?_)
        refine zz0 [0,1,2,3] ?_;repeat first | refine zz1 ?_ (hy:=by intro W aL;obtain ⟨q0,q1,q2,q3,q4⟩:=aE aL.2.1;have g3:=aL.1.cell 3;have t0:=aL.2.2.1.cell 0;have t1:=aL.2.2.1.cell 1;have t2:=aL.2.2.1.cell 2;have t3:=aL.2.2.1.cell 3;go_simp <;> with_reducible rfl) | refine zz2 ?_ | refine zz9 ?_
        refine zu 4 (v:=.agg (nmc pk)) aA ?_ (hy:=by exact aF nmP (by rfl) (.tmp 41) rfl gb (go+a * 8) rfl pk _ rfl (fun V h=>HPK.out V h.2.2.2))
        refine zz0 [5] ?_;repeat first | refine zz1 ?_ (hy:=by intro W aL;obtain ⟨q0,q1,q2,q3,q4⟩:=aE aL.2.1;have g3:=aL.1.cell 3;have t0:=aL.2.2.1.cell 0;have t1:=aL.2.2.1.cell 1;have t2:=aL.2.2.1.cell 2;have t3:=aL.2.2.1.cell 3;go_simp <;> with_reducible rfl) | refine zz2 ?_ | refine zz9 ?_
        refine zzj (VE 6 (.bool sg) VN) [(6,some 44)] 2 (fun V V' h e=>⟨h.1.ext e,h.2.1.ext e,h.2.2.1.ext e,h.2.2.2.trans e⟩) (ve VN.ext) (zzc ?_ zzn) ?_
        · refine zzp fun W hE hS K hK => ?_
          go_simp
          go_at_call 89
          refine (HVER.out _ hS.2.2.2).mono ?_
          rintro e w5 ⟨rfl,he5⟩
          exact zzK (hK.out (.bool sg) _ (he5) (rfl))
        intro env W hE hS hV
        obtain ⟨h6,-⟩:=zzV hV
        clear hV
        simp only [aV,h6]
        clear h6
        have aA:=hS
        refine zzr [7,8] ?_
        refine wpAnyH_done (by kernel_rfl) ?_ _
        have HX7:=zh aA.2.2.2
        have HB7:=zh aA.1
        have HC7:=zh aA.2.1
        have HD7:=zh aA.2.2.1
        clear aA hE hS HB6 HC6 HD6 HX6
        cases sg
        · go_wp2_with fail
          go_ret
          exact ⟨by first | (rw [HBE.out];rfl) | (rw [Int.toNat_natCast,HBE.out];rfl),HX7.out⟩
        go_upto_region 6 with fail
        refine wp_region_held_drew (S:=fun V=>Blk V w.heap.size 40 (genC N Z B1 m1 d1 (some ⟨gb,go,none⟩) s.n2 d2 B3 m3 d3)∧Blk V (w.heap.size+1) 44 (ssA s)∧Blk V (w.heap.size+2) 47 (tA ⟨(a:Int),sq,A,n,c,S,m,d,L,sig⟩)∧Ext w V) (by kernel_rfl) (⟨HB7.out.drew,HC7.out.drew,HD7.out.drew,HX7.out.trans ((Ext.refl _).drew')⟩) (fun aA=>?_)
        refine zz0 [0,1,2] ?_;repeat first | refine zz1 ?_ (hy:=by intro W aL;obtain ⟨q0,q1,q2,q3,q4⟩:=aE aL.2.1;have g3:=aL.1.cell 3;have t0:=aL.2.2.1.cell 0;have t1:=aL.2.2.1.cell 1;have t2:=aL.2.2.1.cell 2;have t3:=aL.2.2.1.cell 3;go_simp <;> with_reducible rfl) | refine zz2 ?_ | refine zz9 ?_
        refine cP (VV 3 (fun v V=>v=.agg (nmc (cB (a:Int) sq L))) (VV 4 (fun v V=>v=.bool ap) (VN))) [(3,some 50),(4,some 51)] (fuel:=1) (by kernel_rfl) (by kernel_rfl) (fun V V' h e=>⟨h.1.ext e,h.2.1.ext e,h.2.2.1.ext e,h.2.2.2.trans e⟩) (VV.ext (fun v w w' h e=>h) (VV.ext (fun v w w' h e=>h) (VN.ext))) aA ?hm2 rfl ?hr2
        case hm2 =>
          refine Members.cons ?mm2_3 (Members.cons ?mm2_4 (Members.nil _))
          case mm2_3 =>
            refine zm [] (fun env W hE hS hD K hK=>?_)
            clear hD
            try simp only [aV]
            go_simp
            go_at_call 56
            refine (fB (a:Int) sq A n c L _ (HOPS.out.ext hS.2.2.2)).mono ?_
            rintro e w5 ⟨rfl,he5⟩
            have hk:=hK.out (.agg (nmc (cB (a:Int) sq L))) _ (he5) (rfl)
            try simp only [aV] at hk
            exact hk
          case mm2_4 =>
            refine zm [(3,some 50)] (fun env W hE hS hD K hK=>?_)
            have h3:(fun v V=>v=.agg (nmc (cB (a:Int) sq L))) (env 3) W:=hD (3,some 50) (by simp)
            clear hD
            try simp only [aV] at hK ⊢
            generalize env 3=x3 at h3 hK ⊢
            subst h3
            go_simp
            go_at_call 63
            refine (HAPP.out _ hS.2.2.2).mono ?_
            rintro e w5 ⟨rfl,he5⟩
            have hk:=hK.out (.bool ap) _ (he5) (rfl)
            try simp only [aV] at hk
            exact hk
        case hr2 =>
          intro env W hE hS hV
          have h3:(fun v V=>v=.agg (nmc (cB (a:Int) sq L))) (env 3) W:=hV (3,some 50) (by simp)
          have h4:(fun v V=>v=.bool ap) (env 4) W:=hV (4,some 51) (by simp)
          clear hV
          try simp only [aV]
          generalize env 3=x3 at h3 ⊢
          generalize env 4=x4 at h4 ⊢
          subst h3
          subst h4
          have aA:=hS
          refine zt 5 aA ?_
          refine wpAnyH_done (by kernel_rfl) ?_ _
          have HX8:=zh aA.2.2.2
          have HB8:=zh aA.1
          have HC8:=zh aA.2.1
          have HD8:=zh aA.2.2.1
          clear aA hE hS HB7 HC7 HD7 HX7
          cases ap
          · go_upto_region 8 with fail
            by_cases h8:sq=aH s.Q a
            · have HSP := zh (show (if sq ≠ aH s.Q a then (101 : Int) else 0) = 0 from if_neg (fun h => h h8))
              have b8:(sq != aH s.Q a)=false:=by rw [h8];exact bne_self_eq_false _
              clear h8
              refine wp_region_held_drew (S:=fun V=>Blk V w.heap.size 40 (genC N Z B1 m1 d1 (some ⟨gb,go,none⟩) s.n2 d2 B3 m3 d3)∧Blk V (w.heap.size+1) 44 (ssA s)∧Blk V (w.heap.size+2) 47 (tA ⟨(a:Int),sq,A,n,c,S,m,d,L,sig⟩)∧Ext w V) (by kernel_rfl) (⟨HB8.out.drew,HC8.out.drew,HD8.out.drew,HX8.out.trans ((Ext.refl _).drew')⟩) (fun aA=>?_)
              refine zz0 [0,1,2,3,4,5,6,7,8,9] ?_;repeat first | refine zz1 ?_ (hy:=by intro W aL;have q1:W.cell? ⟨w.heap.size+1,1,none⟩=some (.slice (some ⟨qb,qo,none⟩) s.n2 s.c2):=(by rw [← HQB.out];exact aL.2.1.cell 1);have t1:=aL.2.2.1.cell 1;have c9:=HQC.out W aL.2.2.2;go_simp <;> with_reducible rfl) | refine zz2 ?_ | refine zz9 ?_
              refine wpAnyH_done (by kernel_rfl) ?_ _
              have HX9:=zh aA.2.2.2
              clear aA
              go_wp2_with fail
              go_ret
              exact ⟨by (first | rw [HBE.out] | rw [Int.toNat_natCast,HBE.out]);show _=Ending.returned (.int .i64 (if sq ≠ aH s.Q a then (101:Int) else 0));rw [HSP.out];rfl,HX9.out⟩
            have HSP:=zh (show (if sq ≠ aH s.Q a then (101:Int) else 0)=101 from if_pos h8)
            have b8:(sq != aH s.Q a)=true:=bne_iff_ne.2 h8
            clear h8
            refine wp_region_held_drew (S:=fun V=>Blk V w.heap.size 40 (genC N Z B1 m1 d1 (some ⟨gb,go,none⟩) s.n2 d2 B3 m3 d3)∧Blk V (w.heap.size+1) 44 (ssA s)∧Blk V (w.heap.size+2) 47 (tA ⟨(a:Int),sq,A,n,c,S,m,d,L,sig⟩)∧Ext w V) (by kernel_rfl) (⟨HB8.out.drew,HC8.out.drew,HD8.out.drew,HX8.out.trans ((Ext.refl _).drew')⟩) (fun aA=>?_)
            refine zz0 [0,1,2,3,4,5,6,7,8,9] ?_;repeat first | refine zz1 ?_ (hy:=by intro W aL;have q1:W.cell? ⟨w.heap.size+1,1,none⟩=some (.slice (some ⟨qb,qo,none⟩) s.n2 s.c2):=(by rw [← HQB.out];exact aL.2.1.cell 1);have t1:=aL.2.2.1.cell 1;have c9:=HQC.out W aL.2.2.2;go_simp <;> with_reducible rfl) | refine zz2 ?_ | refine zz9 ?_
            refine wpAnyH_done (by kernel_rfl) ?_ _
            have HX9:=zh aA.2.2.2
            clear aA
            go_wp2_with fail
            go_ret
            exact ⟨by (first | rw [HBE.out] | rw [Int.toNat_natCast,HBE.out]);show _=Ending.returned (.int .i64 (if sq ≠ aH s.Q a then (101:Int) else 0));rw [HSP.out];rfl,HX9.out⟩
          go_wp2_with fail
          go_ret
          exact ⟨by rw [HBE.out];rfl,HX8.out⟩
      have HSP:=zh (show lE true m2 (vSg (aH PN (a:Int).toNat) ⟨(a:Int),sq,A,n,c,S,m,d,L,sig⟩) s.V (a:Int) sq L=1 from if_pos (.inr (.inr (.inr (by rw [HQL.out];exact h2)))))
      have i2:((s.n2:Int) != (m2:Int))=true:=bne_iff_ne.2 (by omega)
      go_enter Tryz.func50,Tryz.ntmps50
      go_wp2_with fail
      refine (HV.out _ HX.out).mono ?_
      rintro e w5 ⟨rfl,he5⟩
      have HX5:=zh (HX.out.trans he5)
      have HB5:=zh (HB.out.ext he5)
      have HC5:=zh (HC.out.ext he5)
      have HD5:=zh (HD.out.ext he5)
      have g0:=HB5.out.cell 0
      have g1:=HB5.out.cell 1
      have g2:=HB5.out.cell 2
      have g3:=HB5.out.cell 3
      have g4:=HB5.out.cell 4
      clear he5 t0 t1 t2
      go_wp2_with fail
      refine (HG.out _ HX5.out).mono ?_
      rintro e w6 ⟨rfl,he6⟩
      have HX6:=zh (HX5.out.trans he6)
      have HB6:=zh (HB5.out.ext he6)
      have HC6:=zh (HC5.out.ext he6)
      have HD6:=zh (HD5.out.ext he6)
      have g3:=HB6.out.cell 3
      obtain ⟨q0,q1,q2,q3,q4⟩:=aE HC6.out
      clear he6 g0 g1 g2 g4 HB5 HC5 HD5 HX5
      go_wp2_with fail
      go_ret
      exact ⟨by rw [HSP.out];rfl,HX6.out⟩
end
end Go.Proofs.YtohmmcahpakokaaGreat
