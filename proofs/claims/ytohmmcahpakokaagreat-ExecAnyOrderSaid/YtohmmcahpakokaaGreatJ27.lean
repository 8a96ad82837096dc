/- Repetitions of cells struck (slices.Compact). -/
import Derived.Deep.Cut
import Derived.Test.YtohmmcahpakokaaGreatJ22
import Derived.Test.YtohmmcahpakokaaGreatJ23
import Derived.Test.YtohmmcahpakokaaGreatJ24
set_option maxRecDepth 100000
set_option maxHeartbeats 8000000
set_option linter.unusedSectionVars false
set_option linter.unusedVariables false
set_option linter.unusedSimpArgs false
namespace Go.Proofs.YtohmmcahpakokaaGreat
section
open Go.RowKit
attribute [local go_sem ↓] Go.wp_at_zero Go.wp_at_succ
def ceV (x:CeR):CeR:=x
theorem aIY:∀ v ∈ (Value.agg ce0).cells,v.oneCell'=true:=fun v hv=>Array.all_eq_true_iff_forall_mem.1 (show ce0.all (·.oneCell')=true from by kernel_rfl) v hv
theorem RowCe.load {w0 w w':World} {base n c:Nat} {A:Option Addr} {d:Array CeR} (h:RowS w0 w base 32 A n c d) {g:Nat} (hA:A=some ⟨g,0,none⟩) {i:Nat} (hi:i < n) {R:CeR} (hR:d[i]! = R) (he:Ext w w'):w'.rangeAt g (i * 10) (RowT.enc R):=by
 have:=(RowS.ext h he).cell hA hi
 rw [hR] at this
 exact this
theorem RowCe.eqv {w0 w:World} {base n c:Nat} {A:Option Addr} {d:Array CeR} (h:RowS w0 w base 32 A n c d) {i j:Nat} (hi:i < n) (hj:j < n) {R T:CeR} (hR:d[i]! = R) (hT:d[j]! = T) (vx vy:Value) (hx:Value.agg (ceA R)=vx) (hy:Value.agg (ceA T)=vy) (b:Bool) (hb:decide (ceV d[i]! = ceV d[j]!)=b) :
  Hid (∀ W,(binOp .eql 32 vx vy).run Tryz.prog W=.ok (.bool b) W):=by
 subst hR;subst hT;rw [← hx,← hy,← hb]
 exact zh (fun W=>tV _ _ (h.ok hi) (h.ok hj) W)
theorem RowCe.neqv {w0 w:World} {base n c:Nat} {A:Option Addr} {d:Array CeR} (h:RowS w0 w base 32 A n c d) {i j:Nat} (hi:i < n) (hj:j < n) {R T:CeR} (hR:d[i]! = R) (hT:d[j]! = T) (vx vy:Value) (hx:Value.agg (ceA R)=vx) (hy:Value.agg (ceA T)=vy) (b:Bool) (hb:decide (ceV d[i]! = ceV d[j]!)=b) :
  Hid (∀ W,(binOp .neq 32 vx vy).run Tryz.prog W=.ok (.bool (!b)) W):=by
 subst hR;subst hT;rw [← hx,← hy,← hb]
 exact zh (fun W=>aEU _ _ (h.ok hi) (h.ok hj) W)
def aJj (w0:World) (base:Nat) (A:Option Addr) (n c:Nat) (d:Array CeR) (e:Ending) (w':World):Prop:=∃ (m:Nat) (d':Array CeR),e=.returned (.slice A m c)∧m≤n∧RowS w0 w' base 32 A m c d'∧d'.toList.map ceV=compO (d.toList.map ceV)
theorem xD (w0 w:World) (base:Nat) (A:Option Addr) (n c:Nat) (d:Array CeR) (h:RowS w0 w base 32 A n c d) (hn:n≤1000000000) (hnc:n≤c) (hc:c≤9223372036854775807) :
  Calls Tryz.prog 66 #[.slice A n c] w (aJj w0 base A n c d):=by
 have HD:=zh h
 have HSZ:=zh (RowS.size h)
 rcases (by omega:n=0 ∨ 1≤n) with rfl | hpos
 ·have HC:=zh (show d.toList.map ceV=compO (d.toList.map ceV) from by
   have:d.toList=[]:=List.eq_nil_of_length_eq_zero (by simpa using HSZ.out)
   rw [this];rfl)
  go_enter Tryz.func66,Tryz.ntmps66
  go_wp2_with fail
  go_ret
  exact ⟨0,d,rfl,Nat.le_refl _,HD.out,HC.out⟩
 have HC1:=zh (Cm1.start (V:=ceV) (d:=d) (by rw [HSZ.out];exact hpos))
 obtain ⟨g,hA,-,-⟩:=RowS.at h (by omega)
 subst hA
 clear h
 by_cases h2:n < 2
 ·have i1 : (n : Int) < 2 := by omega
  go_enter Tryz.func66,Tryz.ntmps66
  go_wp2_with fail
  go_ret
  exact ⟨n,d,rfl,Nat.le_refl _,HD.out,HC1.out.all (by rw [HSZ.out];omega)⟩
 have i1:¬ (n:Int) < 2:=by omega
 go_enter Tryz.func66,Tryz.ntmps66
 go_wp2_with fail
 go_loopw [3] (fun vk wr=>∃ (k:Nat),vk=.int .i64 (k:Int)∧1≤k∧k≤n∧Hid (Cm1 ceV d k)∧Hid (RowS w0 wr base 32 (some ⟨g,0,none⟩) n c d)) (fun k _=>n - (intOf k).toNat)
 case atStart=>exact ⟨1,rfl,Nat.le_refl _,hpos,HC1,HD⟩
 case round =>
  clear HD HC1
  obtain ⟨k,rfl,hk1,hkn,HC,HD⟩:=hrel
  by_cases hlt:k < n
  ·have i2 : (k : Int) < (n : Int) := by omega
   obtain ⟨p,hp⟩:∃ p,p=k - 1:=⟨_,rfl⟩
   have HP:=zh hp
   have p0:(k:Int) - 1=(p:Int):=by omega
   have hpn:p < n:=by omega
   have p1:(p:Int) < (n:Int):=by omega
   have pw:IntKind.i64.wrap (p:Int)=(p:Int):=by rw [IntKind.wrap_i64];omega
   have kw:IntKind.i64.wrap (k:Int)=(k:Int):=by rw [IntKind.wrap_i64];omega
   clear hp
   cases hb:decide (ceV d[k]! = ceV d[p]!) with
   | false =>
    have HB:=zh (of_decide_eq_false hb)
    obtain ⟨R,hR⟩:∃ R,d[k]! = R:=⟨_,rfl⟩
    obtain ⟨T,hT⟩:∃ R,d[p]! = R:=⟨_,rfl⟩
    obtain ⟨vx,hvx⟩:∃ v,Value.agg (ceA R)=v:=⟨_,rfl⟩
    obtain ⟨vy,hvy⟩:∃ v,Value.agg (ceA T)=v:=⟨_,rfl⟩
    have HVX:=zh hvx
    have HVY:=zh hvy
    have L1:=zh (fun (W:World) (he:Ext wr W)=>show W.rangeAt g (k * 10) (RowT.enc R) from by rw [show k * 10=k * 10 from rfl];exact RowCe.load HD.out rfl hlt hR he)
    have L2:=zh (fun (W:World) (he:Ext wr W)=>show W.rangeAt g (p * 10) (RowT.enc T) from by rw [show p * 10=p * 10 from rfl];exact RowCe.load HD.out rfl hpn hT he)
    have HCM:=RowCe.eqv HD.out hlt hpn hR hT vx vy hvx hvy false hb
    have HGD:=zh (fun op x y (W:World)=>show (eqGuard op 32 x y vx vy).run Tryz.prog W=.ok () W from by rw [← HVX.out,← HVY.out];exact kX op x y R T W)
    have HKR:=zh hR
    clear hvx hvy hR hT
    clear hb
    go_wp2_with fail
    refine eQ (S:=fun W=>Ext wr W) (by kernel_rfl) (by kernel_rfl) ((Ext.refl wr).drew') ?_
    (refine zzx 0 ?_)
    (refine zzx 1 ?_)
    (refine zzx 2 ?_)
    (refine cL (i:=3) (oi:=⟨some 19,.load 32 (.tmp 18),32,"slices.go:376",#[⟨2,.data⟩],none⟩) (v:=vx) rfl (by kernel_rfl) (by kernel_rfl) (eP ?hy1_3) ?_;case hy1_3=>(exact aF ceP (by rfl) (.tmp 18) (by rfl) g (k * 10) (by rfl) R vx HVX.out (fun W hS=>L1.out W hS)))
    try simp only [aS]
    (refine zzx 4 ?_)
    (refine zzx 5 ?_)
    (refine zzx 6 ?_)
    (refine zzx 7 ?_)
    (refine cL (i:=8) (oi:=⟨some 24,.load 32 (.tmp 23),32,"slices.go:376",#[⟨7,.data⟩],none⟩) (v:=vy) rfl (by kernel_rfl) (by kernel_rfl) (eP ?hy1_8) ?_;case hy1_8=>(exact aF ceP (by rfl) (.tmp 23) (by rfl) g (p * 10) (by rfl) T vy HVY.out (fun W hS=>L2.out W hS)))
    try simp only [aS]
    (refine cL (i:=9) (oi:=⟨some 25,.binOp .eql 32 (.tmp 19) (.tmp 24) 32,4,"slices.go:376",#[⟨3,.data⟩,⟨8,.data⟩],none⟩) (v:=.bool false) rfl (by kernel_rfl) (by kernel_rfl) (eP ?hy1_9) ?_;case hy1_9=>(exact cI (by rfl) (.tmp 19) (.tmp 24) (by rfl) (vx:=vx) (vy:=vy) (by rfl) (by rfl) (HGD.out _ _ _) HCM.out))
    try simp only [aS]
    refine Plan.done (by kernel_rfl) (fun W aM=>?_)
    have HD2:=zh (RowS.ext HD.out aM)
    have HC2:=zh (HC.out.next (by rw [HSZ.out];exact hlt) (by rw [← HP.out];exact HB.out))
    clear HD HCM HGD L1 L2 aM HVX HVY pw kw
    go_wp2_with fail
    go_roundw
    case rel=>exact ⟨k+1,by go_num,by omega,by omega,HC2,HD2⟩
    case measure=>simp [intOf];omega
   | true =>
    have HB:=zh (of_decide_eq_true hb)
    obtain ⟨R,hR⟩:∃ R,d[k]! = R:=⟨_,rfl⟩
    obtain ⟨T,hT⟩:∃ R,d[p]! = R:=⟨_,rfl⟩
    obtain ⟨vx,hvx⟩:∃ v,Value.agg (ceA R)=v:=⟨_,rfl⟩
    obtain ⟨vy,hvy⟩:∃ v,Value.agg (ceA T)=v:=⟨_,rfl⟩
    have HVX:=zh hvx
    have HVY:=zh hvy
    have L1:=zh (fun (W:World) (he:Ext wr W)=>show W.rangeAt g (k * 10) (RowT.enc R) from by rw [show k * 10=k * 10 from rfl];exact RowCe.load HD.out rfl hlt hR he)
    have L2:=zh (fun (W:World) (he:Ext wr W)=>show W.rangeAt g (p * 10) (RowT.enc T) from by rw [show p * 10=p * 10 from rfl];exact RowCe.load HD.out rfl hpn hT he)
    have HCM:=RowCe.eqv HD.out hlt hpn hR hT vx vy hvx hvy true hb
    have HGD:=zh (fun op x y (W:World)=>show (eqGuard op 32 x y vx vy).run Tryz.prog W=.ok () W from by rw [← HVX.out,← HVY.out];exact kX op x y R T W)
    have HKR:=zh hR
    clear hvx hvy hR hT
    clear hb
    go_wp2_with fail
    refine eQ (S:=fun W=>Ext wr W) (by kernel_rfl) (by kernel_rfl) ((Ext.refl wr).drew') ?_
    (refine zzx 0 ?_)
    (refine zzx 1 ?_)
    (refine zzx 2 ?_)
    (refine cL (i:=3) (oi:=⟨some 19,.load 32 (.tmp 18),32,"slices.go:376",#[⟨2,.data⟩],none⟩) (v:=vx) rfl (by kernel_rfl) (by kernel_rfl) (eP ?hy2_3) ?_;case hy2_3=>(exact aF ceP (by rfl) (.tmp 18) (by rfl) g (k * 10) (by rfl) R vx HVX.out (fun W hS=>L1.out W hS)))
    try simp only [aS]
    (refine zzx 4 ?_)
    (refine zzx 5 ?_)
    (refine zzx 6 ?_)
    (refine zzx 7 ?_)
    (refine cL (i:=8) (oi:=⟨some 24,.load 32 (.tmp 23),32,"slices.go:376",#[⟨7,.data⟩],none⟩) (v:=vy) rfl (by kernel_rfl) (by kernel_rfl) (eP ?hy2_8) ?_;case hy2_8=>(exact aF ceP (by rfl) (.tmp 23) (by rfl) g (p * 10) (by rfl) T vy HVY.out (fun W hS=>L2.out W hS)))
    try simp only [aS]
    (refine cL (i:=9) (oi:=⟨some 25,.binOp .eql 32 (.tmp 19) (.tmp 24) 32,4,"slices.go:376",#[⟨3,.data⟩,⟨8,.data⟩],none⟩) (v:=.bool true) rfl (by kernel_rfl) (by kernel_rfl) (eP ?hy2_9) ?_;case hy2_9=>(exact cI (by rfl) (.tmp 19) (.tmp 24) (by rfl) (vx:=vx) (vy:=vy) (by rfl) (by rfl) (HGD.out _ _ _) HCM.out))
    try simp only [aS]
    refine Plan.done (by kernel_rfl) (fun W aM=>?_)
    have HD2:=zh (RowS.ext HD.out aM)
    have HC2:=zh (HC.out.dup (by rw [HSZ.out];exact hlt) (by rw [← HP.out];exact HB.out))
    clear HD HCM HGD L1 L2 aM HVX HVY pw kw p0 p1
    have k1:k≤n:=by omega
    have k2:k≤c:=by omega
    have k3:¬ c=k:=by omega
    go_wp2_with fail
    go_loopw [3,5] (fun vk vj wr=>∃ (kk k2:Nat) (dk:Array CeR),vk=.int .i64 (kk:Int)∧vj=.int .i64 (k2:Int)∧1≤k2∧k2≤n - k∧kk < k+k2∧1≤kk∧Hid (Cmp ceV d dk kk (k+k2))∧Hid (RowS w0 wr base 32 (some ⟨g,0,none⟩) n c dk)) (fun _ j _=>n - k - (intOf j).toNat)
    case atStart=>exact ⟨k,1,d,rfl,rfl,Nat.le_refl _,by omega,by omega,hk1,HC2,HD2⟩
    case round =>
     clear HD2 HC2
     obtain ⟨kk,k2,dk,rfl,rfl,h21,h2n,hkk,hkp,HC,HD⟩:=hrel
     by_cases hlt2:k2 < n - k
     ·have i3 : (k2 : Int) < ((n - k : Nat) : Int) := by omega
      obtain ⟨m,hm⟩:∃ m,n - k=m:=⟨_,rfl⟩
      have i4:(k2:Int) < (m:Int):=by omega
      obtain ⟨k3',hk3⟩:∃ q,q=k2 - 1:=⟨_,rfl⟩
      have q0:(k2:Int) - 1=(k3':Int):=by omega
      have q1:(k3':Int) < ((n - k:Nat):Int):=by omega
      have q2:(k3':Int) < (m:Int):=by omega
      have qw:IntKind.i64.wrap (k3':Int)=(k3':Int):=by rw [IntKind.wrap_i64];omega
      have kw:IntKind.i64.wrap (k2:Int)=(k2:Int):=by rw [IntKind.wrap_i64];omega
      obtain ⟨j,hj⟩:∃ j,j=k+k2:=⟨_,rfl⟩
      obtain ⟨jp,hjp⟩:∃ j,j=k+k3':=⟨_,rfl⟩
      have e1:k * 10+k2 * 10=j * 10:=by rw [hj,Nat.add_mul]
      have e2:k * 10+k3' * 10=jp * 10:=by rw [hjp,Nat.add_mul]
      have E1:=zh e1
      have E2:=zh e2
      have HJ:=zh (show j=k+k2∧jp=k+k2 - 1∧j < d.size∧kk < j by rw [HSZ.out];omega)
      have hjn:j < n:=by omega
      have hjpn:jp < n:=by omega
      have hkn2:kk < n:=by omega
      have kkn:(kk:Int) < (n:Int):=by omega
      have kkw:IntKind.i64.wrap (kk:Int)=(kk:Int):=by rw [IntKind.wrap_i64];omega
      have r1:dk[j]! = d[j]!:=HC.out.rest j (by omega)
      have r2:dk[jp]! = d[jp]!:=HC.out.rest jp (by omega)
      have HRR:=zh (And.intro r1 r2)
      have HMM:=zh hm
      clear e1 e2 hj hjp hk3 r1 r2 hm
      cases hb:decide (ceV dk[j]! = ceV dk[jp]!) with
      | false =>
       have HB:=zh (of_decide_eq_false hb)
       obtain ⟨R,hR⟩:∃ R,dk[j]! = R:=⟨_,rfl⟩
       obtain ⟨T,hT⟩:∃ R,dk[jp]! = R:=⟨_,rfl⟩
       obtain ⟨vx,hvx⟩:∃ v,Value.agg (ceA R)=v:=⟨_,rfl⟩
       obtain ⟨vy,hvy⟩:∃ v,Value.agg (ceA T)=v:=⟨_,rfl⟩
       have HVX:=zh hvx
       have HVY:=zh hvy
       have L1:=zh (fun (W:World) (he:Ext wr W)=>show W.rangeAt g (k * 10+k2 * 10) (RowT.enc R) from by rw [E1.out];exact RowCe.load HD.out rfl hjn hR he)
       have L2:=zh (fun (W:World) (he:Ext wr W)=>show W.rangeAt g (k * 10+k3' * 10) (RowT.enc T) from by rw [E2.out];exact RowCe.load HD.out rfl hjpn hT he)
       have HCM:=RowCe.neqv HD.out hjn hjpn hR hT vx vy hvx hvy false hb
       have HGD:=zh (fun op x y (W:World)=>show (eqGuard op 32 x y vx vy).run Tryz.prog W=.ok () W from by rw [← HVX.out,← HVY.out];exact kX op x y R T W)
       have HKR:=zh hR
       clear hvx hvy hR hT
       clear hb
       go_wp2_with fail
       refine eQ (S:=fun W=>Ext wr W) (by kernel_rfl) (by kernel_rfl) ((Ext.refl wr).drew') ?_
       (refine zzx 0 ?_)
       (refine zzx 1 ?_)
       (refine zzx 2 ?_)
       (refine cL (i:=3) (oi:=⟨some 38,.load 32 (.tmp 37),32,"slices.go:379",#[⟨2,.data⟩],none⟩) (v:=vx) rfl (by kernel_rfl) (by kernel_rfl) (eP ?hy3_3) ?_;case hy3_3=>(exact aF ceP (by rfl) (.tmp 37) (by rfl) g (k * 10+k2 * 10) (by rfl) R vx HVX.out (fun W hS=>L1.out W hS)))
       try simp only [aS]
       (refine zzx 4 ?_)
       (refine zzx 5 ?_)
       (refine zzx 6 ?_)
       (refine zzx 7 ?_)
       (refine cL (i:=8) (oi:=⟨some 43,.load 32 (.tmp 42),32,"slices.go:379",#[⟨7,.data⟩],none⟩) (v:=vy) rfl (by kernel_rfl) (by kernel_rfl) (eP ?hy3_8) ?_;case hy3_8=>(exact aF ceP (by rfl) (.tmp 42) (by rfl) g (k * 10+k3' * 10) (by rfl) T vy HVY.out (fun W hS=>L2.out W hS)))
       try simp only [aS]
       (refine cL (i:=9) (oi:=⟨some 44,.binOp .neq 32 (.tmp 38) (.tmp 43) 32,4,"slices.go:379",#[⟨3,.data⟩,⟨8,.data⟩],none⟩) (v:=.bool true) rfl (by kernel_rfl) (by kernel_rfl) (eP ?hy3_9) ?_;case hy3_9=>(exact cI (by rfl) (.tmp 38) (.tmp 43) (by rfl) (vx:=vx) (vy:=vy) (by rfl) (by rfl) (HGD.out _ _ _) HCM.out))
       try simp only [aS]
       refine Plan.done (by kernel_rfl) (fun W aM=>?_)
       have HD2:=zh (RowS.ext HD.out aM)
       have L1':=zh (fun (W':World) (he:Ext W W')=>L1.out W' (aM.trans he))
       have HB2:=zh (show ceV d[j]! ≠ ceV d[j - 1]! from by
        have h1:=HB.out
        rw [HRR.out.1,HRR.out.2] at h1
        rw [show j - 1=jp from by have:=HJ.out;omega];exact h1)
       have HC2:=zh (show Cmp ceV d (dk.setIfInBounds kk R) (kk+1) (k+(k2+1)) from by
        have h1:=HC.out.keep (by have:=HJ.out;omega) (by have:=HB2.out;rw [HJ.out.1] at this;exact this)
        rw [← HJ.out.1,← HRR.out.1,HKR.out] at h1
        rw [show k+(k2+1)=j+1 from by have:=HJ.out;omega];exact h1)
       have HD3:=zh (HD2.out.set rfl hkn2 R (by rw [← HKR.out];exact HD2.out.owAt hjn))
       have ht:W.there g (kk * 10) (RowT.sz CeR):=HD2.out.there rfl hkn2
       clear HD HC HCM HGD L1 L2 aM qw HVY HKR
       go_upto_region 13 with (first | ((with_reducible refine aB ceP rfl (.tmp 49) rfl g (k * 10+k2 * 10) ?hx R vx HVX.out (L1'.out _ (Ext.refl _)) ?_);case hx=>rfl) | ((with_reducible refine bK ceP rfl (.tmp 51) (.tmp 50) rfl g (kk * 10) ?hx R vx HVX.out ?hy ht ?_);(case hx=>rfl);(case hy=>rfl)))
       have HD4:=zh (show RowS w0 (W.setCells g (kk * 10) (RowT.enc R)) base 32 (some ⟨g,0,none⟩) n c (dk.setIfInBounds kk R) from HD3.out)
       clear HD3 HD2 kkw
       generalize W.setCells g (kk * 10) (RowT.enc R)=W8 at HD4 ⊢
       go_wp2_with fail
       go_roundw
       case rel=>exact ⟨kk+1,k2+1,_,by go_num,by go_num,by omega,by have:=HMM.out;omega,by omega,by omega,HC2,HD4⟩
       case measure=>simp [intOf];have:=HMM.out;omega
      | true =>
       have HB:=zh (of_decide_eq_true hb)
       obtain ⟨R,hR⟩:∃ R,dk[j]! = R:=⟨_,rfl⟩
       obtain ⟨T,hT⟩:∃ R,dk[jp]! = R:=⟨_,rfl⟩
       obtain ⟨vx,hvx⟩:∃ v,Value.agg (ceA R)=v:=⟨_,rfl⟩
       obtain ⟨vy,hvy⟩:∃ v,Value.agg (ceA T)=v:=⟨_,rfl⟩
       have HVX:=zh hvx
       have HVY:=zh hvy
       have L1:=zh (fun (W:World) (he:Ext wr W)=>show W.rangeAt g (k * 10+k2 * 10) (RowT.enc R) from by rw [E1.out];exact RowCe.load HD.out rfl hjn hR he)
       have L2:=zh (fun (W:World) (he:Ext wr W)=>show W.rangeAt g (k * 10+k3' * 10) (RowT.enc T) from by rw [E2.out];exact RowCe.load HD.out rfl hjpn hT he)
       have HCM:=RowCe.neqv HD.out hjn hjpn hR hT vx vy hvx hvy true hb
       have HGD:=zh (fun op x y (W:World)=>show (eqGuard op 32 x y vx vy).run Tryz.prog W=.ok () W from by rw [← HVX.out,← HVY.out];exact kX op x y R T W)
       have HKR:=zh hR
       clear hvx hvy hR hT
       clear hb
       go_wp2_with fail
       refine eQ (S:=fun W=>Ext wr W) (by kernel_rfl) (by kernel_rfl) ((Ext.refl wr).drew') ?_
       (refine zzx 0 ?_)
       (refine zzx 1 ?_)
       (refine zzx 2 ?_)
       (refine cL (i:=3) (oi:=⟨some 38,.load 32 (.tmp 37),32,"slices.go:379",#[⟨2,.data⟩],none⟩) (v:=vx) rfl (by kernel_rfl) (by kernel_rfl) (eP ?hy4_3) ?_;case hy4_3=>(exact aF ceP (by rfl) (.tmp 37) (by rfl) g (k * 10+k2 * 10) (by rfl) R vx HVX.out (fun W hS=>L1.out W hS)))
       try simp only [aS]
       (refine zzx 4 ?_)
       (refine zzx 5 ?_)
       (refine zzx 6 ?_)
       (refine zzx 7 ?_)
       (refine cL (i:=8) (oi:=⟨some 43,.load 32 (.tmp 42),32,"slices.go:379",#[⟨7,.data⟩],none⟩) (v:=vy) rfl (by kernel_rfl) (by kernel_rfl) (eP ?hy4_8) ?_;case hy4_8=>(exact aF ceP (by rfl) (.tmp 42) (by rfl) g (k * 10+k3' * 10) (by rfl) T vy HVY.out (fun W hS=>L2.out W hS)))
       try simp only [aS]
       (refine cL (i:=9) (oi:=⟨some 44,.binOp .neq 32 (.tmp 38) (.tmp 43) 32,4,"slices.go:379",#[⟨3,.data⟩,⟨8,.data⟩],none⟩) (v:=.bool false) rfl (by kernel_rfl) (by kernel_rfl) (eP ?hy4_9) ?_;case hy4_9=>(exact cI (by rfl) (.tmp 38) (.tmp 43) (by rfl) (vx:=vx) (vy:=vy) (by rfl) (by rfl) (HGD.out _ _ _) HCM.out))
       try simp only [aS]
       refine Plan.done (by kernel_rfl) (fun W aM=>?_)
       have HD2:=zh (RowS.ext HD.out aM)
       have HC2:=zh (show Cmp ceV d dk kk (k+(k2+1)) from by
        have h1:=HB.out
        rw [HRR.out.1,HRR.out.2,HJ.out.2.1,HJ.out.1] at h1
        exact HC.out.dup (by have:=HJ.out;omega) h1)
       clear HD HC HCM HGD L1 L2 aM HVX HVY qw kw kkw
       go_wp2_with fail
       go_roundw
       case rel=>exact ⟨kk,k2+1,dk,rfl,by go_num,by omega,by have:=HMM.out;omega,by omega,hkp,HC2,HD2⟩
       case measure=>simp [intOf];have:=HMM.out;omega
     obtain ⟨m,hm⟩:∃ m,n - k=m:=⟨_,rfl⟩
     have i3:¬ (k2:Int) < ((n - k:Nat):Int):=by omega
     have i4:¬ (k2:Int) < (m:Int):=by omega
     have y1:kk≤n:=by omega
     have y2:kk≤c:=by omega
     have y3:¬ c=kk:=by omega
     have y4:¬ n=kk:=by omega
     have y5:0 < n - kk:=by omega
     have HF:=zh (show (dk.toList.take kk).map ceV=compO (d.toList.map ceV) from HC.out.all (by rw [HSZ.out];omega))
     have hcl:=fun ty=>aCY ceE aIY wr ty g (kk * 10) (n - kk) (c - kk) y5 (HD.out.clearOk rfl y1).1 (HD.out.clearOk rfl y1).2
     have HD2:=zh (HD.out.cutClear rfl y1 (Builtin.zeroCells (Value.agg ce0).cells (n - kk)).toList)
     have HLE:=zh y1
     clear HD HC hm
     obtain ⟨W8,hW8⟩:∃ W,wr.setCells g (kk * 10) (Builtin.zeroCells (Value.agg ce0).cells (n - kk)).toList=W:=⟨_,rfl⟩
     simp only [hW8] at hcl
     have HD3:=zh (show RowS w0 W8 base 32 (some ⟨g,0,none⟩) kk c (dk.toList.take kk).toArray from by rw [← hW8];exact HD2.out)
     clear HD2 hW8
     go_wp2_with fail
     go_ret
     exact ⟨kk,_,rfl,HLE.out,HD3.out,HF.out⟩
  obtain rfl:k=n:=by omega
  have i2:¬ (k:Int) < (k:Int):=by omega
  go_wp2_with fail
  go_ret
  exact ⟨k,d,rfl,Nat.le_refl _,HD.out,HC.out.all (by rw [HSZ.out];exact Nat.le_refl _)⟩
theorem aFG (x:DeR) (c:CeR) (g:Nat) (w:World) (hx:deW x) (hc:ceW c) (hb:Blk w g 32 (ceA c)):Calls Tryz.prog 158 #[.agg (deA x),.pointer (some ⟨g,0,none⟩)] w fun e w'=>e=.returned (.bool (decide (x.c=c)))∧Ext w w':=by
 have HB:=zh (Blk.new w 34 (deA x))
 have HC:=zh (hb.alloc (.cells (deA x) 34))
 have HE:=zh ((Ext.refl w).alloc' (.cells (deA x) 34))
 have r0:(w.alloc (.cells (deA x) 34)).rangeAt w.heap.size 0 (RowT.enc x.c):=aCg HB.out
 have r1:(w.alloc (.cells (deA x) 34)).rangeAt g 0 (RowT.enc c):=aD HC.out
 have hq:=tV x.c c hx.1 hc (w.alloc (.cells (deA x) 34))
 have HC2:=zh (rfl:(deA x)=(deA x))
 clear hb hx hc
 have hg:=kX .eql (.tmp 5) (.tmp 6) x.c c (w.alloc (.cells (deA x) 34))
 obtain ⟨v0,hv0⟩:∃ v,Value.agg (ceA x.c)=v:=⟨_,rfl⟩
 obtain ⟨v1,hv1⟩:∃ v,Value.agg (ceA c)=v:=⟨_,rfl⟩
 rw [hv0,hv1] at hq hg
 have HV0:=zh hv0
 have HV1:=zh hv1
 clear hv0 hv1
 obtain ⟨b,hb⟩:∃ b,decide (x.c=c)=b:=⟨_,rfl⟩
 rw [hb] at hq ⊢
 clear hb
 go_enter Tryz.func158,Tryz.ntmps158
 go_wp2_with (first | (with_reducible refine aB ceP rfl (.tmp 4) rfl w.heap.size 0 rfl x.c v0 HV0.out r0 ?_) | (with_reducible refine aB ceP rfl (.tmp 1) rfl g 0 rfl c v1 HV1.out r1 ?_))
 go_ret
 exact ⟨rfl,HE.out⟩
theorem aDA (c:CeR) (g:Nat) (w:World) (hc:ceW c) (hb:Blk w g 32 (ceA c)):Says deA 158 #[.pointer (some ⟨g,0,none⟩)] (fun x=>decide (x.c=c)) w :=
 ⟨fun _ _=>by kernel_rfl,fun x W hE hx=>aFG x c g W hx hc (hb.ext hE)⟩
theorem xB (x:LkR) (c:UInt64) (g:Nat) (w:World) (hx:lkW x)  (hb:Blk w g 30 (nmc c)):Calls Tryz.prog 213 #[.agg (lkA x),.pointer (some ⟨g,0,none⟩)] w fun e w'=>e=.returned (.bool (decide (x.nm=c)))∧Ext w w':=by
 have HB:=zh (Blk.new w 94 (lkA x))
 have HC:=zh (hb.alloc (.cells (lkA x) 94))
 have HE:=zh ((Ext.refl w).alloc' (.cells (lkA x) 94))
 have r0:(w.alloc (.cells (lkA x) 94)).rangeAt w.heap.size 0 (RowT.enc x.nm):=aAf HB.out
 have r1:(w.alloc (.cells (lkA x) 94)).rangeAt g 0 (RowT.enc c):=bM HC.out
 have hq:=cO x.nm c (w.alloc (.cells (lkA x) 94))
 have HC2:=zh (rfl:(lkA x)=(lkA x))
 clear hb hx 
 have hg:=gI .eql (.tmp 5) (.tmp 6) x.nm c (w.alloc (.cells (lkA x) 94))
 obtain ⟨v0,hv0⟩:∃ v,Value.agg (nmc x.nm)=v:=⟨_,rfl⟩
 obtain ⟨v1,hv1⟩:∃ v,Value.agg (nmc c)=v:=⟨_,rfl⟩
 rw [hv0,hv1] at hq hg
 have HV0:=zh hv0
 have HV1:=zh hv1
 clear hv0 hv1
 obtain ⟨b,hb⟩:∃ b,decide (x.nm=c)=b:=⟨_,rfl⟩
 rw [hb] at hq ⊢
 clear hb
 go_enter Tryz.func213,Tryz.ntmps213
 go_wp2_with (first | (with_reducible refine aB nmP rfl (.tmp 4) rfl w.heap.size 0 rfl x.nm v0 HV0.out r0 ?_) | (with_reducible refine aB nmP rfl (.tmp 1) rfl g 0 rfl c v1 HV1.out r1 ?_))
 go_ret
 exact ⟨rfl,HE.out⟩
theorem vH (c:UInt64) (g:Nat) (w:World)  (hb:Blk w g 30 (nmc c)):Says lkA 213 #[.pointer (some ⟨g,0,none⟩)] (fun x=>decide (x.nm=c)) w :=
 ⟨fun _ _=>by kernel_rfl,fun x W hE hx=>xB x c g W hx (hb.ext hE)⟩
theorem vG (s:StR) (c:CeR) (w:World) (h:s.ok w) (hc:ceW c) (r:Int) (hr:IxIs (fun x=>decide (x.c=c)) s.C r):Calls Tryz.prog 101 #[.agg (ssA s),.agg (ceA c)] w fun e w'=>e=.returned (.int .i64 r)∧Ext w w':=by
 obtain ⟨W,hW⟩:∃ W,((w.alloc (.cells (ssA s) 44)).alloc (.cells (ceA c) 32))=W:=⟨_,rfl⟩
 have HB:=zh (show Blk W w.heap.size 44 (ssA s) from by rw [← hW];exact (Blk.new w 44 (ssA s)).alloc _)
 have HC:=zh (show Blk W (w.heap.size+1) 32 (ceA c) from by rw [← hW];exact Blk.newAt _ _ _ _ (by simp))
 have HE:=zh (show Ext w W from by rw [← hW];exact ((Ext.refl w).alloc' _).alloc' _)
 have c0:W.cell? ⟨w.heap.size,0,none⟩=some (.slice s.A1 s.n1 s.c1):=HB.out.cell 0
 have HF:=zh (aDA c _ _ hc HC.out)
 have HI:=zh (uZ HF.out W s.A1 s.n1 s.c1 s.C (h.ext HE.out).s1 (Ext.refl _) r hr)
 clear h hr hc
 go_enter Tryz.func101,Tryz.ntmps101
 go_wp2_with fail
 refine HI.out.mono ?_
 rintro e w5 ⟨rfl,he5⟩
 have HX:=zh (HE.out.trans he5)
 clear he5 c0 HI HF
 go_wp2_with fail
 go_ret
 exact ⟨rfl,HX.out⟩
theorem fE (s:StR) (c:UInt64) (w:World) (h:s.ok w)  (r:Int) (hr:IxIs (fun x=>decide (x.nm=c)) s.K r):Calls Tryz.prog 152 #[.agg (ssA s),.agg (nmc c)] w fun e w'=>e=.returned (.int .i64 r)∧Ext w w':=by
 obtain ⟨W,hW⟩:∃ W,((w.alloc (.cells (ssA s) 44)).alloc (.cells (nmc c) 30))=W:=⟨_,rfl⟩
 have HB:=zh (show Blk W w.heap.size 44 (ssA s) from by rw [← hW];exact (Blk.new w 44 (ssA s)).alloc _)
 have HC:=zh (show Blk W (w.heap.size+1) 30 (nmc c) from by rw [← hW];exact Blk.newAt _ _ _ _ (by simp))
 have HE:=zh (show Ext w W from by rw [← hW];exact ((Ext.refl w).alloc' _).alloc' _)
 have c0:W.cell? ⟨w.heap.size,2,none⟩=some (.slice s.A3 s.n3 s.c3):=HB.out.cell 2
 have HF:=zh (vH c _ _ HC.out)
 have HI:=zh (uY HF.out W s.A3 s.n3 s.c3 s.K (h.ext HE.out).s3 (Ext.refl _) r hr)
 clear h hr 
 go_enter Tryz.func152,Tryz.ntmps152
 go_wp2_with fail
 refine HI.out.mono ?_
 rintro e w5 ⟨rfl,he5⟩
 have HX:=zh (HE.out.trans he5)
 clear he5 c0 HI HF
 go_wp2_with fail
 go_ret
 exact ⟨rfl,HX.out⟩
theorem xG (x y:DeR) (gf g:Nat) (w:World) (hf:Blk w gf 124 #[.func (.func 105) #[] #[]]) (hb:Blk w g 34 (deA x)):Calls Tryz.prog 161 #[.agg (deA y),.pointer (some ⟨gf,0,none⟩),.pointer (some ⟨g,0,none⟩)] w fun e w'=>e=.returned (.bool ((fun y=>eE x.c y.c) y))∧Ext w w':=by
 have HB:=zh (Blk.new w 34 (deA y))
 have HC:=zh (hb.alloc (.cells (deA y) 34))
 have HE:=zh ((Ext.refl w).alloc' (.cells (deA y) 34))
 have c0:(w.alloc (.cells (deA y) 34)).cell? ⟨gf,0,none⟩=some (.func (.func 105) #[] #[]):=(hf.alloc _).cell 0
 have r0:(w.alloc (.cells (deA y) 34)).rangeAt w.heap.size 0 (RowT.enc y):=aD HB.out
 have r1:(w.alloc (.cells (deA y) 34)).rangeAt g 0 (RowT.enc x):=aD HC.out
 have HQ:=zh (vQ y.c x.c)
 have HM:=zh (fun W=>aAG y x W)
 have eg:∀ args w,(callFunc 105 args).run Tryz.prog w=.ok (.enter 105 args) w:=fun _ _=>by kernel_rfl
 clear hb hf
 obtain ⟨v0,hv0⟩:∃ v,Value.agg (deA y)=v:=⟨_,rfl⟩
 obtain ⟨v1,hv1⟩:∃ v,Value.agg (deA x)=v:=⟨_,rfl⟩
 have HV0:=zh hv0
 have HV1:=zh hv1
 rw [hv0,hv1] at HM
 clear hv0 hv1
 go_enter Tryz.func161,Tryz.ntmps161
 go_wp2_with (first | (with_reducible refine aB deP rfl (.tmp 3) rfl w.heap.size 0 rfl y v0 HV0.out r0 ?_) | (with_reducible refine aB deP rfl (.tmp 2) rfl g 0 rfl x v1 HV1.out r1 ?_))
 refine (HM.out _).mono ?_
 rintro e w5 ⟨rfl,he5⟩
 have HX:=zh (HE.out.trans he5)
 clear he5 c0 r0 r1
 go_wp2_with fail
 go_ret
 exact ⟨by rw [← HQ.out];rfl,HX.out⟩
theorem aAL (A:Option Addr) (n c:Nat) (L:List DeR) (x:DeR) (w:World) (h:SlG w A n c L):Calls Tryz.prog 104 #[.slice A n c,.agg (deA x),.func (.func 105) #[] #[]] w fun e w'=>∃ k:Nat,e=.returned (.int .i64 (k:Int))∧k≤n∧eB (fun y=>eE x.c y.c) x L=L.take k ++ x :: L.drop k∧Ext w w':=by
 obtain ⟨W,hW⟩:∃ W,((w.alloc (.cells (deA x) 34)).alloc (.cells #[.func (.func 105) #[] #[]] 124))=W:=⟨_,rfl⟩
 have HB:=zh (show Blk W w.heap.size 34 (deA x) from by rw [← hW];exact (Blk.new w 34 (deA x)).alloc _)
 have HC:=zh (show Blk W (w.heap.size+1) 124 #[.func (.func 105) #[] #[]] from by rw [← hW];exact Blk.newAt _ _ _ _ (by simp))
 have HE:=zh (show Ext w W from by rw [← hW];exact ((Ext.refl w).alloc' _).alloc' _)
 have HF:=zh (show Says deA 161 #[.pointer (some ⟨w.heap.size+1,0,none⟩),.pointer (some ⟨w.heap.size,0,none⟩)] (fun y=>eE x.c y.c) W from ⟨fun _ _=>by kernel_rfl,fun y W2 hE2 _=>xG x y _ _ W2 (HC.out.ext hE2) (HB.out.ext hE2)⟩)
 have HLEN:=zh h.len
 have HS:=zh (h.ext HE.out)
 have hcap:=h.cap
 have hle:=h.le
 clear h
 have hcs:=iS (fun y=>eE x.c y.c) L
 rw [HLEN.out] at hcs
 rcases hcs with hno | ⟨k,hk,h1,h2⟩
 ·have HI := zh (uZ HF.out W A n c L HS.out (Ext.refl _) (-1) (.inl ⟨rfl, by rw [HLEN.out]; exact hno⟩))
  have HR:=zh (jA (fun y=>eE x.c y.c) x L n (by rw [HLEN.out];exact Nat.le_refl _) (fun j hj hl=>by rw [cC hl];exact hno j hj) (fun hh=>absurd hh (by rw [HLEN.out];omega)))
  clear hno
  go_enter Tryz.func104,Tryz.ntmps104
  go_wp2_with fail
  refine HI.out.mono ?_
  rintro e w5 ⟨rfl,he5⟩
  have HX:=zh (HE.out.trans he5)
  clear he5 HI HF hW
  go_wp2_with fail
  go_ret
  exact ⟨n,rfl,Nat.le_refl _,HR.out,HX.out⟩
 have HI:=zh (uZ HF.out W A n c L HS.out (Ext.refl _) (k:Int) (.inr ⟨k,rfl,by rw [HLEN.out];exact hk,h1,h2⟩))
 have HR:=zh (jA (fun y=>eE x.c y.c) x L k (by rw [HLEN.out];omega) (fun j hj hl=>by rw [cC hl];exact h2 j hj) (fun hh=>by rw [cC hh];exact h1))
 clear h1 h2
 go_enter Tryz.func104,Tryz.ntmps104
 go_wp2_with fail
 refine HI.out.mono ?_
 rintro e w5 ⟨rfl,he5⟩
 have HX:=zh (HE.out.trans he5)
 clear he5 HI HF hW
 go_wp2_with fail
 go_ret
 exact ⟨k,rfl,Nat.le_of_lt hk,HR.out,HX.out⟩
theorem xF (x y:LkR) (gf g:Nat) (w:World) (hf:Blk w gf 172 #[.func (.func 155) #[] #[]]) (hb:Blk w g 94 (lkA x)):Calls Tryz.prog 216 #[.agg (lkA y),.pointer (some ⟨gf,0,none⟩),.pointer (some ⟨g,0,none⟩)] w fun e w'=>e=.returned (.bool ((fun y=>decide (un x.nm < un y.nm)) y))∧Ext w w':=by
 have HB:=zh (Blk.new w 94 (lkA y))
 have HC:=zh (hb.alloc (.cells (lkA y) 94))
 have HE:=zh ((Ext.refl w).alloc' (.cells (lkA y) 94))
 have c0:(w.alloc (.cells (lkA y) 94)).cell? ⟨gf,0,none⟩=some (.func (.func 155) #[] #[]):=(hf.alloc _).cell 0
 have r0:(w.alloc (.cells (lkA y) 94)).rangeAt w.heap.size 0 (RowT.enc y):=aD HB.out
 have r1:(w.alloc (.cells (lkA y) 94)).rangeAt g 0 (RowT.enc x):=aD HC.out
 have HQ:=zh (vO y.nm x.nm)
 have HM:=zh (fun W=>aAF y x W)
 have eg:∀ args w,(callFunc 155 args).run Tryz.prog w=.ok (.enter 155 args) w:=fun _ _=>by kernel_rfl
 clear hb hf
 obtain ⟨v0,hv0⟩:∃ v,Value.agg (lkA y)=v:=⟨_,rfl⟩
 obtain ⟨v1,hv1⟩:∃ v,Value.agg (lkA x)=v:=⟨_,rfl⟩
 have HV0:=zh hv0
 have HV1:=zh hv1
 rw [hv0,hv1] at HM
 clear hv0 hv1
 go_enter Tryz.func216,Tryz.ntmps216
 go_wp2_with (first | (with_reducible refine aB lkP rfl (.tmp 3) rfl w.heap.size 0 rfl y v0 HV0.out r0 ?_) | (with_reducible refine aB lkP rfl (.tmp 2) rfl g 0 rfl x v1 HV1.out r1 ?_))
 refine (HM.out _).mono ?_
 rintro e w5 ⟨rfl,he5⟩
 have HX:=zh (HE.out.trans he5)
 clear he5 c0 r0 r1
 go_wp2_with fail
 go_ret
 exact ⟨by rw [← HQ.out];rfl,HX.out⟩
theorem aAK (A:Option Addr) (n c:Nat) (L:List LkR) (x:LkR) (w:World) (h:SlG w A n c L):Calls Tryz.prog 154 #[.slice A n c,.agg (lkA x),.func (.func 155) #[] #[]] w fun e w'=>∃ k:Nat,e=.returned (.int .i64 (k:Int))∧k≤n∧eB (fun y=>decide (un x.nm < un y.nm)) x L=L.take k ++ x :: L.drop k∧Ext w w':=by
 obtain ⟨W,hW⟩:∃ W,((w.alloc (.cells (lkA x) 94)).alloc (.cells #[.func (.func 155) #[] #[]] 172))=W:=⟨_,rfl⟩
 have HB:=zh (show Blk W w.heap.size 94 (lkA x) from by rw [← hW];exact (Blk.new w 94 (lkA x)).alloc _)
 have HC:=zh (show Blk W (w.heap.size+1) 172 #[.func (.func 155) #[] #[]] from by rw [← hW];exact Blk.newAt _ _ _ _ (by simp))
 have HE:=zh (show Ext w W from by rw [← hW];exact ((Ext.refl w).alloc' _).alloc' _)
 have HF:=zh (show Says lkA 216 #[.pointer (some ⟨w.heap.size+1,0,none⟩),.pointer (some ⟨w.heap.size,0,none⟩)] (fun y=>decide (un x.nm < un y.nm)) W from ⟨fun _ _=>by kernel_rfl,fun y W2 hE2 _=>xF x y _ _ W2 (HC.out.ext hE2) (HB.out.ext hE2)⟩)
 have HLEN:=zh h.len
 have HS:=zh (h.ext HE.out)
 have hcap:=h.cap
 have hle:=h.le
 clear h
 have hcs:=iS (fun y=>decide (un x.nm < un y.nm)) L
 rw [HLEN.out] at hcs
 rcases hcs with hno | ⟨k,hk,h1,h2⟩
 ·have HI := zh (uY HF.out W A n c L HS.out (Ext.refl _) (-1) (.inl ⟨rfl, by rw [HLEN.out]; exact hno⟩))
  have HR:=zh (jA (fun y=>decide (un x.nm < un y.nm)) x L n (by rw [HLEN.out];exact Nat.le_refl _) (fun j hj hl=>by rw [cC hl];exact hno j hj) (fun hh=>absurd hh (by rw [HLEN.out];omega)))
  clear hno
  go_enter Tryz.func154,Tryz.ntmps154
  go_wp2_with fail
  refine HI.out.mono ?_
  rintro e w5 ⟨rfl,he5⟩
  have HX:=zh (HE.out.trans he5)
  clear he5 HI HF hW
  go_wp2_with fail
  go_ret
  exact ⟨n,rfl,Nat.le_refl _,HR.out,HX.out⟩
 have HI:=zh (uY HF.out W A n c L HS.out (Ext.refl _) (k:Int) (.inr ⟨k,rfl,by rw [HLEN.out];exact hk,h1,h2⟩))
 have HR:=zh (jA (fun y=>decide (un x.nm < un y.nm)) x L k (by rw [HLEN.out];omega) (fun j hj hl=>by rw [cC hl];exact h2 j hj) (fun hh=>by rw [cC hh];exact h1))
 clear h1 h2
 go_enter Tryz.func154,Tryz.ntmps154
 go_wp2_with fail
 refine HI.out.mono ?_
 rintro e w5 ⟨rfl,he5⟩
 have HX:=zh (HE.out.trans he5)
 clear he5 HI HF hW
 go_wp2_with fail
 go_ret
 exact ⟨k,rfl,Nat.le_of_lt hk,HR.out,HX.out⟩
theorem xE (x y:UInt64) (gf g:Nat) (w:World) (hf:Blk w gf 127 #[.func (.func 108) #[] #[]]) (hb:Blk w g 30 (nmc x)):Calls Tryz.prog 165 #[.agg (nmc y),.pointer (some ⟨gf,0,none⟩),.pointer (some ⟨g,0,none⟩)] w fun e w'=>e=.returned (.bool ((fun y=>decide (un x < un y)) y))∧Ext w w':=by
 have HB:=zh (Blk.new w 30 (nmc y))
 have HC:=zh (hb.alloc (.cells (nmc y) 30))
 have HE:=zh ((Ext.refl w).alloc' (.cells (nmc y) 30))
 have c0:(w.alloc (.cells (nmc y) 30)).cell? ⟨gf,0,none⟩=some (.func (.func 108) #[] #[]):=(hf.alloc _).cell 0
 have r0:(w.alloc (.cells (nmc y) 30)).rangeAt w.heap.size 0 (RowT.enc y):=bM HB.out
 have r1:(w.alloc (.cells (nmc y) 30)).rangeAt g 0 (RowT.enc x):=bM HC.out
 have HQ:=zh (vO y x)
 have HM:=zh (fun W=>compareNames_any y x W)
 have eg:∀ args w,(callFunc 108 args).run Tryz.prog w=.ok (.enter 108 args) w:=fun _ _=>by kernel_rfl
 clear hb hf
 obtain ⟨v0,hv0⟩:∃ v,Value.agg (nmc y)=v:=⟨_,rfl⟩
 obtain ⟨v1,hv1⟩:∃ v,Value.agg (nmc x)=v:=⟨_,rfl⟩
 have HV0:=zh hv0
 have HV1:=zh hv1
 rw [hv0,hv1] at HM
 clear hv0 hv1
 go_enter Tryz.func165,Tryz.ntmps165
 go_wp2_with (first | (with_reducible refine aB nmP rfl (.tmp 3) rfl w.heap.size 0 rfl y v0 HV0.out r0 ?_) | (with_reducible refine aB nmP rfl (.tmp 2) rfl g 0 rfl x v1 HV1.out r1 ?_))
 refine (HM.out _).mono ?_
 rintro e w5 ⟨rfl,he5⟩
 have HX:=zh (HE.out.trans he5)
 clear he5 c0 r0 r1
 go_wp2_with fail
 go_ret
 exact ⟨by rw [← HQ.out];rfl,HX.out⟩
theorem aAJ (A:Option Addr) (n c:Nat) (L:List UInt64) (x:UInt64) (w:World) (h:SlG w A n c L):Calls Tryz.prog 107 #[.slice A n c,.agg (nmc x),.func (.func 108) #[] #[]] w fun e w'=>∃ k:Nat,e=.returned (.int .i64 (k:Int))∧k≤n∧eB (fun y=>decide (un x < un y)) x L=L.take k ++ x :: L.drop k∧Ext w w':=by
 obtain ⟨W,hW⟩:∃ W,((w.alloc (.cells (nmc x) 30)).alloc (.cells #[.func (.func 108) #[] #[]] 127))=W:=⟨_,rfl⟩
 have HB:=zh (show Blk W w.heap.size 30 (nmc x) from by rw [← hW];exact (Blk.new w 30 (nmc x)).alloc _)
 have HC:=zh (show Blk W (w.heap.size+1) 127 #[.func (.func 108) #[] #[]] from by rw [← hW];exact Blk.newAt _ _ _ _ (by simp))
 have HE:=zh (show Ext w W from by rw [← hW];exact ((Ext.refl w).alloc' _).alloc' _)
 have HF:=zh (show Says nmc 165 #[.pointer (some ⟨w.heap.size+1,0,none⟩),.pointer (some ⟨w.heap.size,0,none⟩)] (fun y=>decide (un x < un y)) W from ⟨fun _ _=>by kernel_rfl,fun y W2 hE2 _=>xE x y _ _ W2 (HC.out.ext hE2) (HB.out.ext hE2)⟩)
 have HLEN:=zh h.len
 have HS:=zh (h.ext HE.out)
 have hcap:=h.cap
 have hle:=h.le
 clear h
 have hcs:=iS (fun y=>decide (un x < un y)) L
 rw [HLEN.out] at hcs
 rcases hcs with hno | ⟨k,hk,h1,h2⟩
 ·have HI := zh (aBO HF.out W A n c L HS.out (Ext.refl _) (-1) (.inl ⟨rfl, by rw [HLEN.out]; exact hno⟩))
  have HR:=zh (jA (fun y=>decide (un x < un y)) x L n (by rw [HLEN.out];exact Nat.le_refl _) (fun j hj hl=>by rw [cC hl];exact hno j hj) (fun hh=>absurd hh (by rw [HLEN.out];omega)))
  clear hno
  go_enter Tryz.func107,Tryz.ntmps107
  go_wp2_with fail
  refine HI.out.mono ?_
  rintro e w5 ⟨rfl,he5⟩
  have HX:=zh (HE.out.trans he5)
  clear he5 HI HF hW
  go_wp2_with fail
  go_ret
  exact ⟨n,rfl,Nat.le_refl _,HR.out,HX.out⟩
 have HI:=zh (aBO HF.out W A n c L HS.out (Ext.refl _) (k:Int) (.inr ⟨k,rfl,by rw [HLEN.out];exact hk,h1,h2⟩))
 have HR:=zh (jA (fun y=>decide (un x < un y)) x L k (by rw [HLEN.out];omega) (fun j hj hl=>by rw [cC hl];exact h2 j hj) (fun hh=>by rw [cC hh];exact h1))
 clear h1 h2
 go_enter Tryz.func107,Tryz.ntmps107
 go_wp2_with fail
 refine HI.out.mono ?_
 rintro e w5 ⟨rfl,he5⟩
 have HX:=zh (HE.out.trans he5)
 clear he5 HI HF hW
 go_wp2_with fail
 go_ret
 exact ⟨k,rfl,Nat.le_of_lt hk,HR.out,HX.out⟩
end
end Go.Proofs.YtohmmcahpakokaaGreat
