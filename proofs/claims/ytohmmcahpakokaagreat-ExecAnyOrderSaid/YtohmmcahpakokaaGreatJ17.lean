/- ValidOp (the reference's) kinds 4 tO 6, and all. -/
import Derived.Test.YtohmmcahpakokaaGreatJ13
set_option maxRecDepth 100000
set_option maxHeartbeats 8000000
set_option linter.unusedVariables false
set_option linter.unusedSimpArgs false
namespace Go.Proofs.YtohmmcahpakokaaGreat
section
open Go.RowKit
attribute [local go_sem ↓] Go.wp_at_zero Go.wp_at_succ
theorem zL (tO am ul va:Int) (lk hs:UInt64) (A1:Option Addr) (n1 c1:Nat) (pre:List UInt8) (A2:Option Addr) (n2 c2:Nat) (prf:List UInt8) (w:World) (l1:(n1:Int)≤9223372036854775807) (l2:(n2:Int)≤9223372036854775807) :
  Calls Tryz.prog 85 #[.agg (opA ⟨4,tO,am,ul,va,lk,hs,A1,n1,c1,pre,A2,n2,c2,prf⟩)] w fun e w'=>e=.returned (.bool (vOp ⟨4,tO,am,ul,va,lk,hs,A1,n1,c1,pre,A2,n2,c2,prf⟩))∧Ext w w':=by
 have HE:=zh ((Ext.refl w).alloc' (.cells (opA ⟨4,tO,am,ul,va,lk,hs,A1,n1,c1,pre,A2,n2,c2,prf⟩) 69))
 have HK:=zh (fun W=>eG 4 1 6 (by omega) W)
 have HV:=zh (show vOp ⟨4,tO,am,ul,va,lk,hs,A1,n1,c1,pre,A2,n2,c2,prf⟩=(aQ true tO 0 15 && (aQ true am 1 1099511627776 && (aQ false ul 1 1000 && (aQ false va 0 9 && (aQ false (n1:Int) 0 32 && (aQ false (n2:Int) 1 2000 && (decide (hs=(0:UInt64)) && true))))))) from rfl)
 cases e0:aQ true tO 0 15 with
 | false =>
  rw [e0] at HV
  have H0:=zh (fun W=>aN tO 0 15 W)
  rw [show dA tO 0 15=false from e0] at H0
  clear e0
  have HV:=zh (show vOp _=false from by rw [HV.out];simp)
  go_enter Tryz.func85,Tryz.ntmps85
  go_wp2_with ((go_at_call 73;(first | (with_reducible refine (HK.out _).mono ?_) | (with_reducible refine (H0.out _).mono ?_));rintro e wv ⟨rfl,rfl⟩))
  go_ret
  exact ⟨by rw [HV.out];rfl,HE.out⟩
 | true =>
  rw [e0] at HV
  have H0:=zh (fun W=>aN tO 0 15 W)
  rw [show dA tO 0 15=true from e0] at H0
  clear e0
  cases e1:aQ true am 1 1099511627776 with
  | false =>
   rw [e1] at HV
   have H1:=zh (fun W=>aN am 1 1099511627776 W)
   rw [show dA am 1 1099511627776=false from e1] at H1
   clear e1
   have HV:=zh (show vOp _=false from by rw [HV.out];simp)
   go_enter Tryz.func85,Tryz.ntmps85
   go_wp2_with ((go_at_call 73;(first | (with_reducible refine (HK.out _).mono ?_) | (with_reducible refine (H0.out _).mono ?_) | (with_reducible refine (H1.out _).mono ?_));rintro e wv ⟨rfl,rfl⟩))
   go_ret
   exact ⟨by rw [HV.out];rfl,HE.out⟩
  | true =>
   rw [e1] at HV
   have H1:=zh (fun W=>aN am 1 1099511627776 W)
   rw [show dA am 1 1099511627776=true from e1] at H1
   clear e1
   cases e2:aQ false ul 1 1000 with
   | false =>
    rw [e2] at HV
    have z2:decide (ul=0)=false:=e2
    have y2:(ul == 0)=false:=by rw [← z2];exact (by rw [Bool.eq_iff_iff];simp)
    have x2:(ul != 0)=true:=by rw [bne,y2];rfl
    clear e2
    have HV:=zh (show vOp _=false from by rw [HV.out];simp)
    go_enter Tryz.func85,Tryz.ntmps85
    go_wp2_with ((go_at_call 73;(first | (with_reducible refine (HK.out _).mono ?_) | (with_reducible refine (H0.out _).mono ?_) | (with_reducible refine (H1.out _).mono ?_));rintro e wv ⟨rfl,rfl⟩))
    go_ret
    exact ⟨by rw [HV.out];rfl,HE.out⟩
   | true =>
    rw [e2] at HV
    have z2:decide (ul=0)=true:=e2
    have y2:(ul == 0)=true:=by rw [← z2];exact (by rw [Bool.eq_iff_iff];simp)
    have x2:(ul != 0)=false:=by rw [bne,y2];rfl
    clear e2
    cases e3:aQ false va 0 9 with
    | false =>
     rw [e3] at HV
     have z3:decide (va=0)=false:=e3
     have y3:(va == 0)=false:=by rw [← z3];exact (by rw [Bool.eq_iff_iff];simp)
     have x3:(va != 0)=true:=by rw [bne,y3];rfl
     clear e3
     have HV:=zh (show vOp _=false from by rw [HV.out];simp)
     go_enter Tryz.func85,Tryz.ntmps85
     go_wp2_with ((go_at_call 73;(first | (with_reducible refine (HK.out _).mono ?_) | (with_reducible refine (H0.out _).mono ?_) | (with_reducible refine (H1.out _).mono ?_));rintro e wv ⟨rfl,rfl⟩))
     go_ret
     exact ⟨by rw [HV.out];rfl,HE.out⟩
    | true =>
     rw [e3] at HV
     have z3:decide (va=0)=true:=e3
     have y3:(va == 0)=true:=by rw [← z3];exact (by rw [Bool.eq_iff_iff];simp)
     have x3:(va != 0)=false:=by rw [bne,y3];rfl
     clear e3
     cases e5:decide (hs=(0:UInt64)) with
     | false =>
      rw [e5] at HV
      have q5:=fun W=>cU hs 0 W
      rw [e5,aV] at q5
      clear e5
      have HV:=zh (show vOp _=false from by rw [HV.out];simp)
      go_enter Tryz.func85,Tryz.ntmps85
      go_wp2_with ((go_at_call 73;(first | (with_reducible refine (HK.out _).mono ?_) | (with_reducible refine (H0.out _).mono ?_) | (with_reducible refine (H1.out _).mono ?_));rintro e wv ⟨rfl,rfl⟩))
      go_ret
      exact ⟨by rw [HV.out];rfl,HE.out⟩
     | true =>
      rw [e5] at HV
      have q5:=fun W=>cU hs 0 W
      rw [e5,aV] at q5
      clear e5
      cases e6:aQ false (n1:Int) 0 32 with
      | false =>
       rw [e6] at HV
       have x6:decide ((0:Int) < (n1:Int))=true:=by unfold aQ at e6;simp at e6 ⊢;omega
       have x6n:decide (0 < n1)=true:=by unfold aQ at e6;simp at e6 ⊢;omega
       clear e6
       have HV:=zh (show vOp _=false from by rw [HV.out];simp)
       go_enter Tryz.func85,Tryz.ntmps85
       go_wp2_with ((go_at_call 73;(first | (with_reducible refine (HK.out _).mono ?_) | (with_reducible refine (H0.out _).mono ?_) | (with_reducible refine (H1.out _).mono ?_));rintro e wv ⟨rfl,rfl⟩))
       go_ret
       exact ⟨by rw [HV.out];rfl,HE.out⟩
      | true =>
       rw [e6] at HV
       have x6:decide ((0:Int) < (n1:Int))=false:=by unfold aQ at e6;simp at e6 ⊢;omega
       have x6n:decide (0 < n1)=false:=by unfold aQ at e6;simp at e6 ⊢;omega
       clear e6
       cases e7:aQ false (n2:Int) 1 2000 with
       | false =>
        rw [e7] at HV
        have z7:decide ((n2:Int)=0)=false:=e7
        have y7:((n2:Int) == 0)=false:=by rw [← z7];exact (by rw [Bool.eq_iff_iff];simp)
        have x7:((n2:Int) != 0)=true:=by rw [bne,y7];rfl
        clear e7
        have HV:=zh (show vOp _=false from by rw [HV.out];simp)
        go_enter Tryz.func85,Tryz.ntmps85
        go_wp2_with ((go_at_call 73;(first | (with_reducible refine (HK.out _).mono ?_) | (with_reducible refine (H0.out _).mono ?_) | (with_reducible refine (H1.out _).mono ?_));rintro e wv ⟨rfl,rfl⟩))
        go_ret
        exact ⟨by rw [HV.out];rfl,HE.out⟩
       | true =>
        rw [e7] at HV
        have z7:decide ((n2:Int)=0)=true:=e7
        have y7:((n2:Int) == 0)=true:=by rw [← z7];exact (by rw [Bool.eq_iff_iff];simp)
        have x7:((n2:Int) != 0)=false:=by rw [bne,y7];rfl
        clear e7
        have HV:=zh (show vOp _=true from by rw [HV.out];simp)
        go_enter Tryz.func85,Tryz.ntmps85
        go_wp2_with ((go_at_call 73;(first | (with_reducible refine (HK.out _).mono ?_) | (with_reducible refine (H0.out _).mono ?_) | (with_reducible refine (H1.out _).mono ?_));rintro e wv ⟨rfl,rfl⟩))
        go_ret
        exact ⟨by rw [HV.out];rfl,HE.out⟩
theorem zK (tO am ul va:Int) (lk hs:UInt64) (A1:Option Addr) (n1 c1:Nat) (pre:List UInt8) (A2:Option Addr) (n2 c2:Nat) (prf:List UInt8) (w:World) (l1:(n1:Int)≤9223372036854775807) (l2:(n2:Int)≤9223372036854775807) :
  Calls Tryz.prog 85 #[.agg (opA ⟨5,tO,am,ul,va,lk,hs,A1,n1,c1,pre,A2,n2,c2,prf⟩)] w fun e w'=>e=.returned (.bool (vOp ⟨5,tO,am,ul,va,lk,hs,A1,n1,c1,pre,A2,n2,c2,prf⟩))∧Ext w w':=by
 have HE:=zh ((Ext.refl w).alloc' (.cells (opA ⟨5,tO,am,ul,va,lk,hs,A1,n1,c1,pre,A2,n2,c2,prf⟩) 69))
 have HK:=zh (fun W=>eG 5 1 6 (by omega) W)
 have HV:=zh (show vOp ⟨5,tO,am,ul,va,lk,hs,A1,n1,c1,pre,A2,n2,c2,prf⟩=(aQ false tO 0 15 && (aQ true am 1 1099511627776 && (aQ false ul 1 1000 && (aQ true va 0 9 && (aQ false (n1:Int) 0 32 && (aQ false (n2:Int) 1 2000 && (decide (hs=(0:UInt64)) && decide (lk=(0:UInt64))))))))) from rfl)
 cases e0:aQ false tO 0 15 with
 | false =>
  rw [e0] at HV
  have z0:decide (tO=0)=false:=e0
  have y0:(tO == 0)=false:=by rw [← z0];exact (by rw [Bool.eq_iff_iff];simp)
  have x0:(tO != 0)=true:=by rw [bne,y0];rfl
  clear e0
  have HV:=zh (show vOp _=false from by rw [HV.out];simp)
  go_enter Tryz.func85,Tryz.ntmps85
  go_wp2_with ((go_at_call 73;(first | (with_reducible refine (HK.out _).mono ?_));rintro e wv ⟨rfl,rfl⟩))
  go_ret
  exact ⟨by rw [HV.out];rfl,HE.out⟩
 | true =>
  rw [e0] at HV
  have z0:decide (tO=0)=true:=e0
  have y0:(tO == 0)=true:=by rw [← z0];exact (by rw [Bool.eq_iff_iff];simp)
  have x0:(tO != 0)=false:=by rw [bne,y0];rfl
  clear e0
  cases e1:aQ true am 1 1099511627776 with
  | false =>
   rw [e1] at HV
   have H1:=zh (fun W=>aN am 1 1099511627776 W)
   rw [show dA am 1 1099511627776=false from e1] at H1
   clear e1
   have HV:=zh (show vOp _=false from by rw [HV.out];simp)
   go_enter Tryz.func85,Tryz.ntmps85
   go_wp2_with ((go_at_call 73;(first | (with_reducible refine (HK.out _).mono ?_) | (with_reducible refine (H1.out _).mono ?_));rintro e wv ⟨rfl,rfl⟩))
   go_ret
   exact ⟨by rw [HV.out];rfl,HE.out⟩
  | true =>
   rw [e1] at HV
   have H1:=zh (fun W=>aN am 1 1099511627776 W)
   rw [show dA am 1 1099511627776=true from e1] at H1
   clear e1
   cases e2:aQ false ul 1 1000 with
   | false =>
    rw [e2] at HV
    have z2:decide (ul=0)=false:=e2
    have y2:(ul == 0)=false:=by rw [← z2];exact (by rw [Bool.eq_iff_iff];simp)
    have x2:(ul != 0)=true:=by rw [bne,y2];rfl
    clear e2
    have HV:=zh (show vOp _=false from by rw [HV.out];simp)
    go_enter Tryz.func85,Tryz.ntmps85
    go_wp2_with ((go_at_call 73;(first | (with_reducible refine (HK.out _).mono ?_) | (with_reducible refine (H1.out _).mono ?_));rintro e wv ⟨rfl,rfl⟩))
    go_ret
    exact ⟨by rw [HV.out];rfl,HE.out⟩
   | true =>
    rw [e2] at HV
    have z2:decide (ul=0)=true:=e2
    have y2:(ul == 0)=true:=by rw [← z2];exact (by rw [Bool.eq_iff_iff];simp)
    have x2:(ul != 0)=false:=by rw [bne,y2];rfl
    clear e2
    cases e3:aQ true va 0 9 with
    | false =>
     rw [e3] at HV
     have H3:=zh (fun W=>aN va 0 9 W)
     rw [show dA va 0 9=false from e3] at H3
     clear e3
     have HV:=zh (show vOp _=false from by rw [HV.out];simp)
     go_enter Tryz.func85,Tryz.ntmps85
     go_wp2_with ((go_at_call 73;(first | (with_reducible refine (HK.out _).mono ?_) | (with_reducible refine (H1.out _).mono ?_) | (with_reducible refine (H3.out _).mono ?_));rintro e wv ⟨rfl,rfl⟩))
     go_ret
     exact ⟨by rw [HV.out];rfl,HE.out⟩
    | true =>
     rw [e3] at HV
     have H3:=zh (fun W=>aN va 0 9 W)
     rw [show dA va 0 9=true from e3] at H3
     clear e3
     cases e4:decide (lk=(0:UInt64)) with
     | false =>
      rw [e4] at HV
      have q4:=fun W=>cU lk 0 W
      rw [e4,aV] at q4
      clear e4
      have HV:=zh (show vOp _=false from by rw [HV.out];simp)
      go_enter Tryz.func85,Tryz.ntmps85
      go_wp2_with ((go_at_call 73;(first | (with_reducible refine (HK.out _).mono ?_) | (with_reducible refine (H1.out _).mono ?_) | (with_reducible refine (H3.out _).mono ?_));rintro e wv ⟨rfl,rfl⟩))
      go_ret
      exact ⟨by rw [HV.out];rfl,HE.out⟩
     | true =>
      rw [e4] at HV
      have q4:=fun W=>cU lk 0 W
      rw [e4,aV] at q4
      clear e4
      cases e5:decide (hs=(0:UInt64)) with
      | false =>
       rw [e5] at HV
       have q5:=fun W=>cU hs 0 W
       rw [e5,aV] at q5
       clear e5
       have HV:=zh (show vOp _=false from by rw [HV.out];simp)
       go_enter Tryz.func85,Tryz.ntmps85
       go_wp2_with ((go_at_call 73;(first | (with_reducible refine (HK.out _).mono ?_) | (with_reducible refine (H1.out _).mono ?_) | (with_reducible refine (H3.out _).mono ?_));rintro e wv ⟨rfl,rfl⟩))
       go_ret
       exact ⟨by rw [HV.out];rfl,HE.out⟩
      | true =>
       rw [e5] at HV
       have q5:=fun W=>cU hs 0 W
       rw [e5,aV] at q5
       clear e5
       cases e6:aQ false (n1:Int) 0 32 with
       | false =>
        rw [e6] at HV
        have x6:decide ((0:Int) < (n1:Int))=true:=by unfold aQ at e6;simp at e6 ⊢;omega
        have x6n:decide (0 < n1)=true:=by unfold aQ at e6;simp at e6 ⊢;omega
        clear e6
        have HV:=zh (show vOp _=false from by rw [HV.out];simp)
        go_enter Tryz.func85,Tryz.ntmps85
        go_wp2_with ((go_at_call 73;(first | (with_reducible refine (HK.out _).mono ?_) | (with_reducible refine (H1.out _).mono ?_) | (with_reducible refine (H3.out _).mono ?_));rintro e wv ⟨rfl,rfl⟩))
        go_ret
        exact ⟨by rw [HV.out];rfl,HE.out⟩
       | true =>
        rw [e6] at HV
        have x6:decide ((0:Int) < (n1:Int))=false:=by unfold aQ at e6;simp at e6 ⊢;omega
        have x6n:decide (0 < n1)=false:=by unfold aQ at e6;simp at e6 ⊢;omega
        clear e6
        cases e7:aQ false (n2:Int) 1 2000 with
        | false =>
         rw [e7] at HV
         have z7:decide ((n2:Int)=0)=false:=e7
         have y7:((n2:Int) == 0)=false:=by rw [← z7];exact (by rw [Bool.eq_iff_iff];simp)
         have x7:((n2:Int) != 0)=true:=by rw [bne,y7];rfl
         clear e7
         have HV:=zh (show vOp _=false from by rw [HV.out];simp)
         go_enter Tryz.func85,Tryz.ntmps85
         go_wp2_with ((go_at_call 73;(first | (with_reducible refine (HK.out _).mono ?_) | (with_reducible refine (H1.out _).mono ?_) | (with_reducible refine (H3.out _).mono ?_));rintro e wv ⟨rfl,rfl⟩))
         go_ret
         exact ⟨by rw [HV.out];rfl,HE.out⟩
        | true =>
         rw [e7] at HV
         have z7:decide ((n2:Int)=0)=true:=e7
         have y7:((n2:Int) == 0)=true:=by rw [← z7];exact (by rw [Bool.eq_iff_iff];simp)
         have x7:((n2:Int) != 0)=false:=by rw [bne,y7];rfl
         clear e7
         have HV:=zh (show vOp _=true from by rw [HV.out];simp)
         go_enter Tryz.func85,Tryz.ntmps85
         go_wp2_with ((go_at_call 73;(first | (with_reducible refine (HK.out _).mono ?_) | (with_reducible refine (H1.out _).mono ?_) | (with_reducible refine (H3.out _).mono ?_));rintro e wv ⟨rfl,rfl⟩))
         go_ret
         exact ⟨by rw [HV.out];rfl,HE.out⟩
theorem zJ (tO am ul va:Int) (lk hs:UInt64) (A1:Option Addr) (n1 c1:Nat) (pre:List UInt8) (A2:Option Addr) (n2 c2:Nat) (prf:List UInt8) (w:World) (l1:(n1:Int)≤9223372036854775807) (l2:(n2:Int)≤9223372036854775807) :
  Calls Tryz.prog 85 #[.agg (opA ⟨6,tO,am,ul,va,lk,hs,A1,n1,c1,pre,A2,n2,c2,prf⟩)] w fun e w'=>e=.returned (.bool (vOp ⟨6,tO,am,ul,va,lk,hs,A1,n1,c1,pre,A2,n2,c2,prf⟩))∧Ext w w':=by
 have HE:=zh ((Ext.refl w).alloc' (.cells (opA ⟨6,tO,am,ul,va,lk,hs,A1,n1,c1,pre,A2,n2,c2,prf⟩) 69))
 have HK:=zh (fun W=>eG 6 1 6 (by omega) W)
 have HV:=zh (show vOp ⟨6,tO,am,ul,va,lk,hs,A1,n1,c1,pre,A2,n2,c2,prf⟩=(aQ false tO 0 15 && (aQ false am 1 1099511627776 && (aQ false ul 1 1000 && (aQ true va 0 9 && (aQ false (n1:Int) 0 32 && (aQ true (n2:Int) 1 2000 && (decide (hs=(0:UInt64)) && decide (lk=(0:UInt64))))))))) from rfl)
 cases e0:aQ false tO 0 15 with
 | false =>
  rw [e0] at HV
  have z0:decide (tO=0)=false:=e0
  have y0:(tO == 0)=false:=by rw [← z0];exact (by rw [Bool.eq_iff_iff];simp)
  have x0:(tO != 0)=true:=by rw [bne,y0];rfl
  clear e0
  have HV:=zh (show vOp _=false from by rw [HV.out];simp)
  go_enter Tryz.func85,Tryz.ntmps85
  go_wp2_with ((go_at_call 73;(first | (with_reducible refine (HK.out _).mono ?_));rintro e wv ⟨rfl,rfl⟩))
  go_ret
  exact ⟨by rw [HV.out];rfl,HE.out⟩
 | true =>
  rw [e0] at HV
  have z0:decide (tO=0)=true:=e0
  have y0:(tO == 0)=true:=by rw [← z0];exact (by rw [Bool.eq_iff_iff];simp)
  have x0:(tO != 0)=false:=by rw [bne,y0];rfl
  clear e0
  cases e1:aQ false am 1 1099511627776 with
  | false =>
   rw [e1] at HV
   have z1:decide (am=0)=false:=e1
   have y1:(am == 0)=false:=by rw [← z1];exact (by rw [Bool.eq_iff_iff];simp)
   have x1:(am != 0)=true:=by rw [bne,y1];rfl
   clear e1
   have HV:=zh (show vOp _=false from by rw [HV.out];simp)
   go_enter Tryz.func85,Tryz.ntmps85
   go_wp2_with ((go_at_call 73;(first | (with_reducible refine (HK.out _).mono ?_));rintro e wv ⟨rfl,rfl⟩))
   go_ret
   exact ⟨by rw [HV.out];rfl,HE.out⟩
  | true =>
   rw [e1] at HV
   have z1:decide (am=0)=true:=e1
   have y1:(am == 0)=true:=by rw [← z1];exact (by rw [Bool.eq_iff_iff];simp)
   have x1:(am != 0)=false:=by rw [bne,y1];rfl
   clear e1
   cases e2:aQ false ul 1 1000 with
   | false =>
    rw [e2] at HV
    have z2:decide (ul=0)=false:=e2
    have y2:(ul == 0)=false:=by rw [← z2];exact (by rw [Bool.eq_iff_iff];simp)
    have x2:(ul != 0)=true:=by rw [bne,y2];rfl
    clear e2
    have HV:=zh (show vOp _=false from by rw [HV.out];simp)
    go_enter Tryz.func85,Tryz.ntmps85
    go_wp2_with ((go_at_call 73;(first | (with_reducible refine (HK.out _).mono ?_));rintro e wv ⟨rfl,rfl⟩))
    go_ret
    exact ⟨by rw [HV.out];rfl,HE.out⟩
   | true =>
    rw [e2] at HV
    have z2:decide (ul=0)=true:=e2
    have y2:(ul == 0)=true:=by rw [← z2];exact (by rw [Bool.eq_iff_iff];simp)
    have x2:(ul != 0)=false:=by rw [bne,y2];rfl
    clear e2
    cases e3:aQ true va 0 9 with
    | false =>
     rw [e3] at HV
     have H3:=zh (fun W=>aN va 0 9 W)
     rw [show dA va 0 9=false from e3] at H3
     clear e3
     have HV:=zh (show vOp _=false from by rw [HV.out];simp)
     go_enter Tryz.func85,Tryz.ntmps85
     go_wp2_with ((go_at_call 73;(first | (with_reducible refine (HK.out _).mono ?_) | (with_reducible refine (H3.out _).mono ?_));rintro e wv ⟨rfl,rfl⟩))
     go_ret
     exact ⟨by rw [HV.out];rfl,HE.out⟩
    | true =>
     rw [e3] at HV
     have H3:=zh (fun W=>aN va 0 9 W)
     rw [show dA va 0 9=true from e3] at H3
     clear e3
     cases e4:decide (lk=(0:UInt64)) with
     | false =>
      rw [e4] at HV
      have q4:=fun W=>cU lk 0 W
      rw [e4,aV] at q4
      clear e4
      have HV:=zh (show vOp _=false from by rw [HV.out];simp)
      go_enter Tryz.func85,Tryz.ntmps85
      go_wp2_with ((go_at_call 73;(first | (with_reducible refine (HK.out _).mono ?_) | (with_reducible refine (H3.out _).mono ?_));rintro e wv ⟨rfl,rfl⟩))
      go_ret
      exact ⟨by rw [HV.out];rfl,HE.out⟩
     | true =>
      rw [e4] at HV
      have q4:=fun W=>cU lk 0 W
      rw [e4,aV] at q4
      clear e4
      cases e5:decide (hs=(0:UInt64)) with
      | false =>
       rw [e5] at HV
       have q5:=fun W=>cU hs 0 W
       rw [e5,aV] at q5
       clear e5
       have HV:=zh (show vOp _=false from by rw [HV.out];simp)
       go_enter Tryz.func85,Tryz.ntmps85
       go_wp2_with ((go_at_call 73;(first | (with_reducible refine (HK.out _).mono ?_) | (with_reducible refine (H3.out _).mono ?_));rintro e wv ⟨rfl,rfl⟩))
       go_ret
       exact ⟨by rw [HV.out];rfl,HE.out⟩
      | true =>
       rw [e5] at HV
       have q5:=fun W=>cU hs 0 W
       rw [e5,aV] at q5
       clear e5
       cases e6:aQ false (n1:Int) 0 32 with
       | false =>
        rw [e6] at HV
        have x6:decide ((0:Int) < (n1:Int))=true:=by unfold aQ at e6;simp at e6 ⊢;omega
        have x6n:decide (0 < n1)=true:=by unfold aQ at e6;simp at e6 ⊢;omega
        clear e6
        have HV:=zh (show vOp _=false from by rw [HV.out];simp)
        go_enter Tryz.func85,Tryz.ntmps85
        go_wp2_with ((go_at_call 73;(first | (with_reducible refine (HK.out _).mono ?_) | (with_reducible refine (H3.out _).mono ?_));rintro e wv ⟨rfl,rfl⟩))
        go_ret
        exact ⟨by rw [HV.out];rfl,HE.out⟩
       | true =>
        rw [e6] at HV
        have x6:decide ((0:Int) < (n1:Int))=false:=by unfold aQ at e6;simp at e6 ⊢;omega
        have x6n:decide (0 < n1)=false:=by unfold aQ at e6;simp at e6 ⊢;omega
        clear e6
        cases e7:aQ true (n2:Int) 1 2000 with
        | false =>
         rw [e7] at HV
         have H7:=zh (fun W=>aN (n2:Int) 1 2000 W)
         rw [show dA (n2:Int) 1 2000=false from e7] at H7
         clear e7
         have HV:=zh (show vOp _=false from by rw [HV.out];simp)
         go_enter Tryz.func85,Tryz.ntmps85
         go_wp2_with ((go_at_call 73;(first | (with_reducible refine (HK.out _).mono ?_) | (with_reducible refine (H3.out _).mono ?_) | (with_reducible refine (H7.out _).mono ?_));rintro e wv ⟨rfl,rfl⟩))
         go_ret
         exact ⟨by rw [HV.out];rfl,HE.out⟩
        | true =>
         rw [e7] at HV
         have H7:=zh (fun W=>aN (n2:Int) 1 2000 W)
         rw [show dA (n2:Int) 1 2000=true from e7] at H7
         clear e7
         have HV:=zh (show vOp _=true from by rw [HV.out];simp)
         go_enter Tryz.func85,Tryz.ntmps85
         go_wp2_with ((go_at_call 73;(first | (with_reducible refine (HK.out _).mono ?_) | (with_reducible refine (H3.out _).mono ?_) | (with_reducible refine (H7.out _).mono ?_));rintro e wv ⟨rfl,rfl⟩))
         go_ret
         exact ⟨by rw [HV.out];rfl,HE.out⟩
end
end Go.Proofs.YtohmmcahpakokaaGreat
