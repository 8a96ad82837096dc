/- ValidOp (the reference's) kinds 4 tO 6, and all. -/
import Derived.Test.YtohmmcahpakokaaGreatG10
set_option maxRecDepth 100000
set_option maxHeartbeats 8000000
set_option linter.unusedVariables false
set_option linter.unusedSimpArgs false
namespace Go.Proofs.YtohmmcahpakokaaGreat
section
open Go.RowKit
attribute [local go_sem ↓] Go.wp_at_zero Go.wp_at_succ
theorem aAj (tO am ul va:Int) (lk hs:UInt64) (A1:Option Addr) (n1 c1:Nat) (pre:List UInt8) (A2:Option Addr) (n2 c2:Nat) (prf:List UInt8) (w:World) (l1:(n1:Int)≤9223372036854775807) (l2:(n2:Int)≤9223372036854775807) :
  Calls Tryz.prog 85 #[.agg (opA ⟨4,tO,am,ul,va,lk,hs,A1,n1,c1,pre,A2,n2,c2,prf⟩)] w fun e w'=>e=.returned (.bool (vOp ⟨4,tO,am,ul,va,lk,hs,A1,n1,c1,pre,A2,n2,c2,prf⟩))∧Ext w w':=by
 have HE:=zh ((Ext.refl w).alloc' (.cells (opA ⟨4,tO,am,ul,va,lk,hs,A1,n1,c1,pre,A2,n2,c2,prf⟩) 69))
 have HK:=zh (fun W=>eL 4 1 6 (by omega) W)
 have HV:=zh (show vOp ⟨4,tO,am,ul,va,lk,hs,A1,n1,c1,pre,A2,n2,c2,prf⟩=(aW true tO 0 15 && (aW true am 1 1099511627776 && (aW false ul 1 1000 && (aW false va 0 9 && (aW false (n1:Int) 0 32 && (aW false (n2:Int) 1 2000 && (decide (hs=(0:UInt64)) && true))))))) from rfl)
 cases e0:aW true tO 0 15 with
 | false =>
  rw [e0] at HV
  have H0:=zh (fun W=>aR tO 0 15 W)
  rw [show dH tO 0 15=false from e0] at H0
  clear e0
  have HV:=zh (show vOp _=false from by rw [HV.out];simp)
  go_enter Tryz.func85,Tryz.ntmps85
  go_wp2_with ((go_at_call 73;(first | (with_reducible refine (HK.out _).mono ?_) | (with_reducible refine (H0.out _).mono ?_));rintro e wv ⟨rfl,rfl⟩))
  go_ret
  exact ⟨by rw [HV.out];rfl,HE.out⟩
 | true =>
  rw [e0] at HV
  have H0:=zh (fun W=>aR tO 0 15 W)
  rw [show dH tO 0 15=true from e0] at H0
  clear e0
  cases e1:aW true am 1 1099511627776 with
  | false =>
   rw [e1] at HV
   have H1:=zh (fun W=>aR am 1 1099511627776 W)
   rw [show dH am 1 1099511627776=false from e1] at H1
   clear e1
   have HV:=zh (show vOp _=false from by rw [HV.out];simp)
   go_enter Tryz.func85,Tryz.ntmps85
   go_wp2_with ((go_at_call 73;(first | (with_reducible refine (HK.out _).mono ?_) | (with_reducible refine (H0.out _).mono ?_) | (with_reducible refine (H1.out _).mono ?_));rintro e wv ⟨rfl,rfl⟩))
   go_ret
   exact ⟨by rw [HV.out];rfl,HE.out⟩
  | true =>
   rw [e1] at HV
   have H1:=zh (fun W=>aR am 1 1099511627776 W)
   rw [show dH am 1 1099511627776=true from e1] at H1
   clear e1
   cases e2:aW false ul 1 1000 with
   | false =>
    rw [e2] at HV
    have z2:decide (ul=0)=false:=e2
    have y2:(ul == 0)=false:=by rw [← z2];exact (by rw [Bool.eq_iff_iff];simp)
    have x2:(ul != 0)=true:=by rw [bne,y2];rfl
    clear e2
    have HV:=zh (show vOp _=false from by rw [HV.out];simp)
    go_enter Tryz.func85,Tryz.ntmps85
    go_wp2_with ((go_at_call 73;(first | (with_reducible refine (HK.out _).mono ?_) | (with_reducible refine (H0.out _).mono ?_) | (with_reducible refine (H1.out _).mono ?_));rintro e wv ⟨rfl,rfl⟩))
    go_ret
    exact ⟨by rw [HV.out];rfl,HE.out⟩
   | true =>
    rw [e2] at HV
    have z2:decide (ul=0)=true:=e2
    have y2:(ul == 0)=true:=by rw [← z2];exact (by rw [Bool.eq_iff_iff];simp)
    have x2:(ul != 0)=false:=by rw [bne,y2];rfl
    clear e2
    cases e3:aW false va 0 9 with
    | false =>
     rw [e3] at HV
     have z3:decide (va=0)=false:=e3
     have y3:(va == 0)=false:=by rw [← z3];exact (by rw [Bool.eq_iff_iff];simp)
     have x3:(va != 0)=true:=by rw [bne,y3];rfl
     clear e3
     have HV:=zh (show vOp _=false from by rw [HV.out];simp)
     go_enter Tryz.func85,Tryz.ntmps85
     go_wp2_with ((go_at_call 73;(first | (with_reducible refine (HK.out _).mono ?_) | (with_reducible refine (H0.out _).mono ?_) | (with_reducible refine (H1.out _).mono ?_));rintro e wv ⟨rfl,rfl⟩))
     go_ret
     exact ⟨by rw [HV.out];rfl,HE.out⟩
    | true =>
     rw [e3] at HV
     have z3:decide (va=0)=true:=e3
     have y3:(va == 0)=true:=by rw [← z3];exact (by rw [Bool.eq_iff_iff];simp)
     have x3:(va != 0)=false:=by rw [bne,y3];rfl
     clear e3
     cases e5:decide (hs=(0:UInt64)) with
     | false =>
      rw [e5] at HV
      have q5:=fun W=>dB hs 0 W
      rw [e5,aU] at q5
      clear e5
      have HV:=zh (show vOp _=false from by rw [HV.out];simp)
      go_enter Tryz.func85,Tryz.ntmps85
      go_wp2_with ((go_at_call 73;(first | (with_reducible refine (HK.out _).mono ?_) | (with_reducible refine (H0.out _).mono ?_) | (with_reducible refine (H1.out _).mono ?_));rintro e wv ⟨rfl,rfl⟩))
      go_ret
      exact ⟨by rw [HV.out];rfl,HE.out⟩
     | true =>
      rw [e5] at HV
      have q5:=fun W=>dB hs 0 W
      rw [e5,aU] at q5
      clear e5
      cases e6:aW false (n1:Int) 0 32 with
      | false =>
       rw [e6] at HV
       have x6:decide ((0:Int) < (n1:Int))=true:=by unfold aW at e6;simp at e6 ⊢;omega
       have x6n:decide (0 < n1)=true:=by unfold aW at e6;simp at e6 ⊢;omega
       clear e6
       have HV:=zh (show vOp _=false from by rw [HV.out];simp)
       go_enter Tryz.func85,Tryz.ntmps85
       go_wp2_with ((go_at_call 73;(first | (with_reducible refine (HK.out _).mono ?_) | (with_reducible refine (H0.out _).mono ?_) | (with_reducible refine (H1.out _).mono ?_));rintro e wv ⟨rfl,rfl⟩))
       go_ret
       exact ⟨by rw [HV.out];rfl,HE.out⟩
      | true =>
       rw [e6] at HV
       have x6:decide ((0:Int) < (n1:Int))=false:=by unfold aW at e6;simp at e6 ⊢;omega
       have x6n:decide (0 < n1)=false:=by unfold aW at e6;simp at e6 ⊢;omega
       clear e6
       cases e7:aW false (n2:Int) 1 2000 with
       | false =>
        rw [e7] at HV
        have z7:decide ((n2:Int)=0)=false:=e7
        have y7:((n2:Int) == 0)=false:=by rw [← z7];exact (by rw [Bool.eq_iff_iff];simp)
        have x7:((n2:Int) != 0)=true:=by rw [bne,y7];rfl
        clear e7
        have HV:=zh (show vOp _=false from by rw [HV.out];simp)
        go_enter Tryz.func85,Tryz.ntmps85
        go_wp2_with ((go_at_call 73;(first | (with_reducible refine (HK.out _).mono ?_) | (with_reducible refine (H0.out _).mono ?_) | (with_reducible refine (H1.out _).mono ?_));rintro e wv ⟨rfl,rfl⟩))
        go_ret
        exact ⟨by rw [HV.out];rfl,HE.out⟩
       | true =>
        rw [e7] at HV
        have z7:decide ((n2:Int)=0)=true:=e7
        have y7:((n2:Int) == 0)=true:=by rw [← z7];exact (by rw [Bool.eq_iff_iff];simp)
        have x7:((n2:Int) != 0)=false:=by rw [bne,y7];rfl
        clear e7
        have HV:=zh (show vOp _=true from by rw [HV.out];simp)
        go_enter Tryz.func85,Tryz.ntmps85
        go_wp2_with ((go_at_call 73;(first | (with_reducible refine (HK.out _).mono ?_) | (with_reducible refine (H0.out _).mono ?_) | (with_reducible refine (H1.out _).mono ?_));rintro e wv ⟨rfl,rfl⟩))
        go_ret
        exact ⟨by rw [HV.out];rfl,HE.out⟩
theorem aAi (tO am ul va:Int) (lk hs:UInt64) (A1:Option Addr) (n1 c1:Nat) (pre:List UInt8) (A2:Option Addr) (n2 c2:Nat) (prf:List UInt8) (w:World) (l1:(n1:Int)≤9223372036854775807) (l2:(n2:Int)≤9223372036854775807) :
  Calls Tryz.prog 85 #[.agg (opA ⟨5,tO,am,ul,va,lk,hs,A1,n1,c1,pre,A2,n2,c2,prf⟩)] w fun e w'=>e=.returned (.bool (vOp ⟨5,tO,am,ul,va,lk,hs,A1,n1,c1,pre,A2,n2,c2,prf⟩))∧Ext w w':=by
 have HE:=zh ((Ext.refl w).alloc' (.cells (opA ⟨5,tO,am,ul,va,lk,hs,A1,n1,c1,pre,A2,n2,c2,prf⟩) 69))
 have HK:=zh (fun W=>eL 5 1 6 (by omega) W)
 have HV:=zh (show vOp ⟨5,tO,am,ul,va,lk,hs,A1,n1,c1,pre,A2,n2,c2,prf⟩=(aW false tO 0 15 && (aW true am 1 1099511627776 && (aW false ul 1 1000 && (aW true va 0 9 && (aW false (n1:Int) 0 32 && (aW false (n2:Int) 1 2000 && (decide (hs=(0:UInt64)) && decide (lk=(0:UInt64))))))))) from rfl)
 cases e0:aW false tO 0 15 with
 | false =>
  rw [e0] at HV
  have z0:decide (tO=0)=false:=e0
  have y0:(tO == 0)=false:=by rw [← z0];exact (by rw [Bool.eq_iff_iff];simp)
  have x0:(tO != 0)=true:=by rw [bne,y0];rfl
  clear e0
  have HV:=zh (show vOp _=false from by rw [HV.out];simp)
  go_enter Tryz.func85,Tryz.ntmps85
  go_wp2_with ((go_at_call 73;(first | (with_reducible refine (HK.out _).mono ?_));rintro e wv ⟨rfl,rfl⟩))
  go_ret
  exact ⟨by rw [HV.out];rfl,HE.out⟩
 | true =>
  rw [e0] at HV
  have z0:decide (tO=0)=true:=e0
  have y0:(tO == 0)=true:=by rw [← z0];exact (by rw [Bool.eq_iff_iff];simp)
  have x0:(tO != 0)=false:=by rw [bne,y0];rfl
  clear e0
  cases e1:aW true am 1 1099511627776 with
  | false =>
   rw [e1] at HV
   have H1:=zh (fun W=>aR am 1 1099511627776 W)
   rw [show dH am 1 1099511627776=false from e1] at H1
   clear e1
   have HV:=zh (show vOp _=false from by rw [HV.out];simp)
   go_enter Tryz.func85,Tryz.ntmps85
   go_wp2_with ((go_at_call 73;(first | (with_reducible refine (HK.out _).mono ?_) | (with_reducible refine (H1.out _).mono ?_));rintro e wv ⟨rfl,rfl⟩))
   go_ret
   exact ⟨by rw [HV.out];rfl,HE.out⟩
  | true =>
   rw [e1] at HV
   have H1:=zh (fun W=>aR am 1 1099511627776 W)
   rw [show dH am 1 1099511627776=true from e1] at H1
   clear e1
   cases e2:aW false ul 1 1000 with
   | false =>
    rw [e2] at HV
    have z2:decide (ul=0)=false:=e2
    have y2:(ul == 0)=false:=by rw [← z2];exact (by rw [Bool.eq_iff_iff];simp)
    have x2:(ul != 0)=true:=by rw [bne,y2];rfl
    clear e2
    have HV:=zh (show vOp _=false from by rw [HV.out];simp)
    go_enter Tryz.func85,Tryz.ntmps85
    go_wp2_with ((go_at_call 73;(first | (with_reducible refine (HK.out _).mono ?_) | (with_reducible refine (H1.out _).mono ?_));rintro e wv ⟨rfl,rfl⟩))
    go_ret
    exact ⟨by rw [HV.out];rfl,HE.out⟩
   | true =>
    rw [e2] at HV
    have z2:decide (ul=0)=true:=e2
    have y2:(ul == 0)=true:=by rw [← z2];exact (by rw [Bool.eq_iff_iff];simp)
    have x2:(ul != 0)=false:=by rw [bne,y2];rfl
    clear e2
    cases e3:aW true va 0 9 with
    | false =>
     rw [e3] at HV
     have H3:=zh (fun W=>aR va 0 9 W)
     rw [show dH va 0 9=false from e3] at H3
     clear e3
     have HV:=zh (show vOp _=false from by rw [HV.out];simp)
     go_enter Tryz.func85,Tryz.ntmps85
     go_wp2_with ((go_at_call 73;(first | (with_reducible refine (HK.out _).mono ?_) | (with_reducible refine (H1.out _).mono ?_) | (with_reducible refine (H3.out _).mono ?_));rintro e wv ⟨rfl,rfl⟩))
     go_ret
     exact ⟨by rw [HV.out];rfl,HE.out⟩
    | true =>
     rw [e3] at HV
     have H3:=zh (fun W=>aR va 0 9 W)
     rw [show dH va 0 9=true from e3] at H3
     clear e3
     cases e4:decide (lk=(0:UInt64)) with
     | false =>
      rw [e4] at HV
      have q4:=fun W=>dB lk 0 W
      rw [e4,aU] at q4
      clear e4
      have HV:=zh (show vOp _=false from by rw [HV.out];simp)
      go_enter Tryz.func85,Tryz.ntmps85
      go_wp2_with ((go_at_call 73;(first | (with_reducible refine (HK.out _).mono ?_) | (with_reducible refine (H1.out _).mono ?_) | (with_reducible refine (H3.out _).mono ?_));rintro e wv ⟨rfl,rfl⟩))
      go_ret
      exact ⟨by rw [HV.out];rfl,HE.out⟩
     | true =>
      rw [e4] at HV
      have q4:=fun W=>dB lk 0 W
      rw [e4,aU] at q4
      clear e4
      cases e5:decide (hs=(0:UInt64)) with
      | false =>
       rw [e5] at HV
       have q5:=fun W=>dB hs 0 W
       rw [e5,aU] at q5
       clear e5
       have HV:=zh (show vOp _=false from by rw [HV.out];simp)
       go_enter Tryz.func85,Tryz.ntmps85
       go_wp2_with ((go_at_call 73;(first | (with_reducible refine (HK.out _).mono ?_) | (with_reducible refine (H1.out _).mono ?_) | (with_reducible refine (H3.out _).mono ?_));rintro e wv ⟨rfl,rfl⟩))
       go_ret
       exact ⟨by rw [HV.out];rfl,HE.out⟩
      | true =>
       rw [e5] at HV
       have q5:=fun W=>dB hs 0 W
       rw [e5,aU] at q5
       clear e5
       cases e6:aW false (n1:Int) 0 32 with
       | false =>
        rw [e6] at HV
        have x6:decide ((0:Int) < (n1:Int))=true:=by unfold aW at e6;simp at e6 ⊢;omega
        have x6n:decide (0 < n1)=true:=by unfold aW at e6;simp at e6 ⊢;omega
        clear e6
        have HV:=zh (show vOp _=false from by rw [HV.out];simp)
        go_enter Tryz.func85,Tryz.ntmps85
        go_wp2_with ((go_at_call 73;(first | (with_reducible refine (HK.out _).mono ?_) | (with_reducible refine (H1.out _).mono ?_) | (with_reducible refine (H3.out _).mono ?_));rintro e wv ⟨rfl,rfl⟩))
        go_ret
        exact ⟨by rw [HV.out];rfl,HE.out⟩
       | true =>
        rw [e6] at HV
        have x6:decide ((0:Int) < (n1:Int))=false:=by unfold aW at e6;simp at e6 ⊢;omega
        have x6n:decide (0 < n1)=false:=by unfold aW at e6;simp at e6 ⊢;omega
        clear e6
        cases e7:aW false (n2:Int) 1 2000 with
        | false =>
         rw [e7] at HV
         have z7:decide ((n2:Int)=0)=false:=e7
         have y7:((n2:Int) == 0)=false:=by rw [← z7];exact (by rw [Bool.eq_iff_iff];simp)
         have x7:((n2:Int) != 0)=true:=by rw [bne,y7];rfl
         clear e7
         have HV:=zh (show vOp _=false from by rw [HV.out];simp)
         go_enter Tryz.func85,Tryz.ntmps85
         go_wp2_with ((go_at_call 73;(first | (with_reducible refine (HK.out _).mono ?_) | (with_reducible refine (H1.out _).mono ?_) | (with_reducible refine (H3.out _).mono ?_));rintro e wv ⟨rfl,rfl⟩))
         go_ret
         exact ⟨by rw [HV.out];rfl,HE.out⟩
        | true =>
         rw [e7] at HV
         have z7:decide ((n2:Int)=0)=true:=e7
         have y7:((n2:Int) == 0)=true:=by rw [← z7];exact (by rw [Bool.eq_iff_iff];simp)
         have x7:((n2:Int) != 0)=false:=by rw [bne,y7];rfl
         clear e7
         have HV:=zh (show vOp _=true from by rw [HV.out];simp)
         go_enter Tryz.func85,Tryz.ntmps85
         go_wp2_with ((go_at_call 73;(first | (with_reducible refine (HK.out _).mono ?_) | (with_reducible refine (H1.out _).mono ?_) | (with_reducible refine (H3.out _).mono ?_));rintro e wv ⟨rfl,rfl⟩))
         go_ret
         exact ⟨by rw [HV.out];rfl,HE.out⟩
theorem aAh (tO am ul va:Int) (lk hs:UInt64) (A1:Option Addr) (n1 c1:Nat) (pre:List UInt8) (A2:Option Addr) (n2 c2:Nat) (prf:List UInt8) (w:World) (l1:(n1:Int)≤9223372036854775807) (l2:(n2:Int)≤9223372036854775807) :
  Calls Tryz.prog 85 #[.agg (opA ⟨6,tO,am,ul,va,lk,hs,A1,n1,c1,pre,A2,n2,c2,prf⟩)] w fun e w'=>e=.returned (.bool (vOp ⟨6,tO,am,ul,va,lk,hs,A1,n1,c1,pre,A2,n2,c2,prf⟩))∧Ext w w':=by
 have HE:=zh ((Ext.refl w).alloc' (.cells (opA ⟨6,tO,am,ul,va,lk,hs,A1,n1,c1,pre,A2,n2,c2,prf⟩) 69))
 have HK:=zh (fun W=>eL 6 1 6 (by omega) W)
 have HV:=zh (show vOp ⟨6,tO,am,ul,va,lk,hs,A1,n1,c1,pre,A2,n2,c2,prf⟩=(aW false tO 0 15 && (aW false am 1 1099511627776 && (aW false ul 1 1000 && (aW true va 0 9 && (aW false (n1:Int) 0 32 && (aW true (n2:Int) 1 2000 && (decide (hs=(0:UInt64)) && decide (lk=(0:UInt64))))))))) from rfl)
 cases e0:aW false tO 0 15 with
 | false =>
  rw [e0] at HV
  have z0:decide (tO=0)=false:=e0
  have y0:(tO == 0)=false:=by rw [← z0];exact (by rw [Bool.eq_iff_iff];simp)
  have x0:(tO != 0)=true:=by rw [bne,y0];rfl
  clear e0
  have HV:=zh (show vOp _=false from by rw [HV.out];simp)
  go_enter Tryz.func85,Tryz.ntmps85
  go_wp2_with ((go_at_call 73;(first | (with_reducible refine (HK.out _).mono ?_));rintro e wv ⟨rfl,rfl⟩))
  go_ret
  exact ⟨by rw [HV.out];rfl,HE.out⟩
 | true =>
  rw [e0] at HV
  have z0:decide (tO=0)=true:=e0
  have y0:(tO == 0)=true:=by rw [← z0];exact (by rw [Bool.eq_iff_iff];simp)
  have x0:(tO != 0)=false:=by rw [bne,y0];rfl
  clear e0
  cases e1:aW false am 1 1099511627776 with
  | false =>
   rw [e1] at HV
   have z1:decide (am=0)=false:=e1
   have y1:(am == 0)=false:=by rw [← z1];exact (by rw [Bool.eq_iff_iff];simp)
   have x1:(am != 0)=true:=by rw [bne,y1];rfl
   clear e1
   have HV:=zh (show vOp _=false from by rw [HV.out];simp)
   go_enter Tryz.func85,Tryz.ntmps85
   go_wp2_with ((go_at_call 73;(first | (with_reducible refine (HK.out _).mono ?_));rintro e wv ⟨rfl,rfl⟩))
   go_ret
   exact ⟨by rw [HV.out];rfl,HE.out⟩
  | true =>
   rw [e1] at HV
   have z1:decide (am=0)=true:=e1
   have y1:(am == 0)=true:=by rw [← z1];exact (by rw [Bool.eq_iff_iff];simp)
   have x1:(am != 0)=false:=by rw [bne,y1];rfl
   clear e1
   cases e2:aW false ul 1 1000 with
   | false =>
    rw [e2] at HV
    have z2:decide (ul=0)=false:=e2
    have y2:(ul == 0)=false:=by rw [← z2];exact (by rw [Bool.eq_iff_iff];simp)
    have x2:(ul != 0)=true:=by rw [bne,y2];rfl
    clear e2
    have HV:=zh (show vOp _=false from by rw [HV.out];simp)
    go_enter Tryz.func85,Tryz.ntmps85
    go_wp2_with ((go_at_call 73;(first | (with_reducible refine (HK.out _).mono ?_));rintro e wv ⟨rfl,rfl⟩))
    go_ret
    exact ⟨by rw [HV.out];rfl,HE.out⟩
   | true =>
    rw [e2] at HV
    have z2:decide (ul=0)=true:=e2
    have y2:(ul == 0)=true:=by rw [← z2];exact (by rw [Bool.eq_iff_iff];simp)
    have x2:(ul != 0)=false:=by rw [bne,y2];rfl
    clear e2
    cases e3:aW true va 0 9 with
    | false =>
     rw [e3] at HV
     have H3:=zh (fun W=>aR va 0 9 W)
     rw [show dH va 0 9=false from e3] at H3
     clear e3
     have HV:=zh (show vOp _=false from by rw [HV.out];simp)
     go_enter Tryz.func85,Tryz.ntmps85
     go_wp2_with ((go_at_call 73;(first | (with_reducible refine (HK.out _).mono ?_) | (with_reducible refine (H3.out _).mono ?_));rintro e wv ⟨rfl,rfl⟩))
     go_ret
     exact ⟨by rw [HV.out];rfl,HE.out⟩
    | true =>
     rw [e3] at HV
     have H3:=zh (fun W=>aR va 0 9 W)
     rw [show dH va 0 9=true from e3] at H3
     clear e3
     cases e4:decide (lk=(0:UInt64)) with
     | false =>
      rw [e4] at HV
      have q4:=fun W=>dB lk 0 W
      rw [e4,aU] at q4
      clear e4
      have HV:=zh (show vOp _=false from by rw [HV.out];simp)
      go_enter Tryz.func85,Tryz.ntmps85
      go_wp2_with ((go_at_call 73;(first | (with_reducible refine (HK.out _).mono ?_) | (with_reducible refine (H3.out _).mono ?_));rintro e wv ⟨rfl,rfl⟩))
      go_ret
      exact ⟨by rw [HV.out];rfl,HE.out⟩
     | true =>
      rw [e4] at HV
      have q4:=fun W=>dB lk 0 W
      rw [e4,aU] at q4
      clear e4
      cases e5:decide (hs=(0:UInt64)) with
      | false =>
       rw [e5] at HV
       have q5:=fun W=>dB hs 0 W
       rw [e5,aU] at q5
       clear e5
       have HV:=zh (show vOp _=false from by rw [HV.out];simp)
       go_enter Tryz.func85,Tryz.ntmps85
       go_wp2_with ((go_at_call 73;(first | (with_reducible refine (HK.out _).mono ?_) | (with_reducible refine (H3.out _).mono ?_));rintro e wv ⟨rfl,rfl⟩))
       go_ret
       exact ⟨by rw [HV.out];rfl,HE.out⟩
      | true =>
       rw [e5] at HV
       have q5:=fun W=>dB hs 0 W
       rw [e5,aU] at q5
       clear e5
       cases e6:aW false (n1:Int) 0 32 with
       | false =>
        rw [e6] at HV
        have x6:decide ((0:Int) < (n1:Int))=true:=by unfold aW at e6;simp at e6 ⊢;omega
        have x6n:decide (0 < n1)=true:=by unfold aW at e6;simp at e6 ⊢;omega
        clear e6
        have HV:=zh (show vOp _=false from by rw [HV.out];simp)
        go_enter Tryz.func85,Tryz.ntmps85
        go_wp2_with ((go_at_call 73;(first | (with_reducible refine (HK.out _).mono ?_) | (with_reducible refine (H3.out _).mono ?_));rintro e wv ⟨rfl,rfl⟩))
        go_ret
        exact ⟨by rw [HV.out];rfl,HE.out⟩
       | true =>
        rw [e6] at HV
        have x6:decide ((0:Int) < (n1:Int))=false:=by unfold aW at e6;simp at e6 ⊢;omega
        have x6n:decide (0 < n1)=false:=by unfold aW at e6;simp at e6 ⊢;omega
        clear e6
        cases e7:aW true (n2:Int) 1 2000 with
        | false =>
         rw [e7] at HV
         have H7:=zh (fun W=>aR (n2:Int) 1 2000 W)
         rw [show dH (n2:Int) 1 2000=false from e7] at H7
         clear e7
         have HV:=zh (show vOp _=false from by rw [HV.out];simp)
         go_enter Tryz.func85,Tryz.ntmps85
         go_wp2_with ((go_at_call 73;(first | (with_reducible refine (HK.out _).mono ?_) | (with_reducible refine (H3.out _).mono ?_) | (with_reducible refine (H7.out _).mono ?_));rintro e wv ⟨rfl,rfl⟩))
         go_ret
         exact ⟨by rw [HV.out];rfl,HE.out⟩
        | true =>
         rw [e7] at HV
         have H7:=zh (fun W=>aR (n2:Int) 1 2000 W)
         rw [show dH (n2:Int) 1 2000=true from e7] at H7
         clear e7
         have HV:=zh (show vOp _=true from by rw [HV.out];simp)
         go_enter Tryz.func85,Tryz.ntmps85
         go_wp2_with ((go_at_call 73;(first | (with_reducible refine (HK.out _).mono ?_) | (with_reducible refine (H3.out _).mono ?_) | (with_reducible refine (H7.out _).mono ?_));rintro e wv ⟨rfl,rfl⟩))
         go_ret
         exact ⟨by rw [HV.out];rfl,HE.out⟩
end
section
open Go.RowKit
theorem fY {z:Int}:wfI z ↔ jS z:=by
 unfold wfI jS Lit.wf
 simp [IntKind.signed,IntKind.bits]
 intro _
 exact Iff.rfl
structure RowP (α:Type) [RowT α] (ty:TypeId) (arr:α→Array Value):Prop where
 eq:∀ x,(RowT.enc x).toArray=arr x
 info:(Tryz.prog.info? ty).map (·.size)=some (RowT.sz α)
 und:∃ d,Tryz.prog.underlying ty=some d∧d.isRow=true
section
variable {α:Type} [RowT α] {ty:TypeId} {arr:α→Array Value} {o:Oper} {a:Act} {w:World} {ops:Array Oper} {rest:List Oper} {Q:Exit→Act→World→Prop} {K:Act→World→Prop} {X:Prop}
theorem RowP.toL (h:RowP α ty arr) (x:α):(arr x).toList=RowT.enc x:=by rw [← h.eq]
theorem RowP.size (h:RowP α ty arr) (x:α):(arr x).size=RowT.sz α:=by rw [← h.eq];simp [RowT.len]
theorem RowP.all (h:RowP α ty arr) (x:α):(arr x).all (·.oneCell')=true:=by rw [← h.eq];exact all_oneCell_toArray (RowT.one x)
theorem aB (h:RowP α ty arr) (hgd:o.guard=none) (x:Operand) (ho:o.op=.load ty x) (b of:Nat) (hx:a.eval x=.pointer (some ⟨b,of,none⟩)) (R:α) (v:Value) (hv:Value.agg (arr R)=v) (hc:w.rangeAt b of (RowT.enc R))
  (hn:wpList Tryz.prog ops Q rest (a.put o.dst v) w):wpList Tryz.prog ops Q (o :: rest) a w:=by
 obtain ⟨d,h1,h2⟩:=h.und
 refine wpList_load_mid hgd ty x ho b of hx (RowT.enc R) d hc h1 h2 (by rw [h.info,RowT.len]) ?_
 rw [h.eq,hv];exact hn
theorem bT (h:RowP α ty arr) (hgd:o.guard=none) (x y:Operand) (ho:o.op=.store ty x y) (b of:Nat) (hx:a.eval x=.pointer (some ⟨b,of,none⟩)) (R:α) (v:Value) (hv:Value.agg (arr R)=v) (hy:a.eval y=v) (ht:w.there b of (RowT.sz α))
  (hn:wpList Tryz.prog ops Q rest (a.put o.dst undef) (w.setCells b of (RowT.enc R))):wpList Tryz.prog ops Q (o :: rest) a w:=by
 rw [← h.toL R] at hn
 exact wpList_store_mid hgd ty x y ho b of (arr R) hx (by rw [hy,hv]) (by rw [h.size];exact ht) (by rw [h.info,h.size]) (h.all R) hn
theorem aS (h:RowP α ty arr) (hgd:o.guard=none) (x y:Operand) (ho:o.op=.store ty x y) (cs:Array Value) (hcs:cs.size=RowT.sz α) (R:α) (v:Value) (hv:Value.agg (arr R)=v) (hx:a.eval x=.pointer (some ⟨w.heap.size,0,none⟩)) (hy:a.eval y=v)
  (hn:∀ W2,Hid (w.alloc (.cells (arr R) ty)=W2)→wpList Tryz.prog ops Q rest (a.put o.dst undef) W2):wpList Tryz.prog ops Q (o :: rest) a (w.alloc (.cells cs ty)):=by
 refine bT h hgd x y ho w.heap.size 0 hx R v hv hy (by rw [← hcs];exact aK (Blk.new w ty cs)) ?_
 rw [← h.toL,dO w ty cs (arr R) (by rw [hcs,h.size])]
 exact hn _ (zh rfl)
theorem aF {S:World→Prop} (h:RowP α ty arr) (hw:Region.wanted o (yielded ops a.tmps)=true) (x:Operand) (ho:o.op=.load ty x) (b of:Nat) (hx:a.eval x=.pointer (some ⟨b,of,none⟩)) (R:α) (v:Value) (hv:Value.agg (arr R)=v) (hS:∀ w,S w→w.rangeAt b of (RowT.enc R)):YieldsIf Tryz.prog ops S o v a:=by
 obtain ⟨d,h1,h2⟩:=h.und
 have:=yieldsIf_load_mid (P:=Tryz.prog) hw ty x ho b of hx (RowT.enc R) d hS h1 h2 (by rw [h.info,RowT.len])
 rwa [h.eq,hv] at this
theorem iO (h:RowP α ty arr) (x:Operand) (ho:o.op=.load ty x) (b of:Nat) (hx:a.eval x=.pointer (some ⟨b,of,none⟩)) (R:α) (v:Value) (hv:Value.agg (arr R)=v) (hc:w.rangeAt b of (RowT.enc R))
  (hn:K (a.put o.dst v) w):o.wp Tryz.prog a w K Q:=by
 obtain ⟨d,h1,h2⟩:=h.und
 have:=wp_load_mid (P:=Tryz.prog) (Q:=Q) (op:=o) (K:=K) ty x ho b of hx (RowT.enc R) d hc h1 h2 (by rw [h.info,RowT.len])
 rw [h.eq,hv] at this
 exact this hn
theorem aBI (h:RowP α ty arr) (hgd:o.guard=none) (x y:Operand) (ho:o.op=.store ty x y) (b of:Nat) (hx:a.eval x=.pointer (some ⟨b,of,none⟩)) (R:α) (v:Value) (hv:Value.agg (arr R)=v) (hy:a.eval y=v) (ht:w.there b of (RowT.sz α))
  (hn:K (a.put o.dst undef) (w.setCells b of (RowT.enc R))):if Region.wanted o (yielded ops a.tmps)=true then Oper.wp Tryz.prog o a w K Q else X:=by
 have hw:Region.wanted o (yielded ops a.tmps)=true:=by simp [Region.wanted,hgd]
 rw [if_pos hw]
 rw [← h.toL R] at hn
 exact wp_store_mid (P:=Tryz.prog) (Q:=Q) (op:=o) (K:=K) ty x y ho b of (arr R) hx (by rw [hy,hv]) (by rw [h.size];exact ht) (by rw [h.info,h.size]) (h.all R) hn
end
theorem aEj {α:Type} [RowT α] [DecidableEq α] {ty:TypeId} {arr:α→Array Value} (hp:RowP α ty arr) (f:Nat) (hf:f≤9990) (hE:∀ w:World,∀ v v':Value,∀ k k':List Lit,v.formed Tryz.prog ty=true→v'.formed Tryz.prog ty=true→Tryz.prog.keyLits f ty v.cells.toList=some k→Tryz.prog.keyLits f ty v'.cells.toList=some k'→∃ r,(Op.equalIn 10000 ty v v').run Tryz.prog w=.ok r w∧(r=true ↔ k=k'))
  (ok:α→Prop) (ky:α→List Lit) (hfm:∀ x,(Value.agg (arr x)).formed Tryz.prog ty=true) (hk:∀ x,ok x→Tryz.prog.keyLits f ty (RowT.enc x)=some (ky x)) (hi:∀ x y,ky x=ky y→x=y) (a b:α) (ha:ok a) (hb:ok b) (w:World) :
  (Op.equalIn 10000 ty (.agg (arr a)) (.agg (arr b))).run Tryz.prog w=.ok (decide (a=b)) w:=by
 obtain ⟨r,hr,hiff⟩:=hE w _ _ _ _ (hfm a) (hfm b) (by show Tryz.prog.keyLits f ty (arr a).toList=_;rw [hp.toL];exact hk a ha) (by show Tryz.prog.keyLits f ty (arr b).toList=_;rw [hp.toL];exact hk b hb)
 rw [hr]
 have:r=decide (a=b):=by
  by_cases h:a=b
  ·subst h;simp [hiff.2 rfl]
  have:r ≠ true:=fun e=>h (hi a b (hiff.1 e))
  simp [h,this]
 rw [this]
abbrev ceA (C:CeR):Array Value:=#[.int .i64 C.k,.int .i64 C.id,.int .u8 (nb8 C.lk 0),.int .u8 (nb8 C.lk 1),.int .u8 (nb8 C.lk 2),.int .u8 (nb8 C.lk 3),.int .u8 (nb8 C.lk 4),.int .u8 (nb8 C.lk 5),.int .u8 (nb8 C.lk 6),.int .u8 (nb8 C.lk 7)]
def ceL (C:CeR):List Value:=(ceA C).toList
theorem aKf (C:CeR):∀ u ∈ ceL C,u.oneCell'=true:=by
 intro u hu
 simp only [ceL,List.mem_cons,List.not_mem_nil,or_false] at hu
 rcases hu with rfl | rfl | rfl | rfl | rfl | rfl | rfl | rfl | rfl | rfl <;> rfl
def ceW (C:CeR):Prop:=wfI C.k∧wfI C.id
instance:RowT CeR where
 sz:=10
 z:=⟨0,0,0⟩
 enc:=ceL
 ok C _:=ceW C
 pos:=by decide
 len _:=rfl
 one:=aKf
 ext _ _ _ h _:=h
abbrev ce0:Array Value:=#[.int .i64 0,.int .i64 0,.int .u8 0,.int .u8 0,.int .u8 0,.int .u8 0,.int .u8 0,.int .u8 0,.int .u8 0,.int .u8 0]
theorem ceE:Elem Tryz.prog 96 32 (.agg ce0) 10 24:=⟨Tryz.underlying96,by kernel_rfl,rfl,by decide⟩
theorem ceP:RowP CeR 32 ceA:=⟨fun _=>rfl,by kernel_rfl,_,Tryz.underlying32,rfl⟩
theorem ceF (C:CeR):(Value.agg (ceA C)).formed Tryz.prog 32=true:=by
 have c:Tryz.prog.cellsOf 32=10:=by kernel_rfl
 simp [Value.formed,Tryz.underlying32,c]
abbrev deA (C:DeR):Array Value:=#[.int .i64 C.c.k,.int .i64 C.c.id,.int .u8 (nb8 C.c.lk 0),.int .u8 (nb8 C.c.lk 1),.int .u8 (nb8 C.c.lk 2),.int .u8 (nb8 C.c.lk 3),.int .u8 (nb8 C.c.lk 4),.int .u8 (nb8 C.c.lk 5),.int .u8 (nb8 C.c.lk 6),.int .u8 (nb8 C.c.lk 7),.int .i64 C.a]
def deL (C:DeR):List Value:=(deA C).toList
theorem aJO (C:DeR):∀ u ∈ deL C,u.oneCell'=true:=by
 intro u hu
 simp only [deL,List.mem_cons,List.not_mem_nil,or_false] at hu
 rcases hu with rfl | rfl | rfl | rfl | rfl | rfl | rfl | rfl | rfl | rfl | rfl <;> rfl
def deW (C:DeR):Prop:=ceW C.c∧wfI C.a
instance:RowT DeR where
 sz:=11
 z:=⟨⟨0,0,0⟩,0⟩
 enc:=deL
 ok C _:=deW C
 pos:=by decide
 len _:=rfl
 one:=aJO
 ext _ _ _ h _:=h
abbrev de0:Array Value:=#[.int .i64 0,.int .i64 0,.int .u8 0,.int .u8 0,.int .u8 0,.int .u8 0,.int .u8 0,.int .u8 0,.int .u8 0,.int .u8 0,.int .i64 0]
theorem deE:Elem Tryz.prog 27 34 (.agg de0) 11 32:=⟨Tryz.underlying27,by kernel_rfl,rfl,by decide⟩
theorem deP:RowP DeR 34 deA:=⟨fun _=>rfl,by kernel_rfl,_,Tryz.underlying34,rfl⟩
theorem deF (C:DeR):(Value.agg (deA C)).formed Tryz.prog 34=true:=by
 have c:Tryz.prog.cellsOf 34=11:=by kernel_rfl
 simp [Value.formed,Tryz.underlying34,c]
abbrev lkA (C:LkR):Array Value:=#[.int .u8 (nb8 C.nm 0),.int .u8 (nb8 C.nm 1),.int .u8 (nb8 C.nm 2),.int .u8 (nb8 C.nm 3),.int .u8 (nb8 C.nm 4),.int .u8 (nb8 C.nm 5),.int .u8 (nb8 C.nm 6),.int .u8 (nb8 C.nm 7),.int .u8 (nb8 C.hs 0),.int .u8 (nb8 C.hs 1),.int .u8 (nb8 C.hs 2),.int .u8 (nb8 C.hs 3),.int .u8 (nb8 C.hs 4),.int .u8 (nb8 C.hs 5),.int .u8 (nb8 C.hs 6),.int .u8 (nb8 C.hs 7),.int .i64 C.ow,.int .i64 C.tO,.int .i64 C.ul]
def lkL (C:LkR):List Value:=(lkA C).toList
theorem aJs (C:LkR):∀ u ∈ lkL C,u.oneCell'=true:=by
 intro u hu
 simp only [lkL,List.mem_cons,List.not_mem_nil,or_false] at hu
 rcases hu with rfl | rfl | rfl | rfl | rfl | rfl | rfl | rfl | rfl | rfl | rfl | rfl | rfl | rfl | rfl | rfl | rfl | rfl | rfl <;> rfl
def lkW (C:LkR):Prop:=wfI C.ow∧wfI C.tO∧wfI C.ul
instance:RowT LkR where
 sz:=19
 z:=⟨0,0,0,0,0⟩
 enc:=lkL
 ok C _:=lkW C
 pos:=by decide
 len _:=rfl
 one:=aJs
 ext _ _ _ h _:=h
abbrev lk0:Array Value:=#[.int .u8 0,.int .u8 0,.int .u8 0,.int .u8 0,.int .u8 0,.int .u8 0,.int .u8 0,.int .u8 0,.int .u8 0,.int .u8 0,.int .u8 0,.int .u8 0,.int .u8 0,.int .u8 0,.int .u8 0,.int .u8 0,.int .i64 0,.int .i64 0,.int .i64 0]
theorem lkE:Elem Tryz.prog 41 94 (.agg lk0) 19 40:=⟨Tryz.underlying41,by kernel_rfl,rfl,by decide⟩
theorem lkP:RowP LkR 94 lkA:=⟨fun _=>rfl,by kernel_rfl,_,Tryz.underlying94,rfl⟩
theorem lkF (C:LkR):(Value.agg (lkA C)).formed Tryz.prog 94=true:=by
 have c:Tryz.prog.cellsOf 94=19:=by kernel_rfl
 simp [Value.formed,Tryz.underlying94,c]
def ceK (C:CeR):List Lit:=[.int .i64 C.k,.int .i64 C.id] ++ (nmb C.lk).map nO
def deK (C:DeR):List Lit:=ceK C.c ++ [.int .i64 C.a]
def lkK (C:LkR):List Lit:=(nmb C.nm).map nO ++ ((nmb C.hs).map nO ++ [.int .i64 C.ow,.int .i64 C.tO,.int .i64 C.ul])
theorem aKA (C:CeR):ceL C=[.int .i64 C.k,.int .i64 C.id] ++ bcs (nmb C.lk):=by rw [dU];rfl
theorem aMw (C:DeR):deL C=ceL C.c ++ [.int .i64 C.a]:=rfl
theorem aKu (C:LkR):lkL C=bcs (nmb C.nm) ++ (bcs (nmb C.hs) ++ [.int .i64 C.ow,.int .i64 C.tO,.int .i64 C.ul]):=by rw [dU,dU];rfl
theorem kG (n:UInt64):((nmb n).map nO).length=8:=by simp [aG]
theorem wQ (C:CeR):(ceK C).length=10:=by simp [ceK,aG]
theorem aFl (a b:CeR) (h:ceK a=ceK b):a=b:=by
 unfold ceK at h
 simp only [List.cons_append,List.nil_append,List.cons.injEq,Lit.int.injEq,true_and] at h
 obtain ⟨h1,h2,h3⟩:=h
 have:=kY h3
 cases a;cases b
 simp only at *
 subst h1;subst h2;subst this;rfl
theorem aJP (a b:DeR) (h:deK a=deK b):a=b:=by
 unfold deK at h
 obtain ⟨h1,h2⟩:=List.append_inj h (by rw [wQ,wQ])
 have:=aFl _ _ h1
 simp only [List.cons.injEq,Lit.int.injEq,true_and,and_true] at h2
 cases a;cases b
 simp only at *
 subst h2;subst this;rfl
theorem aJt (a b:LkR) (h:lkK a=lkK b):a=b:=by
 unfold lkK at h
 obtain ⟨h1,h2⟩:=List.append_inj h (by rw [kG,kG])
 obtain ⟨h3,h4⟩:=List.append_inj h2 (by rw [kG,kG])
 simp only [List.cons.injEq,Lit.int.injEq,true_and,and_true] at h4
 obtain ⟨h5,h6,h7⟩:=h4
 have e1:=kY h1
 have e2:=kY h3
 cases a;cases b
 simp only at *
 subst h5;subst h6;subst h7;subst e1;subst e2;rfl
theorem kP (m:Nat) (x:Int) (hx:wfI x):Tryz.prog.keyLits (m+1) 3 [.int .i64 x]=some [.int .i64 x]:=by
 unfold Program.keyLits
 rw [Tryz.underlying3]
 simp only
 rw [if_pos ⟨trivial,hx⟩]
theorem aHX (m:Nat) (c:UInt8):Tryz.prog.keyLits (m+1) 5 [.int .u8 (c.toNat:Int)]=some [nO c]:=by
 unfold Program.keyLits
 rw [Tryz.underlying5]
 simp only
 rw [if_pos ⟨trivial,aEX c⟩];rfl
theorem aCv (m:Nat) (n:UInt64):Tryz.prog.keyLits (m+2) 30 (bcs (nmb n))=some ((nmb n).map nO):=by
 unfold Program.keyLits
 rw [Tryz.underlying30]
 simp only
 rw [if_pos (by rw [aJ,aG,rP]),aCZ]
 rw [pY n]
 generalize (nmb n).getD 0 0=x0
 generalize (nmb n).getD 1 0=x1
 generalize (nmb n).getD 2 0=x2
 generalize (nmb n).getD 3 0=x3
 generalize (nmb n).getD 4 0=x4
 generalize (nmb n).getD 5 0=x5
 generalize (nmb n).getD 6 0=x6
 generalize (nmb n).getD 7 0=x7
 rw [show List.range 8=[0,1,2,3,4,5,6,7] from rfl]
 simp only [bcs,bv,List.map_cons,List.map_nil,List.mapM_cons,List.mapM_nil,Nat.zero_mul,Nat.one_mul,Nat.mul_one,List.drop_zero,List.drop_succ_cons,List.take_succ_cons,List.take_zero,aHX m]
 rfl
theorem aKw (m:Nat) (C:CeR) (h:ceW C):Tryz.prog.keyLits (m+3) 32 (ceL C)=some (ceK C):=by
 obtain ⟨h1,h2⟩:=h
 have c1:Tryz.prog.cellsOf 3=1:=by kernel_rfl
 have c10:Tryz.prog.cellsOf 32=10:=by kernel_rfl
 have t8:(bcs (nmb C.lk)).take 8=bcs (nmb C.lk):=List.take_of_length_le (by rw [aJ,aG];exact Nat.le_refl _)
 have hl:(ceL C).length=10:=rfl
 rw [aKA] at hl ⊢
 unfold Program.keyLits
 rw [Tryz.underlying32]
 simp only
 rw [if_pos ⟨by rw [hl,c10],by kernel_rfl⟩]
 simp only [List.mapM_cons,List.mapM_nil,c1,rP,List.cons_append,List.nil_append,List.drop_zero,List.drop_succ_cons,List.take_succ_cons,List.take_zero,kP (m+1) _ h1,kP (m+1) _ h2,t8,aCv m]
 simp [ceK]
theorem aMu (m:Nat) (C:DeR) (h:deW C):Tryz.prog.keyLits (m+4) 34 (deL C)=some (deK C):=by
 obtain ⟨h1,h2⟩:=h
 have c1:Tryz.prog.cellsOf 3=1:=by kernel_rfl
 have c10:Tryz.prog.cellsOf 32=10:=by kernel_rfl
 have c11:Tryz.prog.cellsOf 34=11:=by kernel_rfl
 have hl:(deL C).length=11:=rfl
 have t10:(ceL C.c ++ [Value.int .i64 C.a]).take 10=ceL C.c:=rfl
 have d10:(ceL C.c ++ [Value.int .i64 C.a]).drop 10=[Value.int .i64 C.a]:=rfl
 rw [aMw] at hl ⊢
 unfold Program.keyLits
 rw [Tryz.underlying34]
 simp only
 rw [if_pos ⟨by rw [hl,c11],by kernel_rfl⟩]
 simp only [List.mapM_cons,List.mapM_nil,c1,c10,List.drop_zero,t10,d10,List.take_succ_cons,List.take_zero,kP (m+2) _ h2,aKw m _ h1]
 simp [deK]
theorem aMt (m:Nat) (C:LkR) (h:lkW C):Tryz.prog.keyLits (m+3) 94 (lkL C)=some (lkK C):=by
 obtain ⟨h1,h2,h3⟩:=h
 have c1:Tryz.prog.cellsOf 3=1:=by kernel_rfl
 have c19:Tryz.prog.cellsOf 94=19:=by kernel_rfl
 have hp:(bcs (nmb C.nm)).length=8:=by rw [aJ,aG]
 have hq:(bcs (nmb C.hs)).length=8:=by rw [aJ,aG]
 have hl:(lkL C).length=19:=rfl
 rw [aKu] at hl ⊢
 have t1:(bcs (nmb C.nm) ++ (bcs (nmb C.hs) ++ [Value.int .i64 C.ow,.int .i64 C.tO,.int .i64 C.ul])).take 8=bcs (nmb C.nm):=by rw [← hp];exact List.take_left
 have d1:(bcs (nmb C.nm) ++ (bcs (nmb C.hs) ++ [Value.int .i64 C.ow,.int .i64 C.tO,.int .i64 C.ul])).drop 8=bcs (nmb C.hs) ++ [Value.int .i64 C.ow,.int .i64 C.tO,.int .i64 C.ul]:=by rw [← hp];exact List.drop_left
 have t2:(bcs (nmb C.hs) ++ [Value.int .i64 C.ow,.int .i64 C.tO,.int .i64 C.ul]).take 8=bcs (nmb C.hs):=by rw [← hq];exact List.take_left
 have d2:(bcs (nmb C.hs) ++ [Value.int .i64 C.ow,.int .i64 C.tO,.int .i64 C.ul]).drop 8=[Value.int .i64 C.ow,.int .i64 C.tO,.int .i64 C.ul]:=by rw [← hq];exact List.drop_left
 have d16:(bcs (nmb C.nm) ++ (bcs (nmb C.hs) ++ [Value.int .i64 C.ow,.int .i64 C.tO,.int .i64 C.ul])).drop 16=[Value.int .i64 C.ow,.int .i64 C.tO,.int .i64 C.ul]:=by rw [show 16=8+8 from rfl,← List.drop_drop,d1,d2]
 have d17:(bcs (nmb C.nm) ++ (bcs (nmb C.hs) ++ [Value.int .i64 C.ow,.int .i64 C.tO,.int .i64 C.ul])).drop 17=[Value.int .i64 C.tO,.int .i64 C.ul]:=by rw [show 17=16+1 from rfl,← List.drop_drop,d16];rfl
 have d18:(bcs (nmb C.nm) ++ (bcs (nmb C.hs) ++ [Value.int .i64 C.ow,.int .i64 C.tO,.int .i64 C.ul])).drop 18=[Value.int .i64 C.ul]:=by rw [show 18=16+2 from rfl,← List.drop_drop,d16];rfl
 unfold Program.keyLits
 rw [Tryz.underlying94]
 simp only
 rw [if_pos ⟨by rw [hl,c19],by kernel_rfl⟩]
 simp only [List.mapM_cons,List.mapM_nil,c1,rP,List.drop_zero,t1,d1,t2,d2,d16,d17,d18,List.drop_succ_cons,List.take_succ_cons,List.take_zero,kP (m+1) _ h1,kP (m+1) _ h2,kP (m+1) _ h3,aCv m]
 simp [lkK]
theorem aFd (a b:CeR) (ha:ceW a) (hb:ceW b) (w:World):(Op.equalIn 10000 32 (.agg (ceA a)) (.agg (ceA b))).run Tryz.prog w=.ok (decide (a=b)) w :=
 aEj ceP 3 (by decide) (fun w v v' k k' h1 h2 h3 h4=>run_equalIn_deep (P:=Tryz.prog) 9997 3 32 (by kernel_rfl) w 3 3 _ _ _ _ h1 h2 h3 h4) ceW ceK ceF (fun C h=>aKw 0 C h) aFl a b ha hb w
theorem aJJ (a b:DeR) (ha:deW a) (hb:deW b) (w:World):(Op.equalIn 10000 34 (.agg (deA a)) (.agg (deA b))).run Tryz.prog w=.ok (decide (a=b)) w :=
 aEj deP 4 (by decide) (fun w v v' k k' h1 h2 h3 h4=>run_equalIn_deep (P:=Tryz.prog) 9996 4 34 (by kernel_rfl) w 4 4 _ _ _ _ h1 h2 h3 h4) deW deK deF (fun C h=>aMu 0 C h) aJP a b ha hb w
theorem aJI (a b:LkR) (ha:lkW a) (hb:lkW b) (w:World):(Op.equalIn 10000 94 (.agg (lkA a)) (.agg (lkA b))).run Tryz.prog w=.ok (decide (a=b)) w :=
 aEj lkP 3 (by decide) (fun w v v' k k' h1 h2 h3 h4=>run_equalIn_deep (P:=Tryz.prog) 9997 3 94 (by kernel_rfl) w 3 3 _ _ _ _ h1 h2 h3 h4) lkW lkK lkF (fun C h=>aMt 0 C h) aJt a b ha hb w
theorem uL (a b:CeR) (ha:ceW a) (hb:ceW b) (w:World):(binOp .eql 32 (.agg (ceA a)) (.agg (ceA b))).run Tryz.prog w=.ok (.bool (decide (a=b))) w:=by rw [run_eql_struct,aFd a b ha hb w];rfl
theorem aFF (a b:CeR) (ha:ceW a) (hb:ceW b) (w:World):(binOp .neq 32 (.agg (ceA a)) (.agg (ceA b))).run Tryz.prog w=.ok (.bool (!decide (a=b))) w:=by rw [run_neq_struct,aFd a b ha hb w];rfl
theorem kZ (op:BinOp) (x y:Operand) (a b:CeR) (w:World):(eqGuard op 32 x y (.agg (ceA a)) (.agg (ceA b))).run Tryz.prog w=.ok () w:=run_eqGuard_agg w op _ x y _ _ (by kernel_rfl)
theorem aFE (a b:DeR) (ha:deW a) (hb:deW b) (w:World):(binOp .neq 34 (.agg (deA a)) (.agg (deA b))).run Tryz.prog w=.ok (.bool (!decide (a=b))) w:=by rw [run_neq_struct,aJJ a b ha hb w];rfl
theorem aId (op:BinOp) (x y:Operand) (a b:DeR) (w:World):(eqGuard op 34 x y (.agg (deA a)) (.agg (deA b))).run Tryz.prog w=.ok () w:=run_eqGuard_agg w op _ x y _ _ (by kernel_rfl)
theorem aFD (a b:LkR) (ha:lkW a) (hb:lkW b) (w:World):(binOp .neq 94 (.agg (lkA a)) (.agg (lkA b))).run Tryz.prog w=.ok (.bool (!decide (a=b))) w:=by rw [run_neq_struct,aJI a b ha hb w];rfl
theorem aIc (op:BinOp) (x y:Operand) (a b:LkR) (w:World):(eqGuard op 94 x y (.agg (lkA a)) (.agg (lkA b))).run Tryz.prog w=.ok () w:=run_eqGuard_agg w op _ x y _ _ (by kernel_rfl)
def nmL (n:UInt64):List Value:=bcs (nmb n)
instance:RowT UInt64 where
 sz:=8
 z:=0
 enc:=nmL
 ok _ _:=True
 pos:=by decide
 len _:=by rw [nmL,aJ,aG]
 one _:=dT _
 ext _ _ _ _ _:=trivial
theorem iV (op:BinOp) (x y:Operand) (a b:UInt64) (w:World):(eqGuard op 30 x y (.agg (nmc a)) (.agg (nmc b))).run Tryz.prog w=.ok () w:=run_eqGuard_agg w op _ x y _ _ (by kernel_rfl)
theorem nmP:RowP UInt64 30 nmc:=⟨fun _=>rfl,by kernel_rfl,_,Tryz.underlying30,rfl⟩
theorem SlN.g {w:World} {A:Option Addr} {n c:Nat} {L:List UInt64} (h:SlN w A n c L):SlG w A n c L:=⟨h.len,h.le,h.cap,h.rd,fun _ _=>trivial⟩
theorem SlG.n {w:World} {A:Option Addr} {n c:Nat} {L:List UInt64} (h:SlG w A n c L):SlN w A n c L:=⟨h.len,h.le,h.cap,h.rd⟩
theorem cS {P:Program} {ops:Array Oper} {S:World→Prop} {o:Oper} {a:Act} {op:BinOp} {ty ty':TypeId} (hw:Region.wanted o (yielded ops a.tmps)=true) (x y:Operand) (ho:o.op=.binOp op ty x y ty') {vx vy:Value} {b:Bool} (hx:a.eval x=vx) (hy:a.eval y=vy)
  (hg:∀ w,(eqGuard op ty x y vx vy).run P w=.ok () w) (hq:∀ w,(binOp op ty vx vy).run P w=.ok (.bool b) w):YieldsIf P ops S o (.bool b) a :=
 .inl ⟨hw,fun w _=>by
  unfold execOp
  simp only [ho,hx,hy,Sem.run_bind,hg,hq,Result.andThen_ok,Sem.run_pure]⟩
theorem uK (a b:UInt64) (w:World):(binOp .neq 30 (.agg (nmc a)) (.agg (nmc b))).run Tryz.prog w=.ok (.bool (!decide (a=b))) w:=by
 have h:=bX a b w
 rw [run_eql_struct] at h
 rw [run_neq_struct]
 generalize (Op.equalIn 10000 30 (.agg (nmc a)) (.agg (nmc b))).run Tryz.prog w=r at *
 cases r with
 | ok v w'=>simp [Result.andThen] at h ⊢;obtain ⟨h1,h2⟩:=h;exact ⟨by rw [h1],h2⟩
 | _=>simp [Result.andThen] at h
def inL (z:Int):List Value:=[.int .i64 z]
instance:RowT Int where
 sz:=1
 z:=0
 enc:=inL
 ok z _:=wfI z
 pos:=by decide
 len _:=rfl
 one z u hu:=by rw [List.mem_singleton.1 hu];rfl
 ext _ _ _ h _:=h
theorem inE:Elem Tryz.prog 38 3 (.int .i64 0) 1 8:=⟨Tryz.underlying38,by kernel_rfl,rfl,by decide⟩
end
end Go.Proofs.YtohmmcahpakokaaGreat
