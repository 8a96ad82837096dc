/- ValidOp (the reference's) kinds 1 tO 3. -/
import Derived.Test.YtohmmcahpakokaaGreatJ10
set_option maxRecDepth 100000
set_option maxHeartbeats 8000000
set_option linter.unusedVariables false
set_option linter.unusedSimpArgs false
namespace Go.Proofs.YtohmmcahpakokaaGreat
section
open Go.RowKit
attribute [local go_sem ↓] Go.wp_at_zero Go.wp_at_succ
theorem cU (a b:UInt64) (w:World):(binOp .neq 30 (.agg (nmc a)) (.agg (nmc b))).run Tryz.prog w=.ok (.bool (!decide (a=b))) w:=by
 have h:=cO a b w
 rw [run_eql_struct] at h
 rw [run_neq_struct]
 generalize (Op.equalIn 10000 30 (.agg (nmc a)) (.agg (nmc b))).run Tryz.prog w=r at *
 cases r with
 | ok v w'=>simp [Result.andThen] at h ⊢;obtain ⟨h1,h2⟩:=h;subst h2;exact ⟨by rw [h1],rfl⟩
 | _=>simp [Result.andThen] at h
theorem zO (tO am ul va:Int) (lk hs:UInt64) (A1:Option Addr) (n1 c1:Nat) (pre:List UInt8) (A2:Option Addr) (n2 c2:Nat) (prf:List UInt8) (w:World) (l1:(n1:Int)≤9223372036854775807) (l2:(n2:Int)≤9223372036854775807) :
  Calls Tryz.prog 85 #[.agg (opA ⟨1,tO,am,ul,va,lk,hs,A1,n1,c1,pre,A2,n2,c2,prf⟩)] w fun e w'=>e=.returned (.bool (vOp ⟨1,tO,am,ul,va,lk,hs,A1,n1,c1,pre,A2,n2,c2,prf⟩))∧Ext w w':=by
 have HE:=zh ((Ext.refl w).alloc' (.cells (opA ⟨1,tO,am,ul,va,lk,hs,A1,n1,c1,pre,A2,n2,c2,prf⟩) 69))
 have HK:=zh (fun W=>eG 1 1 6 (by omega) W)
 have HV:=zh (show vOp ⟨1,tO,am,ul,va,lk,hs,A1,n1,c1,pre,A2,n2,c2,prf⟩=(aQ true tO 0 15 && (aQ true am 1 1099511627776 && (aQ false ul 1 1000 && (aQ false va 0 9 && (aQ false (n1:Int) 0 32 && (aQ false (n2:Int) 1 2000 && (decide (hs=(0:UInt64)) && decide (lk=(0:UInt64))))))))) from rfl)
 cases e0:aQ true tO 0 15 with
 | false =>
  rw [e0] at HV
  have H0:=zh (fun W=>aN tO 0 15 W)
  rw [show dA tO 0 15=false from e0] at H0
  clear e0
  have HV:=zh (show vOp _=false from by rw [HV.out];simp)
  go_enter Tryz.func85,Tryz.ntmps85
  go_wp2_with ((go_at_call 73;(first | (with_reducible refine (HK.out _).mono ?_) | (with_reducible refine (H0.out _).mono ?_));rintro e wv ⟨rfl,rfl⟩))
  go_ret
  exact ⟨by rw [HV.out];rfl,HE.out⟩
 | true =>
  rw [e0] at HV
  have H0:=zh (fun W=>aN tO 0 15 W)
  rw [show dA tO 0 15=true from e0] at H0
  clear e0
  cases e1:aQ true am 1 1099511627776 with
  | false =>
   rw [e1] at HV
   have H1:=zh (fun W=>aN am 1 1099511627776 W)
   rw [show dA am 1 1099511627776=false from e1] at H1
   clear e1
   have HV:=zh (show vOp _=false from by rw [HV.out];simp)
   go_enter Tryz.func85,Tryz.ntmps85
   go_wp2_with ((go_at_call 73;(first | (with_reducible refine (HK.out _).mono ?_) | (with_reducible refine (H0.out _).mono ?_) | (with_reducible refine (H1.out _).mono ?_));rintro e wv ⟨rfl,rfl⟩))
   go_ret
   exact ⟨by rw [HV.out];rfl,HE.out⟩
  | true =>
   rw [e1] at HV
   have H1:=zh (fun W=>aN am 1 1099511627776 W)
   rw [show dA am 1 1099511627776=true from e1] at H1
   clear e1
   cases e2:aQ false ul 1 1000 with
   | false =>
    rw [e2] at HV
    have z2:decide (ul=0)=false:=e2
    have y2:(ul == 0)=false:=by rw [← z2];exact (by rw [Bool.eq_iff_iff];simp)
    have x2:(ul != 0)=true:=by rw [bne,y2];rfl
    clear e2
    have HV:=zh (show vOp _=false from by rw [HV.out];simp)
    go_enter Tryz.func85,Tryz.ntmps85
    go_wp2_with ((go_at_call 73;(first | (with_reducible refine (HK.out _).mono ?_) | (with_reducible refine (H0.out _).mono ?_) | (with_reducible refine (H1.out _).mono ?_));rintro e wv ⟨rfl,rfl⟩))
    go_ret
    exact ⟨by rw [HV.out];rfl,HE.out⟩
   | true =>
    rw [e2] at HV
    have z2:decide (ul=0)=true:=e2
    have y2:(ul == 0)=true:=by rw [← z2];exact (by rw [Bool.eq_iff_iff];simp)
    have x2:(ul != 0)=false:=by rw [bne,y2];rfl
    clear e2
    cases e3:aQ false va 0 9 with
    | false =>
     rw [e3] at HV
     have z3:decide (va=0)=false:=e3
     have y3:(va == 0)=false:=by rw [← z3];exact (by rw [Bool.eq_iff_iff];simp)
     have x3:(va != 0)=true:=by rw [bne,y3];rfl
     clear e3
     have HV:=zh (show vOp _=false from by rw [HV.out];simp)
     go_enter Tryz.func85,Tryz.ntmps85
     go_wp2_with ((go_at_call 73;(first | (with_reducible refine (HK.out _).mono ?_) | (with_reducible refine (H0.out _).mono ?_) | (with_reducible refine (H1.out _).mono ?_));rintro e wv ⟨rfl,rfl⟩))
     go_ret
     exact ⟨by rw [HV.out];rfl,HE.out⟩
    | true =>
     rw [e3] at HV
     have z3:decide (va=0)=true:=e3
     have y3:(va == 0)=true:=by rw [← z3];exact (by rw [Bool.eq_iff_iff];simp)
     have x3:(va != 0)=false:=by rw [bne,y3];rfl
     clear e3
     cases e4:decide (lk=(0:UInt64)) with
     | false =>
      rw [e4] at HV
      have q4:=fun W=>cU lk 0 W
      rw [e4,aV] at q4
      clear e4
      have HV:=zh (show vOp _=false from by rw [HV.out];simp)
      go_enter Tryz.func85,Tryz.ntmps85
      go_wp2_with ((go_at_call 73;(first | (with_reducible refine (HK.out _).mono ?_) | (with_reducible refine (H0.out _).mono ?_) | (with_reducible refine (H1.out _).mono ?_));rintro e wv ⟨rfl,rfl⟩))
      go_ret
      exact ⟨by rw [HV.out];rfl,HE.out⟩
     | true =>
      rw [e4] at HV
      have q4:=fun W=>cU lk 0 W
      rw [e4,aV] at q4
      clear e4
      cases e5:decide (hs=(0:UInt64)) with
      | false =>
       rw [e5] at HV
       have q5:=fun W=>cU hs 0 W
       rw [e5,aV] at q5
       clear e5
       have HV:=zh (show vOp _=false from by rw [HV.out];simp)
       go_enter Tryz.func85,Tryz.ntmps85
       go_wp2_with ((go_at_call 73;(first | (with_reducible refine (HK.out _).mono ?_) | (with_reducible refine (H0.out _).mono ?_) | (with_reducible refine (H1.out _).mono ?_));rintro e wv ⟨rfl,rfl⟩))
       go_ret
       exact ⟨by rw [HV.out];rfl,HE.out⟩
      | true =>
       rw [e5] at HV
       have q5:=fun W=>cU hs 0 W
       rw [e5,aV] at q5
       clear e5
       cases e6:aQ false (n1:Int) 0 32 with
       | false =>
        rw [e6] at HV
        have x6:decide ((0:Int) < (n1:Int))=true:=by unfold aQ at e6;simp at e6 ⊢;omega
        have x6n:decide (0 < n1)=true:=by unfold aQ at e6;simp at e6 ⊢;omega
        clear e6
        have HV:=zh (show vOp _=false from by rw [HV.out];simp)
        go_enter Tryz.func85,Tryz.ntmps85
        go_wp2_with ((go_at_call 73;(first | (with_reducible refine (HK.out _).mono ?_) | (with_reducible refine (H0.out _).mono ?_) | (with_reducible refine (H1.out _).mono ?_));rintro e wv ⟨rfl,rfl⟩))
        go_ret
        exact ⟨by rw [HV.out];rfl,HE.out⟩
       | true =>
        rw [e6] at HV
        have x6:decide ((0:Int) < (n1:Int))=false:=by unfold aQ at e6;simp at e6 ⊢;omega
        have x6n:decide (0 < n1)=false:=by unfold aQ at e6;simp at e6 ⊢;omega
        clear e6
        cases e7:aQ false (n2:Int) 1 2000 with
        | false =>
         rw [e7] at HV
         have z7:decide ((n2:Int)=0)=false:=e7
         have y7:((n2:Int) == 0)=false:=by rw [← z7];exact (by rw [Bool.eq_iff_iff];simp)
         have x7:((n2:Int) != 0)=true:=by rw [bne,y7];rfl
         clear e7
         have HV:=zh (show vOp _=false from by rw [HV.out];simp)
         go_enter Tryz.func85,Tryz.ntmps85
         go_wp2_with ((go_at_call 73;(first | (with_reducible refine (HK.out _).mono ?_) | (with_reducible refine (H0.out _).mono ?_) | (with_reducible refine (H1.out _).mono ?_));rintro e wv ⟨rfl,rfl⟩))
         go_ret
         exact ⟨by rw [HV.out];rfl,HE.out⟩
        | true =>
         rw [e7] at HV
         have z7:decide ((n2:Int)=0)=true:=e7
         have y7:((n2:Int) == 0)=true:=by rw [← z7];exact (by rw [Bool.eq_iff_iff];simp)
         have x7:((n2:Int) != 0)=false:=by rw [bne,y7];rfl
         clear e7
         have HV:=zh (show vOp _=true from by rw [HV.out];simp)
         go_enter Tryz.func85,Tryz.ntmps85
         go_wp2_with ((go_at_call 73;(first | (with_reducible refine (HK.out _).mono ?_) | (with_reducible refine (H0.out _).mono ?_) | (with_reducible refine (H1.out _).mono ?_));rintro e wv ⟨rfl,rfl⟩))
         go_ret
         exact ⟨by rw [HV.out];rfl,HE.out⟩
theorem zN (tO am ul va:Int) (lk hs:UInt64) (A1:Option Addr) (n1 c1:Nat) (pre:List UInt8) (A2:Option Addr) (n2 c2:Nat) (prf:List UInt8) (w:World) (l1:(n1:Int)≤9223372036854775807) (l2:(n2:Int)≤9223372036854775807) :
  Calls Tryz.prog 85 #[.agg (opA ⟨2,tO,am,ul,va,lk,hs,A1,n1,c1,pre,A2,n2,c2,prf⟩)] w fun e w'=>e=.returned (.bool (vOp ⟨2,tO,am,ul,va,lk,hs,A1,n1,c1,pre,A2,n2,c2,prf⟩))∧Ext w w':=by
 have HE:=zh ((Ext.refl w).alloc' (.cells (opA ⟨2,tO,am,ul,va,lk,hs,A1,n1,c1,pre,A2,n2,c2,prf⟩) 69))
 have HK:=zh (fun W=>eG 2 1 6 (by omega) W)
 have HV:=zh (show vOp ⟨2,tO,am,ul,va,lk,hs,A1,n1,c1,pre,A2,n2,c2,prf⟩=(aQ true tO 0 15 && (aQ true am 1 1099511627776 && (aQ true ul 1 1000 && (aQ false va 0 9 && (aQ false (n1:Int) 0 32 && (aQ false (n2:Int) 1 2000 && (true && decide (lk=(0:UInt64))))))))) from rfl)
 cases e0:aQ true tO 0 15 with
 | false =>
  rw [e0] at HV
  have H0:=zh (fun W=>aN tO 0 15 W)
  rw [show dA tO 0 15=false from e0] at H0
  clear e0
  have HV:=zh (show vOp _=false from by rw [HV.out];simp)
  go_enter Tryz.func85,Tryz.ntmps85
  go_wp2_with ((go_at_call 73;(first | (with_reducible refine (HK.out _).mono ?_) | (with_reducible refine (H0.out _).mono ?_));rintro e wv ⟨rfl,rfl⟩))
  go_ret
  exact ⟨by rw [HV.out];rfl,HE.out⟩
 | true =>
  rw [e0] at HV
  have H0:=zh (fun W=>aN tO 0 15 W)
  rw [show dA tO 0 15=true from e0] at H0
  clear e0
  cases e1:aQ true am 1 1099511627776 with
  | false =>
   rw [e1] at HV
   have H1:=zh (fun W=>aN am 1 1099511627776 W)
   rw [show dA am 1 1099511627776=false from e1] at H1
   clear e1
   have HV:=zh (show vOp _=false from by rw [HV.out];simp)
   go_enter Tryz.func85,Tryz.ntmps85
   go_wp2_with ((go_at_call 73;(first | (with_reducible refine (HK.out _).mono ?_) | (with_reducible refine (H0.out _).mono ?_) | (with_reducible refine (H1.out _).mono ?_));rintro e wv ⟨rfl,rfl⟩))
   go_ret
   exact ⟨by rw [HV.out];rfl,HE.out⟩
  | true =>
   rw [e1] at HV
   have H1:=zh (fun W=>aN am 1 1099511627776 W)
   rw [show dA am 1 1099511627776=true from e1] at H1
   clear e1
   cases e2:aQ true ul 1 1000 with
   | false =>
    rw [e2] at HV
    have H2:=zh (fun W=>aN ul 1 1000 W)
    rw [show dA ul 1 1000=false from e2] at H2
    clear e2
    have HV:=zh (show vOp _=false from by rw [HV.out];simp)
    go_enter Tryz.func85,Tryz.ntmps85
    go_wp2_with ((go_at_call 73;(first | (with_reducible refine (HK.out _).mono ?_) | (with_reducible refine (H0.out _).mono ?_) | (with_reducible refine (H1.out _).mono ?_) | (with_reducible refine (H2.out _).mono ?_));rintro e wv ⟨rfl,rfl⟩))
    go_ret
    exact ⟨by rw [HV.out];rfl,HE.out⟩
   | true =>
    rw [e2] at HV
    have H2:=zh (fun W=>aN ul 1 1000 W)
    rw [show dA ul 1 1000=true from e2] at H2
    clear e2
    cases e3:aQ false va 0 9 with
    | false =>
     rw [e3] at HV
     have z3:decide (va=0)=false:=e3
     have y3:(va == 0)=false:=by rw [← z3];exact (by rw [Bool.eq_iff_iff];simp)
     have x3:(va != 0)=true:=by rw [bne,y3];rfl
     clear e3
     have HV:=zh (show vOp _=false from by rw [HV.out];simp)
     go_enter Tryz.func85,Tryz.ntmps85
     go_wp2_with ((go_at_call 73;(first | (with_reducible refine (HK.out _).mono ?_) | (with_reducible refine (H0.out _).mono ?_) | (with_reducible refine (H1.out _).mono ?_) | (with_reducible refine (H2.out _).mono ?_));rintro e wv ⟨rfl,rfl⟩))
     go_ret
     exact ⟨by rw [HV.out];rfl,HE.out⟩
    | true =>
     rw [e3] at HV
     have z3:decide (va=0)=true:=e3
     have y3:(va == 0)=true:=by rw [← z3];exact (by rw [Bool.eq_iff_iff];simp)
     have x3:(va != 0)=false:=by rw [bne,y3];rfl
     clear e3
     cases e4:decide (lk=(0:UInt64)) with
     | false =>
      rw [e4] at HV
      have q4:=fun W=>cU lk 0 W
      rw [e4,aV] at q4
      clear e4
      have HV:=zh (show vOp _=false from by rw [HV.out];simp)
      go_enter Tryz.func85,Tryz.ntmps85
      go_wp2_with ((go_at_call 73;(first | (with_reducible refine (HK.out _).mono ?_) | (with_reducible refine (H0.out _).mono ?_) | (with_reducible refine (H1.out _).mono ?_) | (with_reducible refine (H2.out _).mono ?_));rintro e wv ⟨rfl,rfl⟩))
      go_ret
      exact ⟨by rw [HV.out];rfl,HE.out⟩
     | true =>
      rw [e4] at HV
      have q4:=fun W=>cU lk 0 W
      rw [e4,aV] at q4
      clear e4
      cases e6:aQ false (n1:Int) 0 32 with
      | false =>
       rw [e6] at HV
       have x6:decide ((0:Int) < (n1:Int))=true:=by unfold aQ at e6;simp at e6 ⊢;omega
       have x6n:decide (0 < n1)=true:=by unfold aQ at e6;simp at e6 ⊢;omega
       clear e6
       have HV:=zh (show vOp _=false from by rw [HV.out];simp)
       go_enter Tryz.func85,Tryz.ntmps85
       go_wp2_with ((go_at_call 73;(first | (with_reducible refine (HK.out _).mono ?_) | (with_reducible refine (H0.out _).mono ?_) | (with_reducible refine (H1.out _).mono ?_) | (with_reducible refine (H2.out _).mono ?_));rintro e wv ⟨rfl,rfl⟩))
       go_ret
       exact ⟨by rw [HV.out];rfl,HE.out⟩
      | true =>
       rw [e6] at HV
       have x6:decide ((0:Int) < (n1:Int))=false:=by unfold aQ at e6;simp at e6 ⊢;omega
       have x6n:decide (0 < n1)=false:=by unfold aQ at e6;simp at e6 ⊢;omega
       clear e6
       cases e7:aQ false (n2:Int) 1 2000 with
       | false =>
        rw [e7] at HV
        have z7:decide ((n2:Int)=0)=false:=e7
        have y7:((n2:Int) == 0)=false:=by rw [← z7];exact (by rw [Bool.eq_iff_iff];simp)
        have x7:((n2:Int) != 0)=true:=by rw [bne,y7];rfl
        clear e7
        have HV:=zh (show vOp _=false from by rw [HV.out];simp)
        go_enter Tryz.func85,Tryz.ntmps85
        go_wp2_with ((go_at_call 73;(first | (with_reducible refine (HK.out _).mono ?_) | (with_reducible refine (H0.out _).mono ?_) | (with_reducible refine (H1.out _).mono ?_) | (with_reducible refine (H2.out _).mono ?_));rintro e wv ⟨rfl,rfl⟩))
        go_ret
        exact ⟨by rw [HV.out];rfl,HE.out⟩
       | true =>
        rw [e7] at HV
        have z7:decide ((n2:Int)=0)=true:=e7
        have y7:((n2:Int) == 0)=true:=by rw [← z7];exact (by rw [Bool.eq_iff_iff];simp)
        have x7:((n2:Int) != 0)=false:=by rw [bne,y7];rfl
        clear e7
        have HV:=zh (show vOp _=true from by rw [HV.out];simp)
        go_enter Tryz.func85,Tryz.ntmps85
        go_wp2_with ((go_at_call 73;(first | (with_reducible refine (HK.out _).mono ?_) | (with_reducible refine (H0.out _).mono ?_) | (with_reducible refine (H1.out _).mono ?_) | (with_reducible refine (H2.out _).mono ?_));rintro e wv ⟨rfl,rfl⟩))
        go_ret
        exact ⟨by rw [HV.out];rfl,HE.out⟩
theorem zM (tO am ul va:Int) (lk hs:UInt64) (A1:Option Addr) (n1 c1:Nat) (pre:List UInt8) (A2:Option Addr) (n2 c2:Nat) (prf:List UInt8) (w:World) (l1:(n1:Int)≤9223372036854775807) (l2:(n2:Int)≤9223372036854775807) :
  Calls Tryz.prog 85 #[.agg (opA ⟨3,tO,am,ul,va,lk,hs,A1,n1,c1,pre,A2,n2,c2,prf⟩)] w fun e w'=>e=.returned (.bool (vOp ⟨3,tO,am,ul,va,lk,hs,A1,n1,c1,pre,A2,n2,c2,prf⟩))∧Ext w w':=by
 have HE:=zh ((Ext.refl w).alloc' (.cells (opA ⟨3,tO,am,ul,va,lk,hs,A1,n1,c1,pre,A2,n2,c2,prf⟩) 69))
 have HK:=zh (fun W=>eG 3 1 6 (by omega) W)
 have HV:=zh (show vOp ⟨3,tO,am,ul,va,lk,hs,A1,n1,c1,pre,A2,n2,c2,prf⟩=(aQ true tO 0 15 && (aQ true am 1 1099511627776 && (aQ false ul 1 1000 && (aQ false va 0 9 && (aQ true (n1:Int) 0 32 && (aQ false (n2:Int) 1 2000 && (decide (hs=(0:UInt64)) && true))))))) from rfl)
 cases e0:aQ true tO 0 15 with
 | false =>
  rw [e0] at HV
  have H0:=zh (fun W=>aN tO 0 15 W)
  rw [show dA tO 0 15=false from e0] at H0
  clear e0
  have HV:=zh (show vOp _=false from by rw [HV.out];simp)
  go_enter Tryz.func85,Tryz.ntmps85
  go_wp2_with ((go_at_call 73;(first | (with_reducible refine (HK.out _).mono ?_) | (with_reducible refine (H0.out _).mono ?_));rintro e wv ⟨rfl,rfl⟩))
  go_ret
  exact ⟨by rw [HV.out];rfl,HE.out⟩
 | true =>
  rw [e0] at HV
  have H0:=zh (fun W=>aN tO 0 15 W)
  rw [show dA tO 0 15=true from e0] at H0
  clear e0
  cases e1:aQ true am 1 1099511627776 with
  | false =>
   rw [e1] at HV
   have H1:=zh (fun W=>aN am 1 1099511627776 W)
   rw [show dA am 1 1099511627776=false from e1] at H1
   clear e1
   have HV:=zh (show vOp _=false from by rw [HV.out];simp)
   go_enter Tryz.func85,Tryz.ntmps85
   go_wp2_with ((go_at_call 73;(first | (with_reducible refine (HK.out _).mono ?_) | (with_reducible refine (H0.out _).mono ?_) | (with_reducible refine (H1.out _).mono ?_));rintro e wv ⟨rfl,rfl⟩))
   go_ret
   exact ⟨by rw [HV.out];rfl,HE.out⟩
  | true =>
   rw [e1] at HV
   have H1:=zh (fun W=>aN am 1 1099511627776 W)
   rw [show dA am 1 1099511627776=true from e1] at H1
   clear e1
   cases e2:aQ false ul 1 1000 with
   | false =>
    rw [e2] at HV
    have z2:decide (ul=0)=false:=e2
    have y2:(ul == 0)=false:=by rw [← z2];exact (by rw [Bool.eq_iff_iff];simp)
    have x2:(ul != 0)=true:=by rw [bne,y2];rfl
    clear e2
    have HV:=zh (show vOp _=false from by rw [HV.out];simp)
    go_enter Tryz.func85,Tryz.ntmps85
    go_wp2_with ((go_at_call 73;(first | (with_reducible refine (HK.out _).mono ?_) | (with_reducible refine (H0.out _).mono ?_) | (with_reducible refine (H1.out _).mono ?_));rintro e wv ⟨rfl,rfl⟩))
    go_ret
    exact ⟨by rw [HV.out];rfl,HE.out⟩
   | true =>
    rw [e2] at HV
    have z2:decide (ul=0)=true:=e2
    have y2:(ul == 0)=true:=by rw [← z2];exact (by rw [Bool.eq_iff_iff];simp)
    have x2:(ul != 0)=false:=by rw [bne,y2];rfl
    clear e2
    cases e3:aQ false va 0 9 with
    | false =>
     rw [e3] at HV
     have z3:decide (va=0)=false:=e3
     have y3:(va == 0)=false:=by rw [← z3];exact (by rw [Bool.eq_iff_iff];simp)
     have x3:(va != 0)=true:=by rw [bne,y3];rfl
     clear e3
     have HV:=zh (show vOp _=false from by rw [HV.out];simp)
     go_enter Tryz.func85,Tryz.ntmps85
     go_wp2_with ((go_at_call 73;(first | (with_reducible refine (HK.out _).mono ?_) | (with_reducible refine (H0.out _).mono ?_) | (with_reducible refine (H1.out _).mono ?_));rintro e wv ⟨rfl,rfl⟩))
     go_ret
     exact ⟨by rw [HV.out];rfl,HE.out⟩
    | true =>
     rw [e3] at HV
     have z3:decide (va=0)=true:=e3
     have y3:(va == 0)=true:=by rw [← z3];exact (by rw [Bool.eq_iff_iff];simp)
     have x3:(va != 0)=false:=by rw [bne,y3];rfl
     clear e3
     cases e5:decide (hs=(0:UInt64)) with
     | false =>
      rw [e5] at HV
      have q5:=fun W=>cU hs 0 W
      rw [e5,aV] at q5
      clear e5
      have HV:=zh (show vOp _=false from by rw [HV.out];simp)
      go_enter Tryz.func85,Tryz.ntmps85
      go_wp2_with ((go_at_call 73;(first | (with_reducible refine (HK.out _).mono ?_) | (with_reducible refine (H0.out _).mono ?_) | (with_reducible refine (H1.out _).mono ?_));rintro e wv ⟨rfl,rfl⟩))
      go_ret
      exact ⟨by rw [HV.out];rfl,HE.out⟩
     | true =>
      rw [e5] at HV
      have q5:=fun W=>cU hs 0 W
      rw [e5,aV] at q5
      clear e5
      cases e6:aQ true (n1:Int) 0 32 with
      | false =>
       rw [e6] at HV
       have x6:decide ((32:Int) < (n1:Int))=true:=by unfold aQ at e6;simp at e6 ⊢;omega
       clear e6
       have HV:=zh (show vOp _=false from by rw [HV.out];simp)
       go_enter Tryz.func85,Tryz.ntmps85
       go_wp2_with ((go_at_call 73;(first | (with_reducible refine (HK.out _).mono ?_) | (with_reducible refine (H0.out _).mono ?_) | (with_reducible refine (H1.out _).mono ?_));rintro e wv ⟨rfl,rfl⟩))
       go_ret
       exact ⟨by rw [HV.out];rfl,HE.out⟩
      | true =>
       rw [e6] at HV
       have x6:decide ((32:Int) < (n1:Int))=false:=by unfold aQ at e6;simp at e6 ⊢;omega
       clear e6
       cases e7:aQ false (n2:Int) 1 2000 with
       | false =>
        rw [e7] at HV
        have z7:decide ((n2:Int)=0)=false:=e7
        have y7:((n2:Int) == 0)=false:=by rw [← z7];exact (by rw [Bool.eq_iff_iff];simp)
        have x7:((n2:Int) != 0)=true:=by rw [bne,y7];rfl
        clear e7
        have HV:=zh (show vOp _=false from by rw [HV.out];simp)
        go_enter Tryz.func85,Tryz.ntmps85
        go_wp2_with ((go_at_call 73;(first | (with_reducible refine (HK.out _).mono ?_) | (with_reducible refine (H0.out _).mono ?_) | (with_reducible refine (H1.out _).mono ?_));rintro e wv ⟨rfl,rfl⟩))
        go_ret
        exact ⟨by rw [HV.out];rfl,HE.out⟩
       | true =>
        rw [e7] at HV
        have z7:decide ((n2:Int)=0)=true:=e7
        have y7:((n2:Int) == 0)=true:=by rw [← z7];exact (by rw [Bool.eq_iff_iff];simp)
        have x7:((n2:Int) != 0)=false:=by rw [bne,y7];rfl
        clear e7
        have HV:=zh (show vOp _=true from by rw [HV.out];simp)
        go_enter Tryz.func85,Tryz.ntmps85
        go_wp2_with ((go_at_call 73;(first | (with_reducible refine (HK.out _).mono ?_) | (with_reducible refine (H0.out _).mono ?_) | (with_reducible refine (H1.out _).mono ?_));rintro e wv ⟨rfl,rfl⟩))
        go_ret
        exact ⟨by rw [HV.out];rfl,HE.out⟩
end
end Go.Proofs.YtohmmcahpakokaaGreat
