/- validOp and Validate (the program's). -/
import Derived.Test.YtohmmcahpakokaaGreatK08
set_option maxRecDepth 100000
set_option maxHeartbeats 8000000
set_option linter.unusedVariables false
set_option linter.unusedSimpArgs false
namespace Go.Proofs.YtohmmcahpakokaaGreat
open Go.RowKit
attribute [local go_sem ↓] Go.wp_at_zero Go.wp_at_succ
theorem vOp_no {R:OpR} (h:¬ (1≤R.k∧R.k≤6)):vOp R=false:=by unfold vOp;rw [decide_eq_false h,Bool.false_and]
theorem nmc_zero_lit:nmc 0=#[.int .u8 0,.int .u8 0,.int .u8 0,.int .u8 0,.int .u8 0,.int .u8 0,.int .u8 0,.int .u8 0]:=zcs_nmc.symm
theorem row_cases8 (b1 b2 b3 b4 b5 b6 b7 b8:Bool):b1=false ∨ (b1=true∧b2=false) ∨ (b1=true∧b2=true∧b3=false) ∨ (b1=true∧b2=true∧b3=true∧b4=false) ∨ (b1=true∧b2=true∧b3=true∧b4=true∧b5=false) ∨ (b1=true∧b2=true∧b3=true∧b4=true∧b5=true∧b6=false) ∨ (b1=true∧b2=true∧b3=true∧b4=true∧b5=true∧b6=true∧b7=false) ∨ (b1=true∧b2=true∧b3=true∧b4=true∧b5=true∧b6=true∧b7=true∧b8=false) ∨ (b1=true∧b2=true∧b3=true∧b4=true∧b5=true∧b6=true∧b7=true∧b8=true):=by
 cases b1 <;> simp
 cases b2 <;> simp
 cases b3 <;> simp
 cases b4 <;> simp
 cases b5 <;> simp
 cases b6 <;> simp
 cases b7 <;> simp
theorem validOp_no (R:OpR) (h:¬ (1≤R.k∧R.k≤6)) (w:World) :
  Calls Tryz.prog 81 #[.agg (opA R)] w fun e w'=>e=.returned (.bool false)∧Ext w w':=by
 have HU:=zh (fun W=>uses_any R.k W)
 rw [usesK_no h] at HU
 have HE:=zh ((Ext.refl w).alloc' (.cells (opA R) 69))
 clear h
 go_enter Tryz.func81,Tryz.ntmps81
 simp only [lapp_cons,lapp_nil]
 go_wp2_with (go_at_call 141;(with_reducible refine (HU.out _).mono ?_);rintro e wv ⟨rfl,rfl⟩)
 go_ret
 exact ⟨rfl,HE.out⟩
theorem validOp_1 (R:OpR) (h:R.k=1) (w:World) (hR:R.ok w) :
  Calls Tryz.prog 81 #[.agg (opA R)] w fun e w'=>e=.returned (.bool (vOp R))∧Ext w w':=by
 have HU:=zh (fun W=>uses_any R.k W)
 rw [show usesK R.k=5 from by rw [h];decide] at HU
 have l1:(R.n1:Int)≤9223372036854775807:=by have:=hR.pre.le;have:=hR.pre.cap;omega
 have l2:(R.n2:Int)≤9223372036854775807:=by have:=hR.prf.le;have:=hR.prf.cap;omega
 obtain ⟨b1,e1⟩:∃ b,numU true R.tO 0 15=b:=⟨_,rfl⟩
 have H1:=zh (fun W=>txNumber_any true R.tO 0 15 W)
 rw [e1] at H1
 obtain ⟨b2,e2⟩:∃ b,numU true R.am 1 1099511627776=b:=⟨_,rfl⟩
 have H2:=zh (fun W=>txNumber_any true R.am 1 1099511627776 W)
 rw [e2] at H2
 obtain ⟨b3,e3⟩:∃ b,numU false R.ul 1 1000=b:=⟨_,rfl⟩
 have H3:=zh (fun W=>txNumber_any false R.ul 1 1000 W)
 rw [e3] at H3
 obtain ⟨b4,e4⟩:∃ b,numU false R.va 0 9=b:=⟨_,rfl⟩
 have H4:=zh (fun W=>txNumber_any false R.va 0 9 W)
 rw [e4] at H4
 obtain ⟨b5,e5⟩:∃ b,numU false (R.n1:Int) 0 32=b:=⟨_,rfl⟩
 have H5:=zh (fun W=>txNumber_any false (R.n1:Int) 0 32 W)
 rw [e5] at H5
 obtain ⟨b6,e6⟩:∃ b,numU false (R.n2:Int) 1 2000=b:=⟨_,rfl⟩
 have H6:=zh (fun W=>txNumber_any false (R.n2:Int) 1 2000 W)
 rw [e6] at H6
 have E7:=zh (fun W=>run_eqN R.hs 0 W)
 have E8:=zh (fun W=>run_eqN R.lk 0 W)
 obtain ⟨b7,e7⟩:∃ b,decide (R.hs=0)=b:=⟨_,rfl⟩
 obtain ⟨b8,e8⟩:∃ b,decide (R.lk=0)=b:=⟨_,rfl⟩
 have HV:=zh (show vOp R=(b1 && (b2 && (b3 && (b4 && (b5 && (b6 && (b7 && b8))))))) by
  rw [← e1,← e2,← e3,← e4,← e5,← e6,← e7,← e8];unfold vOp;rw [h];rfl)
 rw [e7] at E7
 rw [e8] at E8
 have q7:=E7.out
 have q8:=E8.out
 rw [nmc_zero_lit] at q7 q8
 have HE:=zh ((Ext.refl w).alloc' (.cells (opA R) 69))
 have hc:=row_cases8 b1 b2 b3 b4 b5 b6 b7 b8
 clear hR h e1 e2 e3 e4 e5 e6 E7 E8
 rcases hc with rfl | ⟨rfl,rfl⟩ | ⟨rfl,rfl,rfl⟩ | ⟨rfl,rfl,rfl,rfl⟩ | ⟨rfl,rfl,rfl,rfl,rfl⟩ | ⟨rfl,rfl,rfl,rfl,rfl,rfl⟩ | ⟨rfl,rfl,rfl,rfl,rfl,rfl,rfl⟩ | ⟨rfl,rfl,rfl,rfl,rfl,rfl,rfl,rfl⟩ | ⟨rfl,rfl,rfl,rfl,rfl,rfl,rfl,rfl⟩
 all_goals first
  | (exfalso;first | exact absurd e7 (by decide) | exact absurd e8 (by decide))
  | (
   clear e7 e8
   go_enter Tryz.func81,Tryz.ntmps81
   simp only [lapp_cons,lapp_nil]
   go_wp2_with (first | (go_at_call 141;(with_reducible refine (HU.out _).mono ?_);rintro e wv ⟨rfl,rfl⟩) | (go_at_call 142;(first | (with_reducible refine (H1.out _).mono ?_) | (with_reducible refine (H2.out _).mono ?_) | (with_reducible refine (H3.out _).mono ?_) | (with_reducible refine (H4.out _).mono ?_) | (with_reducible refine (H5.out _).mono ?_) | (with_reducible refine (H6.out _).mono ?_));rintro e wv ⟨rfl,rfl⟩))
   go_ret
   exact ⟨by rw [HV.out];rfl,HE.out⟩)
theorem validOp_2 (R:OpR) (h:R.k=2) (w:World) (hR:R.ok w) :
  Calls Tryz.prog 81 #[.agg (opA R)] w fun e w'=>e=.returned (.bool (vOp R))∧Ext w w':=by
 have HU:=zh (fun W=>uses_any R.k W)
 rw [show usesK R.k=29 from by rw [h];decide] at HU
 have l1:(R.n1:Int)≤9223372036854775807:=by have:=hR.pre.le;have:=hR.pre.cap;omega
 have l2:(R.n2:Int)≤9223372036854775807:=by have:=hR.prf.le;have:=hR.prf.cap;omega
 obtain ⟨b1,e1⟩:∃ b,numU true R.tO 0 15=b:=⟨_,rfl⟩
 have H1:=zh (fun W=>txNumber_any true R.tO 0 15 W)
 rw [e1] at H1
 obtain ⟨b2,e2⟩:∃ b,numU true R.am 1 1099511627776=b:=⟨_,rfl⟩
 have H2:=zh (fun W=>txNumber_any true R.am 1 1099511627776 W)
 rw [e2] at H2
 obtain ⟨b3,e3⟩:∃ b,numU true R.ul 1 1000=b:=⟨_,rfl⟩
 have H3:=zh (fun W=>txNumber_any true R.ul 1 1000 W)
 rw [e3] at H3
 obtain ⟨b4,e4⟩:∃ b,numU false R.va 0 9=b:=⟨_,rfl⟩
 have H4:=zh (fun W=>txNumber_any false R.va 0 9 W)
 rw [e4] at H4
 obtain ⟨b5,e5⟩:∃ b,numU false (R.n1:Int) 0 32=b:=⟨_,rfl⟩
 have H5:=zh (fun W=>txNumber_any false (R.n1:Int) 0 32 W)
 rw [e5] at H5
 obtain ⟨b6,e6⟩:∃ b,numU false (R.n2:Int) 1 2000=b:=⟨_,rfl⟩
 have H6:=zh (fun W=>txNumber_any false (R.n2:Int) 1 2000 W)
 rw [e6] at H6
 have E7:=zh (fun W=>run_eqN R.hs 0 W)
 have E8:=zh (fun W=>run_eqN R.lk 0 W)
 obtain ⟨b7,e7⟩:∃ b,true=b:=⟨_,rfl⟩
 obtain ⟨b8,e8⟩:∃ b,decide (R.lk=0)=b:=⟨_,rfl⟩
 have HV:=zh (show vOp R=(b1 && (b2 && (b3 && (b4 && (b5 && (b6 && (b7 && b8))))))) by
  rw [← e1,← e2,← e3,← e4,← e5,← e6,← e7,← e8];unfold vOp;rw [h];rfl)
 rw [e8] at E8
 have q7:=E7.out
 have q8:=E8.out
 rw [nmc_zero_lit] at q7 q8
 have HE:=zh ((Ext.refl w).alloc' (.cells (opA R) 69))
 have hc:=row_cases8 b1 b2 b3 b4 b5 b6 b7 b8
 clear hR h e1 e2 e3 e4 e5 e6 E7 E8
 rcases hc with rfl | ⟨rfl,rfl⟩ | ⟨rfl,rfl,rfl⟩ | ⟨rfl,rfl,rfl,rfl⟩ | ⟨rfl,rfl,rfl,rfl,rfl⟩ | ⟨rfl,rfl,rfl,rfl,rfl,rfl⟩ | ⟨rfl,rfl,rfl,rfl,rfl,rfl,rfl⟩ | ⟨rfl,rfl,rfl,rfl,rfl,rfl,rfl,rfl⟩ | ⟨rfl,rfl,rfl,rfl,rfl,rfl,rfl,rfl⟩
 all_goals first
  | (exfalso;first | exact absurd e7 (by decide) | exact absurd e8 (by decide))
  | (
   clear e7 e8
   go_enter Tryz.func81,Tryz.ntmps81
   simp only [lapp_cons,lapp_nil]
   go_wp2_with (first | (go_at_call 141;(with_reducible refine (HU.out _).mono ?_);rintro e wv ⟨rfl,rfl⟩) | (go_at_call 142;(first | (with_reducible refine (H1.out _).mono ?_) | (with_reducible refine (H2.out _).mono ?_) | (with_reducible refine (H3.out _).mono ?_) | (with_reducible refine (H4.out _).mono ?_) | (with_reducible refine (H5.out _).mono ?_) | (with_reducible refine (H6.out _).mono ?_));rintro e wv ⟨rfl,rfl⟩))
   go_ret
   exact ⟨by rw [HV.out];rfl,HE.out⟩)
theorem validOp_3 (R:OpR) (h:R.k=3) (w:World) (hR:R.ok w) :
  Calls Tryz.prog 81 #[.agg (opA R)] w fun e w'=>e=.returned (.bool (vOp R))∧Ext w w':=by
 have HU:=zh (fun W=>uses_any R.k W)
 rw [show usesK R.k=101 from by rw [h];decide] at HU
 have l1:(R.n1:Int)≤9223372036854775807:=by have:=hR.pre.le;have:=hR.pre.cap;omega
 have l2:(R.n2:Int)≤9223372036854775807:=by have:=hR.prf.le;have:=hR.prf.cap;omega
 obtain ⟨b1,e1⟩:∃ b,numU true R.tO 0 15=b:=⟨_,rfl⟩
 have H1:=zh (fun W=>txNumber_any true R.tO 0 15 W)
 rw [e1] at H1
 obtain ⟨b2,e2⟩:∃ b,numU true R.am 1 1099511627776=b:=⟨_,rfl⟩
 have H2:=zh (fun W=>txNumber_any true R.am 1 1099511627776 W)
 rw [e2] at H2
 obtain ⟨b3,e3⟩:∃ b,numU false R.ul 1 1000=b:=⟨_,rfl⟩
 have H3:=zh (fun W=>txNumber_any false R.ul 1 1000 W)
 rw [e3] at H3
 obtain ⟨b4,e4⟩:∃ b,numU false R.va 0 9=b:=⟨_,rfl⟩
 have H4:=zh (fun W=>txNumber_any false R.va 0 9 W)
 rw [e4] at H4
 obtain ⟨b5,e5⟩:∃ b,numU true (R.n1:Int) 0 32=b:=⟨_,rfl⟩
 have H5:=zh (fun W=>txNumber_any true (R.n1:Int) 0 32 W)
 rw [e5] at H5
 obtain ⟨b6,e6⟩:∃ b,numU false (R.n2:Int) 1 2000=b:=⟨_,rfl⟩
 have H6:=zh (fun W=>txNumber_any false (R.n2:Int) 1 2000 W)
 rw [e6] at H6
 have E7:=zh (fun W=>run_eqN R.hs 0 W)
 have E8:=zh (fun W=>run_eqN R.lk 0 W)
 obtain ⟨b7,e7⟩:∃ b,decide (R.hs=0)=b:=⟨_,rfl⟩
 obtain ⟨b8,e8⟩:∃ b,true=b:=⟨_,rfl⟩
 have HV:=zh (show vOp R=(b1 && (b2 && (b3 && (b4 && (b5 && (b6 && (b7 && b8))))))) by
  rw [← e1,← e2,← e3,← e4,← e5,← e6,← e7,← e8];unfold vOp;rw [h];rfl)
 rw [e7] at E7
 have q7:=E7.out
 have q8:=E8.out
 rw [nmc_zero_lit] at q7 q8
 have HE:=zh ((Ext.refl w).alloc' (.cells (opA R) 69))
 have hc:=row_cases8 b1 b2 b3 b4 b5 b6 b7 b8
 clear hR h e1 e2 e3 e4 e5 e6 E7 E8
 rcases hc with rfl | ⟨rfl,rfl⟩ | ⟨rfl,rfl,rfl⟩ | ⟨rfl,rfl,rfl,rfl⟩ | ⟨rfl,rfl,rfl,rfl,rfl⟩ | ⟨rfl,rfl,rfl,rfl,rfl,rfl⟩ | ⟨rfl,rfl,rfl,rfl,rfl,rfl,rfl⟩ | ⟨rfl,rfl,rfl,rfl,rfl,rfl,rfl,rfl⟩ | ⟨rfl,rfl,rfl,rfl,rfl,rfl,rfl,rfl⟩
 all_goals first
  | (exfalso;first | exact absurd e7 (by decide) | exact absurd e8 (by decide))
  | (
   clear e7 e8
   go_enter Tryz.func81,Tryz.ntmps81
   simp only [lapp_cons,lapp_nil]
   go_wp2_with (first | (go_at_call 141;(with_reducible refine (HU.out _).mono ?_);rintro e wv ⟨rfl,rfl⟩) | (go_at_call 142;(first | (with_reducible refine (H1.out _).mono ?_) | (with_reducible refine (H2.out _).mono ?_) | (with_reducible refine (H3.out _).mono ?_) | (with_reducible refine (H4.out _).mono ?_) | (with_reducible refine (H5.out _).mono ?_) | (with_reducible refine (H6.out _).mono ?_));rintro e wv ⟨rfl,rfl⟩))
   go_ret
   exact ⟨by rw [HV.out];rfl,HE.out⟩)
theorem validOp_4 (R:OpR) (h:R.k=4) (w:World) (hR:R.ok w) :
  Calls Tryz.prog 81 #[.agg (opA R)] w fun e w'=>e=.returned (.bool (vOp R))∧Ext w w':=by
 have HU:=zh (fun W=>uses_any R.k W)
 rw [show usesK R.k=37 from by rw [h];decide] at HU
 have l1:(R.n1:Int)≤9223372036854775807:=by have:=hR.pre.le;have:=hR.pre.cap;omega
 have l2:(R.n2:Int)≤9223372036854775807:=by have:=hR.prf.le;have:=hR.prf.cap;omega
 obtain ⟨b1,e1⟩:∃ b,numU true R.tO 0 15=b:=⟨_,rfl⟩
 have H1:=zh (fun W=>txNumber_any true R.tO 0 15 W)
 rw [e1] at H1
 obtain ⟨b2,e2⟩:∃ b,numU true R.am 1 1099511627776=b:=⟨_,rfl⟩
 have H2:=zh (fun W=>txNumber_any true R.am 1 1099511627776 W)
 rw [e2] at H2
 obtain ⟨b3,e3⟩:∃ b,numU false R.ul 1 1000=b:=⟨_,rfl⟩
 have H3:=zh (fun W=>txNumber_any false R.ul 1 1000 W)
 rw [e3] at H3
 obtain ⟨b4,e4⟩:∃ b,numU false R.va 0 9=b:=⟨_,rfl⟩
 have H4:=zh (fun W=>txNumber_any false R.va 0 9 W)
 rw [e4] at H4
 obtain ⟨b5,e5⟩:∃ b,numU false (R.n1:Int) 0 32=b:=⟨_,rfl⟩
 have H5:=zh (fun W=>txNumber_any false (R.n1:Int) 0 32 W)
 rw [e5] at H5
 obtain ⟨b6,e6⟩:∃ b,numU false (R.n2:Int) 1 2000=b:=⟨_,rfl⟩
 have H6:=zh (fun W=>txNumber_any false (R.n2:Int) 1 2000 W)
 rw [e6] at H6
 have E7:=zh (fun W=>run_eqN R.hs 0 W)
 have E8:=zh (fun W=>run_eqN R.lk 0 W)
 obtain ⟨b7,e7⟩:∃ b,decide (R.hs=0)=b:=⟨_,rfl⟩
 obtain ⟨b8,e8⟩:∃ b,true=b:=⟨_,rfl⟩
 have HV:=zh (show vOp R=(b1 && (b2 && (b3 && (b4 && (b5 && (b6 && (b7 && b8))))))) by
  rw [← e1,← e2,← e3,← e4,← e5,← e6,← e7,← e8];unfold vOp;rw [h];rfl)
 rw [e7] at E7
 have q7:=E7.out
 have q8:=E8.out
 rw [nmc_zero_lit] at q7 q8
 have HE:=zh ((Ext.refl w).alloc' (.cells (opA R) 69))
 have hc:=row_cases8 b1 b2 b3 b4 b5 b6 b7 b8
 clear hR h e1 e2 e3 e4 e5 e6 E7 E8
 rcases hc with rfl | ⟨rfl,rfl⟩ | ⟨rfl,rfl,rfl⟩ | ⟨rfl,rfl,rfl,rfl⟩ | ⟨rfl,rfl,rfl,rfl,rfl⟩ | ⟨rfl,rfl,rfl,rfl,rfl,rfl⟩ | ⟨rfl,rfl,rfl,rfl,rfl,rfl,rfl⟩ | ⟨rfl,rfl,rfl,rfl,rfl,rfl,rfl,rfl⟩ | ⟨rfl,rfl,rfl,rfl,rfl,rfl,rfl,rfl⟩
 all_goals first
  | (exfalso;first | exact absurd e7 (by decide) | exact absurd e8 (by decide))
  | (
   clear e7 e8
   go_enter Tryz.func81,Tryz.ntmps81
   simp only [lapp_cons,lapp_nil]
   go_wp2_with (first | (go_at_call 141;(with_reducible refine (HU.out _).mono ?_);rintro e wv ⟨rfl,rfl⟩) | (go_at_call 142;(first | (with_reducible refine (H1.out _).mono ?_) | (with_reducible refine (H2.out _).mono ?_) | (with_reducible refine (H3.out _).mono ?_) | (with_reducible refine (H4.out _).mono ?_) | (with_reducible refine (H5.out _).mono ?_) | (with_reducible refine (H6.out _).mono ?_));rintro e wv ⟨rfl,rfl⟩))
   go_ret
   exact ⟨by rw [HV.out];rfl,HE.out⟩)
theorem validOp_5 (R:OpR) (h:R.k=5) (w:World) (hR:R.ok w) :
  Calls Tryz.prog 81 #[.agg (opA R)] w fun e w'=>e=.returned (.bool (vOp R))∧Ext w w':=by
 have HU:=zh (fun W=>uses_any R.k W)
 rw [show usesK R.k=6 from by rw [h];decide] at HU
 have l1:(R.n1:Int)≤9223372036854775807:=by have:=hR.pre.le;have:=hR.pre.cap;omega
 have l2:(R.n2:Int)≤9223372036854775807:=by have:=hR.prf.le;have:=hR.prf.cap;omega
 obtain ⟨b1,e1⟩:∃ b,numU false R.tO 0 15=b:=⟨_,rfl⟩
 have H1:=zh (fun W=>txNumber_any false R.tO 0 15 W)
 rw [e1] at H1
 obtain ⟨b2,e2⟩:∃ b,numU true R.am 1 1099511627776=b:=⟨_,rfl⟩
 have H2:=zh (fun W=>txNumber_any true R.am 1 1099511627776 W)
 rw [e2] at H2
 obtain ⟨b3,e3⟩:∃ b,numU false R.ul 1 1000=b:=⟨_,rfl⟩
 have H3:=zh (fun W=>txNumber_any false R.ul 1 1000 W)
 rw [e3] at H3
 obtain ⟨b4,e4⟩:∃ b,numU true R.va 0 9=b:=⟨_,rfl⟩
 have H4:=zh (fun W=>txNumber_any true R.va 0 9 W)
 rw [e4] at H4
 obtain ⟨b5,e5⟩:∃ b,numU false (R.n1:Int) 0 32=b:=⟨_,rfl⟩
 have H5:=zh (fun W=>txNumber_any false (R.n1:Int) 0 32 W)
 rw [e5] at H5
 obtain ⟨b6,e6⟩:∃ b,numU false (R.n2:Int) 1 2000=b:=⟨_,rfl⟩
 have H6:=zh (fun W=>txNumber_any false (R.n2:Int) 1 2000 W)
 rw [e6] at H6
 have E7:=zh (fun W=>run_eqN R.hs 0 W)
 have E8:=zh (fun W=>run_eqN R.lk 0 W)
 obtain ⟨b7,e7⟩:∃ b,decide (R.hs=0)=b:=⟨_,rfl⟩
 obtain ⟨b8,e8⟩:∃ b,decide (R.lk=0)=b:=⟨_,rfl⟩
 have HV:=zh (show vOp R=(b1 && (b2 && (b3 && (b4 && (b5 && (b6 && (b7 && b8))))))) by
  rw [← e1,← e2,← e3,← e4,← e5,← e6,← e7,← e8];unfold vOp;rw [h];rfl)
 rw [e7] at E7
 rw [e8] at E8
 have q7:=E7.out
 have q8:=E8.out
 rw [nmc_zero_lit] at q7 q8
 have HE:=zh ((Ext.refl w).alloc' (.cells (opA R) 69))
 have hc:=row_cases8 b1 b2 b3 b4 b5 b6 b7 b8
 clear hR h e1 e2 e3 e4 e5 e6 E7 E8
 rcases hc with rfl | ⟨rfl,rfl⟩ | ⟨rfl,rfl,rfl⟩ | ⟨rfl,rfl,rfl,rfl⟩ | ⟨rfl,rfl,rfl,rfl,rfl⟩ | ⟨rfl,rfl,rfl,rfl,rfl,rfl⟩ | ⟨rfl,rfl,rfl,rfl,rfl,rfl,rfl⟩ | ⟨rfl,rfl,rfl,rfl,rfl,rfl,rfl,rfl⟩ | ⟨rfl,rfl,rfl,rfl,rfl,rfl,rfl,rfl⟩
 all_goals first
  | (exfalso;first | exact absurd e7 (by decide) | exact absurd e8 (by decide))
  | (
   clear e7 e8
   go_enter Tryz.func81,Tryz.ntmps81
   simp only [lapp_cons,lapp_nil]
   go_wp2_with (first | (go_at_call 141;(with_reducible refine (HU.out _).mono ?_);rintro e wv ⟨rfl,rfl⟩) | (go_at_call 142;(first | (with_reducible refine (H1.out _).mono ?_) | (with_reducible refine (H2.out _).mono ?_) | (with_reducible refine (H3.out _).mono ?_) | (with_reducible refine (H4.out _).mono ?_) | (with_reducible refine (H5.out _).mono ?_) | (with_reducible refine (H6.out _).mono ?_));rintro e wv ⟨rfl,rfl⟩))
   go_ret
   exact ⟨by rw [HV.out];rfl,HE.out⟩)
theorem validOp_6 (R:OpR) (h:R.k=6) (w:World) (hR:R.ok w) :
  Calls Tryz.prog 81 #[.agg (opA R)] w fun e w'=>e=.returned (.bool (vOp R))∧Ext w w':=by
 have HU:=zh (fun W=>uses_any R.k W)
 rw [show usesK R.k=130 from by rw [h];decide] at HU
 have l1:(R.n1:Int)≤9223372036854775807:=by have:=hR.pre.le;have:=hR.pre.cap;omega
 have l2:(R.n2:Int)≤9223372036854775807:=by have:=hR.prf.le;have:=hR.prf.cap;omega
 obtain ⟨b1,e1⟩:∃ b,numU false R.tO 0 15=b:=⟨_,rfl⟩
 have H1:=zh (fun W=>txNumber_any false R.tO 0 15 W)
 rw [e1] at H1
 obtain ⟨b2,e2⟩:∃ b,numU false R.am 1 1099511627776=b:=⟨_,rfl⟩
 have H2:=zh (fun W=>txNumber_any false R.am 1 1099511627776 W)
 rw [e2] at H2
 obtain ⟨b3,e3⟩:∃ b,numU false R.ul 1 1000=b:=⟨_,rfl⟩
 have H3:=zh (fun W=>txNumber_any false R.ul 1 1000 W)
 rw [e3] at H3
 obtain ⟨b4,e4⟩:∃ b,numU true R.va 0 9=b:=⟨_,rfl⟩
 have H4:=zh (fun W=>txNumber_any true R.va 0 9 W)
 rw [e4] at H4
 obtain ⟨b5,e5⟩:∃ b,numU false (R.n1:Int) 0 32=b:=⟨_,rfl⟩
 have H5:=zh (fun W=>txNumber_any false (R.n1:Int) 0 32 W)
 rw [e5] at H5
 obtain ⟨b6,e6⟩:∃ b,numU true (R.n2:Int) 1 2000=b:=⟨_,rfl⟩
 have H6:=zh (fun W=>txNumber_any true (R.n2:Int) 1 2000 W)
 rw [e6] at H6
 have E7:=zh (fun W=>run_eqN R.hs 0 W)
 have E8:=zh (fun W=>run_eqN R.lk 0 W)
 obtain ⟨b7,e7⟩:∃ b,decide (R.hs=0)=b:=⟨_,rfl⟩
 obtain ⟨b8,e8⟩:∃ b,decide (R.lk=0)=b:=⟨_,rfl⟩
 have HV:=zh (show vOp R=(b1 && (b2 && (b3 && (b4 && (b5 && (b6 && (b7 && b8))))))) by
  rw [← e1,← e2,← e3,← e4,← e5,← e6,← e7,← e8];unfold vOp;rw [h];rfl)
 rw [e7] at E7
 rw [e8] at E8
 have q7:=E7.out
 have q8:=E8.out
 rw [nmc_zero_lit] at q7 q8
 have HE:=zh ((Ext.refl w).alloc' (.cells (opA R) 69))
 have hc:=row_cases8 b1 b2 b3 b4 b5 b6 b7 b8
 clear hR h e1 e2 e3 e4 e5 e6 E7 E8
 rcases hc with rfl | ⟨rfl,rfl⟩ | ⟨rfl,rfl,rfl⟩ | ⟨rfl,rfl,rfl,rfl⟩ | ⟨rfl,rfl,rfl,rfl,rfl⟩ | ⟨rfl,rfl,rfl,rfl,rfl,rfl⟩ | ⟨rfl,rfl,rfl,rfl,rfl,rfl,rfl⟩ | ⟨rfl,rfl,rfl,rfl,rfl,rfl,rfl,rfl⟩ | ⟨rfl,rfl,rfl,rfl,rfl,rfl,rfl,rfl⟩
 all_goals first
  | (exfalso;first | exact absurd e7 (by decide) | exact absurd e8 (by decide))
  | (
   clear e7 e8
   go_enter Tryz.func81,Tryz.ntmps81
   simp only [lapp_cons,lapp_nil]
   go_wp2_with (first | (go_at_call 141;(with_reducible refine (HU.out _).mono ?_);rintro e wv ⟨rfl,rfl⟩) | (go_at_call 142;(first | (with_reducible refine (H1.out _).mono ?_) | (with_reducible refine (H2.out _).mono ?_) | (with_reducible refine (H3.out _).mono ?_) | (with_reducible refine (H4.out _).mono ?_) | (with_reducible refine (H5.out _).mono ?_) | (with_reducible refine (H6.out _).mono ?_));rintro e wv ⟨rfl,rfl⟩))
   go_ret
   exact ⟨by rw [HV.out];rfl,HE.out⟩)
theorem validOp_any (R:OpR) (w:World) (hR:R.ok w) :
  Calls Tryz.prog 81 #[.agg (opA R)] w fun e w'=>e=.returned (.bool (vOp R))∧Ext w w':=by
 rcases kind_cases R.k with h | h | h | h | h | h | h
 ·exact validOp_1 R h w hR
 ·exact validOp_2 R h w hR
 ·exact validOp_3 R h w hR
 ·exact validOp_4 R h w hR
 ·exact validOp_5 R h w hR
 ·exact validOp_6 R h w hR
 ·rw [vOp_no h];exact validOp_no R h w
end Go.Proofs.YtohmmcahpakokaaGreat
