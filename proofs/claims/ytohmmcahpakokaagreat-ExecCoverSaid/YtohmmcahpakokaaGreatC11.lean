/- validOp and Validate (the program's). -/
import Derived.Test.YtohmmcahpakokaaGreatC08
import Derived.Test.YtohmmcahpakokaaGreatC09
set_option maxRecDepth 100000
set_option maxHeartbeats 8000000
set_option linter.unusedVariables false
set_option linter.unusedSimpArgs false
namespace Go.Proofs.YtohmmcahpakokaaGreat
open Go.RowKit
attribute [local go_sem ↓] Go.wp_at_zero Go.wp_at_succ
theorem vOp_no {R:OpR} (h:¬ (1≤R.k∧R.k≤6)):vOp R=false:=by unfold vOp;rw [decide_eq_false h,Bool.false_and]
theorem nmc_zero_lit:nmc 0=#[.int .u8 0,.int .u8 0,.int .u8 0,.int .u8 0,.int .u8 0,.int .u8 0,.int .u8 0,.int .u8 0]:=zcs_nmc.symm
theorem row_cases8 (b1 b2 b3 b4 b5 b6 b7 b8:Bool):b1=false ∨ (b1=true∧b2=false) ∨ (b1=true∧b2=true∧b3=false) ∨ (b1=true∧b2=true∧b3=true∧b4=false) ∨ (b1=true∧b2=true∧b3=true∧b4=true∧b5=false) ∨ (b1=true∧b2=true∧b3=true∧b4=true∧b5=true∧b6=false) ∨ (b1=true∧b2=true∧b3=true∧b4=true∧b5=true∧b6=true∧b7=false) ∨ (b1=true∧b2=true∧b3=true∧b4=true∧b5=true∧b6=true∧b7=true∧b8=false) ∨ (b1=true∧b2=true∧b3=true∧b4=true∧b5=true∧b6=true∧b7=true∧b8=true):=by
 cases b1 <;> simp
 cases b2 <;> simp
 cases b3 <;> simp
 cases b4 <;> simp
 cases b5 <;> simp
 cases b6 <;> simp
 cases b7 <;> simp
theorem validOp_no (R:OpR) (h:¬ (1≤R.k∧R.k≤6)) (w:World) :
  Calls Tryz.prog 81 #[.agg (opA R)] w fun e w'=>e=.returned (.bool false)∧Ext w w':=by
 have HU:=zh (fun W=>uses_any R.k W)
 rw [usesK_no h] at HU
 have HE:=zh ((Ext.refl w).alloc' (.cells (opA R) 69))
 clear h
 go_enter Tryz.func81,Tryz.ntmps81
 simp only [lapp_cons,lapp_nil]
 go_wp2_with (go_at_call 141;(with_reducible refine (HU.out _).mono ?_);rintro e wv ⟨rfl,rfl⟩)
 go_ret
 exact ⟨rfl,HE.out⟩
theorem validOp_1 (R:OpR) (h:R.k=1) (w:World) (hR:R.ok w) :
  Calls Tryz.prog 81 #[.agg (opA R)] w fun e w'=>e=.returned (.bool (vOp R))∧Ext w w':=by
 have HU:=zh (fun W=>uses_any R.k W)
 rw [show usesK R.k=5 from by rw [h];decide] at HU
 have l1:(R.n1:Int)≤9223372036854775807:=by have:=hR.pre.le;have:=hR.pre.cap;omega
 have l2:(R.n2:Int)≤9223372036854775807:=by have:=hR.prf.le;have:=hR.prf.cap;omega
 obtain ⟨b1,e1⟩:∃ b,numU true R.tO 0 15=b:=⟨_,rfl⟩
 have H1:=zh (fun W=>txNumber_any true R.tO 0 15 W)
 rw [e1] at H1
 obtain ⟨b2,e2⟩:∃ b,numU true R.am 1 1099511627776=b:=⟨_,rfl⟩
 have H2:=zh (fun W=>txNumber_any true R.am 1 1099511627776 W)
 rw [e2] at H2
 obtain ⟨b3,e3⟩:∃ b,numU false R.ul 1 1000=b:=⟨_,rfl⟩
 have H3:=zh (fun W=>txNumber_any false R.ul 1 1000 W)
 rw [e3] at H3
 obtain ⟨b4,e4⟩:∃ b,numU false R.va 0 9=b:=⟨_,rfl⟩
 have H4:=zh (fun W=>txNumber_any false R.va 0 9 W)
 rw [e4] at H4
 obtain ⟨b5,e5⟩:∃ b,numU false (R.n1:Int) 0 32=b:=⟨_,rfl⟩
 have H5:=zh (fun W=>txNumber_any false (R.n1:Int) 0 32 W)
 rw [e5] at H5
 obtain ⟨b6,e6⟩:∃ b,numU false (R.n2:Int) 1 2000=b:=⟨_,rfl⟩
 have H6:=zh (fun W=>txNumber_any false (R.n2:Int) 1 2000 W)
 rw [e6] at H6
 have E7:=zh (fun W=>run_eqN R.hs 0 W)
 have E8:=zh (fun W=>run_eqN R.lk 0 W)
 obtain ⟨b7,e7⟩:∃ b,decide (R.hs=0)=b:=⟨_,rfl⟩
 obtain ⟨b8,e8⟩:∃ b,decide (R.lk=0)=b:=⟨_,rfl⟩
 have HV:=zh (show vOp R=(b1 && (b2 && (b3 && (b4 && (b5 && (b6 && (b7 && b8))))))) by
  rw [← e1,← e2,← e3,← e4,← e5,← e6,← e7,← e8];unfold vOp;rw [h];rfl)
 rw [e7] at E7
 rw [e8] at E8
 have q7:=E7.out
 have q8:=E8.out
 rw [nmc_zero_lit] at q7 q8
 have HE:=zh ((Ext.refl w).alloc' (.cells (opA R) 69))
 have hc:=row_cases8 b1 b2 b3 b4 b5 b6 b7 b8
 clear hR h e1 e2 e3 e4 e5 e6 E7 E8
 rcases hc with rfl | ⟨rfl,rfl⟩ | ⟨rfl,rfl,rfl⟩ | ⟨rfl,rfl,rfl,rfl⟩ | ⟨rfl,rfl,rfl,rfl,rfl⟩ | ⟨rfl,rfl,rfl,rfl,rfl,rfl⟩ | ⟨rfl,rfl,rfl,rfl,rfl,rfl,rfl⟩ | ⟨rfl,rfl,rfl,rfl,rfl,rfl,rfl,rfl⟩ | ⟨rfl,rfl,rfl,rfl,rfl,rfl,rfl,rfl⟩
 all_goals first
  | (exfalso;first | exact absurd e7 (by decide) | exact absurd e8 (by decide))
  | (
   clear e7 e8
   go_enter Tryz.func81,Tryz.ntmps81
   simp only [lapp_cons,lapp_nil]
   go_wp2_with (first | (go_at_call 141;(with_reducible refine (HU.out _).mono ?_);rintro e wv ⟨rfl,rfl⟩) | (go_at_call 142;(first | (with_reducible refine (H1.out _).mono ?_) | (with_reducible refine (H2.out _).mono ?_) | (with_reducible refine (H3.out _).mono ?_) | (with_reducible refine (H4.out _).mono ?_) | (with_reducible refine (H5.out _).mono ?_) | (with_reducible refine (H6.out _).mono ?_));rintro e wv ⟨rfl,rfl⟩))
   go_ret
   exact ⟨by rw [HV.out];rfl,HE.out⟩)
theorem validOp_2 (R:OpR) (h:R.k=2) (w:World) (hR:R.ok w) :
  Calls Tryz.prog 81 #[.agg (opA R)] w fun e w'=>e=.returned (.bool (vOp R))∧Ext w w':=by
 have HU:=zh (fun W=>uses_any R.k W)
 rw [show usesK R.k=29 from by rw [h];decide] at HU
 have l1:(R.n1:Int)≤9223372036854775807:=by have:=hR.pre.le;have:=hR.pre.cap;omega
 have l2:(R.n2:Int)≤9223372036854775807:=by have:=hR.prf.le;have:=hR.prf.cap;omega
 obtain ⟨b1,e1⟩:∃ b,numU true R.tO 0 15=b:=⟨_,rfl⟩
 have H1:=zh (fun W=>txNumber_any true R.tO 0 15 W)
 rw [e1] at H1
 obtain ⟨b2,e2⟩:∃ b,numU true R.am 1 1099511627776=b:=⟨_,rfl⟩
 have H2:=zh (fun W=>txNumber_any true R.am 1 1099511627776 W)
 rw [e2] at H2
 obtain ⟨b3,e3⟩:∃ b,numU true R.ul 1 1000=b:=⟨_,rfl⟩
 have H3:=zh (fun W=>txNumber_any true R.ul 1 1000 W)
 rw [e3] at H3
 obtain ⟨b4,e4⟩:∃ b,numU false R.va 0 9=b:=⟨_,rfl⟩
 have H4:=zh (fun W=>txNumber_any false R.va 0 9 W)
 rw [e4] at H4
 obtain ⟨b5,e5⟩:∃ b,numU false (R.n1:Int) 0 32=b:=⟨_,rfl⟩
 have H5:=zh (fun W=>txNumber_any false (R.n1:Int) 0 32 W)
 rw [e5] at H5
 obtain ⟨b6,e6⟩:∃ b,numU false (R.n2:Int) 1 2000=b:=⟨_,rfl⟩
 have H6:=zh (fun W=>txNumber_any false (R.n2:Int) 1 2000 W)
 rw [e6] at H6
 have E7:=zh (fun W=>run_eqN R.hs 0 W)
 have E8:=zh (fun W=>run_eqN R.lk 0 W)
 obtain ⟨b7,e7⟩:∃ b,true=b:=⟨_,rfl⟩
 obtain ⟨b8,e8⟩:∃ b,decide (R.lk=0)=b:=⟨_,rfl⟩
 have HV:=zh (show vOp R=(b1 && (b2 && (b3 && (b4 && (b5 && (b6 && (b7 && b8))))))) by
  rw [← e1,← e2,← e3,← e4,← e5,← e6,← e7,← e8];unfold vOp;rw [h];rfl)
 rw [e8] at E8
 have q7:=E7.out
 have q8:=E8.out
 rw [nmc_zero_lit] at q7 q8
 have HE:=zh ((Ext.refl w).alloc' (.cells (opA R) 69))
 have hc:=row_cases8 b1 b2 b3 b4 b5 b6 b7 b8
 clear hR h e1 e2 e3 e4 e5 e6 E7 E8
 rcases hc with rfl | ⟨rfl,rfl⟩ | ⟨rfl,rfl,rfl⟩ | ⟨rfl,rfl,rfl,rfl⟩ | ⟨rfl,rfl,rfl,rfl,rfl⟩ | ⟨rfl,rfl,rfl,rfl,rfl,rfl⟩ | ⟨rfl,rfl,rfl,rfl,rfl,rfl,rfl⟩ | ⟨rfl,rfl,rfl,rfl,rfl,rfl,rfl,rfl⟩ | ⟨rfl,rfl,rfl,rfl,rfl,rfl,rfl,rfl⟩
 all_goals first
  | (exfalso;first | exact absurd e7 (by decide) | exact absurd e8 (by decide))
  | (
   clear e7 e8
   go_enter Tryz.func81,Tryz.ntmps81
   simp only [lapp_cons,lapp_nil]
   go_wp2_with (first | (go_at_call 141;(with_reducible refine (HU.out _).mono ?_);rintro e wv ⟨rfl,rfl⟩) | (go_at_call 142;(first | (with_reducible refine (H1.out _).mono ?_) | (with_reducible refine (H2.out _).mono ?_) | (with_reducible refine (H3.out _).mono ?_) | (with_reducible refine (H4.out _).mono ?_) | (with_reducible refine (H5.out _).mono ?_) | (with_reducible refine (H6.out _).mono ?_));rintro e wv ⟨rfl,rfl⟩))
   go_ret
   exact ⟨by rw [HV.out];rfl,HE.out⟩)
theorem validOp_3 (R:OpR) (h:R.k=3) (w:World) (hR:R.ok w) :
  Calls Tryz.prog 81 #[.agg (opA R)] w fun e w'=>e=.returned (.bool (vOp R))∧Ext w w':=by
 have HU:=zh (fun W=>uses_any R.k W)
 rw [show usesK R.k=101 from by rw [h];decide] at HU
 have l1:(R.n1:Int)≤9223372036854775807:=by have:=hR.pre.le;have:=hR.pre.cap;omega
 have l2:(R.n2:Int)≤9223372036854775807:=by have:=hR.prf.le;have:=hR.prf.cap;omega
 obtain ⟨b1,e1⟩:∃ b,numU true R.tO 0 15=b:=⟨_,rfl⟩
 have H1:=zh (fun W=>txNumber_any true R.tO 0 15 W)
 rw [e1] at H1
 obtain ⟨b2,e2⟩:∃ b,numU true R.am 1 1099511627776=b:=⟨_,rfl⟩
 have H2:=zh (fun W=>txNumber_any true R.am 1 1099511627776 W)
 rw [e2] at H2
 obtain ⟨b3,e3⟩:∃ b,numU false R.ul 1 1000=b:=⟨_,rfl⟩
 have H3:=zh (fun W=>txNumber_any false R.ul 1 1000 W)
 rw [e3] at H3
 obtain ⟨b4,e4⟩:∃ b,numU false R.va 0 9=b:=⟨_,rfl⟩
 have H4:=zh (fun W=>txNumber_any false R.va 0 9 W)
 rw [e4] at H4
 obtain ⟨b5,e5⟩:∃ b,numU true (R.n1:Int) 0 32=b:=⟨_,rfl⟩
 have H5:=zh (fun W=>txNumber_any true (R.n1:Int) 0 32 W)
 rw [e5] at H5
 obtain ⟨b6,e6⟩:∃ b,numU false (R.n2:Int) 1 2000=b:=⟨_,rfl⟩
 have H6:=zh (fun W=>txNumber_any false (R.n2:Int) 1 2000 W)
 rw [e6] at H6
 have E7:=zh (fun W=>run_eqN R.hs 0 W)
 have E8:=zh (fun W=>run_eqN R.lk 0 W)
 obtain ⟨b7,e7⟩:∃ b,decide (R.hs=0)=b:=⟨_,rfl⟩
 obtain ⟨b8,e8⟩:∃ b,true=b:=⟨_,rfl⟩
 have HV:=zh (show vOp R=(b1 && (b2 && (b3 && (b4 && (b5 && (b6 && (b7 && b8))))))) by
  rw [← e1,← e2,← e3,← e4,← e5,← e6,← e7,← e8];unfold vOp;rw [h];rfl)
 rw [e7] at E7
 have q7:=E7.out
 have q8:=E8.out
 rw [nmc_zero_lit] at q7 q8
 have HE:=zh ((Ext.refl w).alloc' (.cells (opA R) 69))
 have hc:=row_cases8 b1 b2 b3 b4 b5 b6 b7 b8
 clear hR h e1 e2 e3 e4 e5 e6 E7 E8
 rcases hc with rfl | ⟨rfl,rfl⟩ | ⟨rfl,rfl,rfl⟩ | ⟨rfl,rfl,rfl,rfl⟩ | ⟨rfl,rfl,rfl,rfl,rfl⟩ | ⟨rfl,rfl,rfl,rfl,rfl,rfl⟩ | ⟨rfl,rfl,rfl,rfl,rfl,rfl,rfl⟩ | ⟨rfl,rfl,rfl,rfl,rfl,rfl,rfl,rfl⟩ | ⟨rfl,rfl,rfl,rfl,rfl,rfl,rfl,rfl⟩
 all_goals first
  | (exfalso;first | exact absurd e7 (by decide) | exact absurd e8 (by decide))
  | (
   clear e7 e8
   go_enter Tryz.func81,Tryz.ntmps81
   simp only [lapp_cons,lapp_nil]
   go_wp2_with (first | (go_at_call 141;(with_reducible refine (HU.out _).mono ?_);rintro e wv ⟨rfl,rfl⟩) | (go_at_call 142;(first | (with_reducible refine (H1.out _).mono ?_) | (with_reducible refine (H2.out _).mono ?_) | (with_reducible refine (H3.out _).mono ?_) | (with_reducible refine (H4.out _).mono ?_) | (with_reducible refine (H5.out _).mono ?_) | (with_reducible refine (H6.out _).mono ?_));rintro e wv ⟨rfl,rfl⟩))
   go_ret
   exact ⟨by rw [HV.out];rfl,HE.out⟩)
theorem validOp_4 (R:OpR) (h:R.k=4) (w:World) (hR:R.ok w) :
  Calls Tryz.prog 81 #[.agg (opA R)] w fun e w'=>e=.returned (.bool (vOp R))∧Ext w w':=by
 have HU:=zh (fun W=>uses_any R.k W)
 rw [show usesK R.k=37 from by rw [h];decide] at HU
 have l1:(R.n1:Int)≤9223372036854775807:=by have:=hR.pre.le;have:=hR.pre.cap;omega
 have l2:(R.n2:Int)≤9223372036854775807:=by have:=hR.prf.le;have:=hR.prf.cap;omega
 obtain ⟨b1,e1⟩:∃ b,numU true R.tO 0 15=b:=⟨_,rfl⟩
 have H1:=zh (fun W=>txNumber_any true R.tO 0 15 W)
 rw [e1] at H1
 obtain ⟨b2,e2⟩:∃ b,numU true R.am 1 1099511627776=b:=⟨_,rfl⟩
 have H2:=zh (fun W=>txNumber_any true R.am 1 1099511627776 W)
 rw [e2] at H2
 obtain ⟨b3,e3⟩:∃ b,numU false R.ul 1 1000=b:=⟨_,rfl⟩
 have H3:=zh (fun W=>txNumber_any false R.ul 1 1000 W)
 rw [e3] at H3
 obtain ⟨b4,e4⟩:∃ b,numU false R.va 0 9=b:=⟨_,rfl⟩
 have H4:=zh (fun W=>txNumber_any false R.va 0 9 W)
 rw [e4] at H4
 obtain ⟨b5,e5⟩:∃ b,numU false (R.n1:Int) 0 32=b:=⟨_,rfl⟩
 have H5:=zh (fun W=>txNumber_any false (R.n1:Int) 0 32 W)
 rw [e5] at H5
 obtain ⟨b6,e6⟩:∃ b,numU false (R.n2:Int) 1 2000=b:=⟨_,rfl⟩
 have H6:=zh (fun W=>txNumber_any false (R.n2:Int) 1 2000 W)
 rw [e6] at H6
 have E7:=zh (fun W=>run_eqN R.hs 0 W)
 have E8:=zh (fun W=>run_eqN R.lk 0 W)
 obtain ⟨b7,e7⟩:∃ b,decide (R.hs=0)=b:=⟨_,rfl⟩
 obtain ⟨b8,e8⟩:∃ b,true=b:=⟨_,rfl⟩
 have HV:=zh (show vOp R=(b1 && (b2 && (b3 && (b4 && (b5 && (b6 && (b7 && b8))))))) by
  rw [← e1,← e2,← e3,← e4,← e5,← e6,← e7,← e8];unfold vOp;rw [h];rfl)
 rw [e7] at E7
 have q7:=E7.out
 have q8:=E8.out
 rw [nmc_zero_lit] at q7 q8
 have HE:=zh ((Ext.refl w).alloc' (.cells (opA R) 69))
 have hc:=row_cases8 b1 b2 b3 b4 b5 b6 b7 b8
 clear hR h e1 e2 e3 e4 e5 e6 E7 E8
 rcases hc with rfl | ⟨rfl,rfl⟩ | ⟨rfl,rfl,rfl⟩ | ⟨rfl,rfl,rfl,rfl⟩ | ⟨rfl,rfl,rfl,rfl,rfl⟩ | ⟨rfl,rfl,rfl,rfl,rfl,rfl⟩ | ⟨rfl,rfl,rfl,rfl,rfl,rfl,rfl⟩ | ⟨rfl,rfl,rfl,rfl,rfl,rfl,rfl,rfl⟩ | ⟨rfl,rfl,rfl,rfl,rfl,rfl,rfl,rfl⟩
 all_goals first
  | (exfalso;first | exact absurd e7 (by decide) | exact absurd e8 (by decide))
  | (
   clear e7 e8
   go_enter Tryz.func81,Tryz.ntmps81
   simp only [lapp_cons,lapp_nil]
   go_wp2_with (first | (go_at_call 141;(with_reducible refine (HU.out _).mono ?_);rintro e wv ⟨rfl,rfl⟩) | (go_at_call 142;(first | (with_reducible refine (H1.out _).mono ?_) | (with_reducible refine (H2.out _).mono ?_) | (with_reducible refine (H3.out _).mono ?_) | (with_reducible refine (H4.out _).mono ?_) | (with_reducible refine (H5.out _).mono ?_) | (with_reducible refine (H6.out _).mono ?_));rintro e wv ⟨rfl,rfl⟩))
   go_ret
   exact ⟨by rw [HV.out];rfl,HE.out⟩)
theorem validOp_5 (R:OpR) (h:R.k=5) (w:World) (hR:R.ok w) :
  Calls Tryz.prog 81 #[.agg (opA R)] w fun e w'=>e=.returned (.bool (vOp R))∧Ext w w':=by
 have HU:=zh (fun W=>uses_any R.k W)
 rw [show usesK R.k=6 from by rw [h];decide] at HU
 have l1:(R.n1:Int)≤9223372036854775807:=by have:=hR.pre.le;have:=hR.pre.cap;omega
 have l2:(R.n2:Int)≤9223372036854775807:=by have:=hR.prf.le;have:=hR.prf.cap;omega
 obtain ⟨b1,e1⟩:∃ b,numU false R.tO 0 15=b:=⟨_,rfl⟩
 have H1:=zh (fun W=>txNumber_any false R.tO 0 15 W)
 rw [e1] at H1
 obtain ⟨b2,e2⟩:∃ b,numU true R.am 1 1099511627776=b:=⟨_,rfl⟩
 have H2:=zh (fun W=>txNumber_any true R.am 1 1099511627776 W)
 rw [e2] at H2
 obtain ⟨b3,e3⟩:∃ b,numU false R.ul 1 1000=b:=⟨_,rfl⟩
 have H3:=zh (fun W=>txNumber_any false R.ul 1 1000 W)
 rw [e3] at H3
 obtain ⟨b4,e4⟩:∃ b,numU true R.va 0 9=b:=⟨_,rfl⟩
 have H4:=zh (fun W=>txNumber_any true R.va 0 9 W)
 rw [e4] at H4
 obtain ⟨b5,e5⟩:∃ b,numU false (R.n1:Int) 0 32=b:=⟨_,rfl⟩
 have H5:=zh (fun W=>txNumber_any false (R.n1:Int) 0 32 W)
 rw [e5] at H5
 obtain ⟨b6,e6⟩:∃ b,numU false (R.n2:Int) 1 2000=b:=⟨_,rfl⟩
 have H6:=zh (fun W=>txNumber_any false (R.n2:Int) 1 2000 W)
 rw [e6] at H6
 have E7:=zh (fun W=>run_eqN R.hs 0 W)
 have E8:=zh (fun W=>run_eqN R.lk 0 W)
 obtain ⟨b7,e7⟩:∃ b,decide (R.hs=0)=b:=⟨_,rfl⟩
 obtain ⟨b8,e8⟩:∃ b,decide (R.lk=0)=b:=⟨_,rfl⟩
 have HV:=zh (show vOp R=(b1 && (b2 && (b3 && (b4 && (b5 && (b6 && (b7 && b8))))))) by
  rw [← e1,← e2,← e3,← e4,← e5,← e6,← e7,← e8];unfold vOp;rw [h];rfl)
 rw [e7] at E7
 rw [e8] at E8
 have q7:=E7.out
 have q8:=E8.out
 rw [nmc_zero_lit] at q7 q8
 have HE:=zh ((Ext.refl w).alloc' (.cells (opA R) 69))
 have hc:=row_cases8 b1 b2 b3 b4 b5 b6 b7 b8
 clear hR h e1 e2 e3 e4 e5 e6 E7 E8
 rcases hc with rfl | ⟨rfl,rfl⟩ | ⟨rfl,rfl,rfl⟩ | ⟨rfl,rfl,rfl,rfl⟩ | ⟨rfl,rfl,rfl,rfl,rfl⟩ | ⟨rfl,rfl,rfl,rfl,rfl,rfl⟩ | ⟨rfl,rfl,rfl,rfl,rfl,rfl,rfl⟩ | ⟨rfl,rfl,rfl,rfl,rfl,rfl,rfl,rfl⟩ | ⟨rfl,rfl,rfl,rfl,rfl,rfl,rfl,rfl⟩
 all_goals first
  | (exfalso;first | exact absurd e7 (by decide) | exact absurd e8 (by decide))
  | (
   clear e7 e8
   go_enter Tryz.func81,Tryz.ntmps81
   simp only [lapp_cons,lapp_nil]
   go_wp2_with (first | (go_at_call 141;(with_reducible refine (HU.out _).mono ?_);rintro e wv ⟨rfl,rfl⟩) | (go_at_call 142;(first | (with_reducible refine (H1.out _).mono ?_) | (with_reducible refine (H2.out _).mono ?_) | (with_reducible refine (H3.out _).mono ?_) | (with_reducible refine (H4.out _).mono ?_) | (with_reducible refine (H5.out _).mono ?_) | (with_reducible refine (H6.out _).mono ?_));rintro e wv ⟨rfl,rfl⟩))
   go_ret
   exact ⟨by rw [HV.out];rfl,HE.out⟩)
theorem validOp_6 (R:OpR) (h:R.k=6) (w:World) (hR:R.ok w) :
  Calls Tryz.prog 81 #[.agg (opA R)] w fun e w'=>e=.returned (.bool (vOp R))∧Ext w w':=by
 have HU:=zh (fun W=>uses_any R.k W)
 rw [show usesK R.k=130 from by rw [h];decide] at HU
 have l1:(R.n1:Int)≤9223372036854775807:=by have:=hR.pre.le;have:=hR.pre.cap;omega
 have l2:(R.n2:Int)≤9223372036854775807:=by have:=hR.prf.le;have:=hR.prf.cap;omega
 obtain ⟨b1,e1⟩:∃ b,numU false R.tO 0 15=b:=⟨_,rfl⟩
 have H1:=zh (fun W=>txNumber_any false R.tO 0 15 W)
 rw [e1] at H1
 obtain ⟨b2,e2⟩:∃ b,numU false R.am 1 1099511627776=b:=⟨_,rfl⟩
 have H2:=zh (fun W=>txNumber_any false R.am 1 1099511627776 W)
 rw [e2] at H2
 obtain ⟨b3,e3⟩:∃ b,numU false R.ul 1 1000=b:=⟨_,rfl⟩
 have H3:=zh (fun W=>txNumber_any false R.ul 1 1000 W)
 rw [e3] at H3
 obtain ⟨b4,e4⟩:∃ b,numU true R.va 0 9=b:=⟨_,rfl⟩
 have H4:=zh (fun W=>txNumber_any true R.va 0 9 W)
 rw [e4] at H4
 obtain ⟨b5,e5⟩:∃ b,numU false (R.n1:Int) 0 32=b:=⟨_,rfl⟩
 have H5:=zh (fun W=>txNumber_any false (R.n1:Int) 0 32 W)
 rw [e5] at H5
 obtain ⟨b6,e6⟩:∃ b,numU true (R.n2:Int) 1 2000=b:=⟨_,rfl⟩
 have H6:=zh (fun W=>txNumber_any true (R.n2:Int) 1 2000 W)
 rw [e6] at H6
 have E7:=zh (fun W=>run_eqN R.hs 0 W)
 have E8:=zh (fun W=>run_eqN R.lk 0 W)
 obtain ⟨b7,e7⟩:∃ b,decide (R.hs=0)=b:=⟨_,rfl⟩
 obtain ⟨b8,e8⟩:∃ b,decide (R.lk=0)=b:=⟨_,rfl⟩
 have HV:=zh (show vOp R=(b1 && (b2 && (b3 && (b4 && (b5 && (b6 && (b7 && b8))))))) by
  rw [← e1,← e2,← e3,← e4,← e5,← e6,← e7,← e8];unfold vOp;rw [h];rfl)
 rw [e7] at E7
 rw [e8] at E8
 have q7:=E7.out
 have q8:=E8.out
 rw [nmc_zero_lit] at q7 q8
 have HE:=zh ((Ext.refl w).alloc' (.cells (opA R) 69))
 have hc:=row_cases8 b1 b2 b3 b4 b5 b6 b7 b8
 clear hR h e1 e2 e3 e4 e5 e6 E7 E8
 rcases hc with rfl | ⟨rfl,rfl⟩ | ⟨rfl,rfl,rfl⟩ | ⟨rfl,rfl,rfl,rfl⟩ | ⟨rfl,rfl,rfl,rfl,rfl⟩ | ⟨rfl,rfl,rfl,rfl,rfl,rfl⟩ | ⟨rfl,rfl,rfl,rfl,rfl,rfl,rfl⟩ | ⟨rfl,rfl,rfl,rfl,rfl,rfl,rfl,rfl⟩ | ⟨rfl,rfl,rfl,rfl,rfl,rfl,rfl,rfl⟩
 all_goals first
  | (exfalso;first | exact absurd e7 (by decide) | exact absurd e8 (by decide))
  | (
   clear e7 e8
   go_enter Tryz.func81,Tryz.ntmps81
   simp only [lapp_cons,lapp_nil]
   go_wp2_with (first | (go_at_call 141;(with_reducible refine (HU.out _).mono ?_);rintro e wv ⟨rfl,rfl⟩) | (go_at_call 142;(first | (with_reducible refine (H1.out _).mono ?_) | (with_reducible refine (H2.out _).mono ?_) | (with_reducible refine (H3.out _).mono ?_) | (with_reducible refine (H4.out _).mono ?_) | (with_reducible refine (H5.out _).mono ?_) | (with_reducible refine (H6.out _).mono ?_));rintro e wv ⟨rfl,rfl⟩))
   go_ret
   exact ⟨by rw [HV.out];rfl,HE.out⟩)
theorem validOp_any (R:OpR) (w:World) (hR:R.ok w) :
  Calls Tryz.prog 81 #[.agg (opA R)] w fun e w'=>e=.returned (.bool (vOp R))∧Ext w w':=by
 rcases kind_cases R.k with h | h | h | h | h | h | h
 ·exact validOp_1 R h w hR
 ·exact validOp_2 R h w hR
 ·exact validOp_3 R h w hR
 ·exact validOp_4 R h w hR
 ·exact validOp_5 R h w hR
 ·exact validOp_6 R h w hR
 ·rw [vOp_no h];exact validOp_no R h w
end Go.Proofs.YtohmmcahpakokaaGreat
namespace Go.Proofs.YtohmmcahpakokaaGreat
open Go.RowKit
def nmAt (l:List UInt8) (at_ i:Nat):UInt64:=ofNm ((l.drop (at_+i * 8)).take 8)
def namesU (l:List UInt8) (at_ n:Nat):List UInt64:=(List.range n).map (nmAt l at_)
theorem namesU_length (l:List UInt8) (at_ n:Nat):(namesU l at_ n).length=n:=by simp [namesU]
theorem nmb_nmAt (l:List UInt8) (at_ i:Nat) (h:at_+i * 8+8≤l.length):nmb (nmAt l at_ i)=(l.drop (at_+i * 8)).take 8:=nmb_ofNm _ (by simp;omega)
theorem hmkN (n:Nat) (hn:n≤1000) (F:Nat→UInt64) (w:World):(Instr.makeSlice 37 (.int .i64 (n:Int)) (.int .i64 (n:Int))).run Tryz.prog w=.ok (.slice (some ⟨w.heap.size,0,none⟩) n n) (w.alloc (.cells (ncs (tabN F n 0)).toArray 30)):=by
 obtain ⟨i,hi,hz,hs,hby⟩:=namesE.get
 have h:=run_make (P:=Tryz.prog) w 37 30 i (.agg zcs.toArray) namesE.ut hi hz .i64 .i64 n n (by omega) (by omega) (by rw [hby];omega) (by omega)
 rw [hs,show (n:Int).toNat * 8=n * 8 from by rw [Int.toNat_natCast],made_names] at h
 simpa [tabN] using h
theorem splice_name (ns:List UInt64) (k:Nat) (n:UInt64) (hk:k < ns.length):splice (ncs ns) (k * 8) (bcs (nmb n))=ncs (ns.set k n):=by
 have hs:ns.set k n=ns.take k ++ n :: ns.drop (k+1):=by rw [List.set_eq_take_append_cons_drop,if_pos hk]
 unfold splice
 rw [bcs_length,nmb_length,ncs_take,show k * 8+8=(k+1) * 8 from by omega,ncs_drop,hs,ncs_append,ncs_cons]
theorem names_any (A:Option Addr) (len c:Nat) (l:List UInt8) (at_ n:Nat) (w:World) (h:SlB w A len c l) (hn:n≤1000) (hf:at_+n * 8≤len) (hat:at_≤1000) :
  Calls Tryz.prog 238 #[.slice A len c,.int .i64 (at_:Int),.int .i64 (n:Int)] w fun e w'=>∃ g,e=.returned (.slice (some ⟨g,0,none⟩) n n)∧SlN w' (some ⟨g,0,none⟩) n n (namesU l at_ n)∧Ext w w':=by
 have hmk:=hmkN n hn (nmAt l at_)
 have hle:=h.le
 have hcap:=h.cap
 have hlen:=h.len
 have HS:=zh h
 clear h
 go_enter Tryz.func238,Tryz.ntmps238
 go_wp2_with fail
 go_loopw [13] (fun i wr=>∃ (k:Nat),k≤n∧i=.int .i64 (k:Int)∧Blk wr w.heap.size 30 (ncs (tabN (nmAt l at_) n k)).toArray∧Ext w wr) (fun i _=>n - (intOf i).toNat)
 case atStart=>exact ⟨0,by omega,rfl,Blk.new _ _ _,(Ext.refl w).alloc' _⟩
 case round =>
  obtain ⟨k,hk,rfl,hT,hE⟩:=hrel
  by_cases hlt:k < n
  ·have HT := zh hT
   have HE:=zh hE
   obtain ⟨b,o,rfl,hra,hbl⟩:=(HS.out.ext hE).at (by omega)
   have j0:(0:Int)≤(k:Int):=by omega
   have j1:(k:Int) < (n:Int):=by omega
   have e1:IntKind.i64.wrap ((k:Int) * 8)=(k:Int) * 8:=IntWalk.i64_in _ (by omega)
   have e2:IntKind.i64.wrap ((at_:Int)+(k:Int) * 8)=(at_:Int)+(k:Int) * 8:=IntWalk.i64_in _ (by omega)
   have e3:(0:Int)≤(at_:Int)+(k:Int) * 8:=by omega
   have e4:((at_:Int)+(k:Int) * 8).toNat=at_+k * 8:=by omega
   have e5:(at_:Int)+(k:Int) * 8≤(len:Int):=by omega
   have e6:¬ c=at_+k * 8:=by omega
   have hsrc:=zh (show wr.drew.rangeAt b (o+(at_+k * 8)) (bcs (nmb (nmAt l at_ k))) from by
    rw [nmb_nmAt l at_ k (by omega)]
    have:=rangeAt_take (rangeAt_drop hra (k:=at_+k * 8)) (k:=8)
    simpa [bcs,List.map_take,List.map_drop] using this)
   have HPS:=zh (show ∀ j v,(bcs (nmb (nmAt l at_ k)))[j]?=some v→wr.drew.cell? ((⟨b,o+(at_+k * 8),none⟩:Addr).add j)=some v from fun j v hv=>by rw [Addr.add_mid];exact hsrc.out j v hv)
   clear hT hE hra
   go_wp2_with fail
   have HN:=zh (show (bcs (nmb (nmAt l at_ k))).length=Nat.min (len - (at_+k * 8)) 8 from by rw [bcs_length,nmb_length];exact (Nat.min_eq_right (by omega)).symm)
   have HFT:=zh (show k * 8+(bcs (nmb (nmAt l at_ k))).length≤(ncs (tabN (nmAt l at_) n k)).length from by rw [bcs_length,nmb_length,ncs_length,tabN_length _ _ _ hk];omega)
   have HSP:=zh (show splice (ncs (tabN (nmAt l at_) n k)) (k * 8) (bcs (nmb (nmAt l at_ k)))=ncs (tabN (nmAt l at_) n (k+1)) from by rw [splice_name _ _ _ (by rw [tabN_length _ _ _ hk];exact hlt),tabN_set _ _ _ hlt])
   go_region_law ((refine step_copy_splice rfl (.tmp 19) (.tmp 25) 45 45 rfl 5 Tryz.underlying45 (by kernel_rfl) (some ⟨w.heap.size,k * 8,none⟩) (some ⟨b,o+(at_+k * 8),none⟩) 8 8 (len - (at_+k * 8)) (c - (at_+k * 8)) ?q1 ?q2 w.heap.size (k * 8) (ncs (tabN (nmAt l at_) n k)) 30 HT.out (bcs (nmb (nmAt l at_ k))) HN.out (fun _=>⟨rfl,_,rfl,HPS.out⟩) HFT.out (bcs_one _) w.heap.size w HE.out.drew' (Nat.le_refl _) ?q9;(case q1=>go_simp);(case q2=>go_simp);intro w1 hg1 hE1))
   go_wp2_with fail
   go_roundw
   case rel=>exact ⟨k+1,by omega,by go_num,by rw [← HSP.out];exact hg1.out,hE1⟩
   case measure=>simp [intOf];omega
  ·obtain rfl : k = n := by omega
   rw [tabN_full] at hT
   have hsl:SlN wr (some ⟨w.heap.size,0,none⟩) k k (namesU l at_ k):=SlN.of_blk hT (namesU_length l at_ k) (by omega)
   go_wp2_with fail
   go_ret
   exact ⟨_,rfl,hsl,hE⟩
end Go.Proofs.YtohmmcahpakokaaGreat
namespace Go.Proofs.YtohmmcahpakokaaGreat
open Go.RowKit
theorem names18 (A:Option Addr) (len c:Nat) (l:List UInt8) (at_:Nat) (w:World) (h:SlB w A len c l) (hf:at_+144≤len) (hat:at_≤1000) :
  Calls Tryz.prog 238 #[.slice A len c,.int .i64 (at_:Int),.int .i64 18] w fun e w'=>∃ g,e=.returned (.slice (some ⟨g,0,none⟩) 18 18)∧SlN w' (some ⟨g,0,none⟩) 18 18 (namesU l at_ 18)∧Ext w w' :=
 names_any A len c l at_ 18 w h (by omega) (by omega) hat
theorem names5 (A:Option Addr) (len c:Nat) (l:List UInt8) (at_:Nat) (z:Int) (hz:z=(at_:Int)) (w:World) (h:SlB w A len c l) (hf:at_+40≤len) (hat:at_≤1000) :
  Calls Tryz.prog 238 #[.slice A len c,.int .i64 z,.int .i64 5] w fun e w'=>∃ g,e=.returned (.slice (some ⟨g,0,none⟩) 5 5)∧SlN w' (some ⟨g,0,none⟩) 5 5 (namesU l at_ 5)∧Ext w w':=by
 subst hz;exact names_any A len c l at_ 5 w h (by omega) (by omega) hat
theorem stN {w0 w2:World} {g:Nat} (hX:Ext w0 w2) (hq:Blk w2 g 30 zcs.toArray) (hg:w0.heap.size≤g) (r:UInt64):Ext w0 (w2.setCells g 0 (nmc r).toList):=Below.setCells' hX hg _ _
theorem pack9 {w0 cur:World} {g:Nat} {r:UInt64} (hX:Ext w0 cur) (hb:Blk cur g 30 (nmc r)):∃ W1 g1,W1=cur∧g1=g∧Ext w0 W1∧Blk W1 g1 30 (nmc r):=⟨_,_,rfl,rfl,hX,hb⟩
theorem follow32 (leaf:UInt64) (j:Nat) (A:Option Addr) (c:Nat) (ns:List UInt64) (w:World) (hd:depU j 32=5) (hj:j < 32) (h:SlN w A 5 c ns) :
  Calls Tryz.prog 239 #[.agg (nmc leaf),.int .i64 (j:Int),.int .i64 32,.slice A 5 c] w fun e w'=>e=.returned (.tuple #[.agg (nmc (compU leaf j 32 ns)),.bool true])∧Ext w w' :=
 follow_yes leaf 32 j 5 A c ns w (by omega) hj hd.symm h
def climbU (l:List UInt8) (at_ j:Nat) (m:UInt64):UInt64:=compU (oneRec m (namesU l at_ 18)) j 32 (namesU l (at_+144) 5)
theorem dep_step (n d:Nat) (hn:1≤n) (hs:spl (2 * n)=n) (ih:∀ j,j < n→depU j n=d):∀ j,j < 2 * n→depU j (2 * n)=d+1:=by
 intro j hj
 by_cases hlt:j < n
 ·rw [depU_low _ _ (by omega) (by rw [hs];exact hlt),hs,ih j hlt]
 ·rw [depU_high _ _ (by omega) (by rw [hs];exact hlt),hs,show 2 * n - n=n from by omega,ih (j - n) (by omega)]
theorem dep32 (j:Nat) (h:j < 32):depU j 32=5 :=
 dep_step 16 4 (by omega) (by decide) (dep_step 8 3 (by omega) (by decide) (dep_step 4 2 (by omega) (by decide) (dep_step 2 1 (by omega) (by decide) (dep_step 1 0 (by omega) (by decide) (fun j _=>depU_short _ _ (by decide)))))) j h
theorem climbed_any (A:Option Addr) (len c:Nat) (l:List UInt8) (at_ j:Nat) (m:UInt64) (w:World) (h:SlB w A len c l) (hf:at_+184≤len) (hat:at_≤500) (hj:j < 32) :
  Calls Tryz.prog 202 #[.slice A len c,.int .i64 (at_:Int),.int .i64 (j:Int),.agg (nmc m)] w fun e w'=>e=.returned (.agg (nmc (climbU l at_ j m)))∧Ext w w':=by
 have hle:=h.le
 have hcap:=h.cap
 have hE0:Ext w ((w.alloc (.cells (nmc m) 30)).alloc (.cells zcs.toArray 30)).drew:=(((Ext.refl w).alloc' _).alloc' _).drew'
 have hbm:Blk ((w.alloc (.cells (nmc m) 30)).alloc (.cells zcs.toArray 30)).drew w.heap.size 30 (nmc m):=((Blk.new w _ _).alloc _).drew
 have hbz:Blk ((w.alloc (.cells (nmc m) 30)).alloc (.cells zcs.toArray 30)).drew (w.heap.size+1) 30 zcs.toArray:=(Blk.newAt _ _ _ _ (by simp)).drew
 have HW0:=zh (show w.heap.size+2≤((w.alloc (.cells (nmc m) 30)).alloc (.cells zcs.toArray 30)).heap.size from by simp)
 have HSL:=zh h
 have hu:=Tryz.underlying30
 have hi:=size61b m
 clear h
 go_enter Tryz.func202,Tryz.ntmps202
 go_wp2_with fail
 generalize (w.alloc (.cells (nmc m) 30)).alloc (.cells zcs.toArray 30)=W0 at *
 have HE0:=zh hE0
 have HBM:=zh hbm
 have HBZ:=zh hbz
 have HSS:=zh (fun (w':World) (hx:Ext W0.drew w')=>cells8 (hbm.ext hx))
 clear hE0 hbm hbz
 have hX:=Ext.refl W0.drew
 have HAD:=zh (fun (o:Obj)=>(show Ext W0.drew (W0.alloc o).drew from ((Ext.refl W0.drew).alloc' o:Ext W0.drew (W0.drew.alloc o))))
 have HD5:=zh (dep32 j hj)
 have HAT:=zh (show (at_:Int)+144=((at_+144:Nat):Int) by omega)
 have H40:=zh (show at_+144+40≤len by omega)
 have H1000b:=zh (show at_+144≤1000 by omega)
 have H18:=zh (show at_+144≤len by omega)
 have H1000:=zh (show at_≤1000 by omega)
 have HSZ:=zh (show w.heap.size+2≤W0.heap.size from HW0.out)
 go_region_held3 (fun w'=>(∀ i,i < 8→w'.cell? ⟨w.heap.size,i,none⟩=some (.int .u8 (nb8 m i)))) (first | (with_reducible exact HSS.out _ hX) | (with_reducible exact HSS.out _ (HAD.out _)) | (with_reducible exact HSS.out _ (hX.alloc' _)) | (with_reducible exact HSS.out _ HW9.out)) (first | (go_at_call 238;first | ((with_reducible refine (names18 A len c l at_ _ (HSL.out.ext (HE0.out.trans hX)) H18.out H1000.out).mono ?_);rintro e w1 ⟨g1,rfl,hsl1,he1⟩;have hX:=hX.trans he1) | ((with_reducible refine (names18 A len c l at_ _ (HSL.out.ext (HE0.out.trans (HAD.out _))) H18.out H1000.out).mono ?_);rintro e w1 ⟨g1,rfl,hsl1,he1⟩;have hq:=(Blk.new W0 30 zcs.toArray).drew.ext he1;have hX:=(HAD.out _).trans he1)) | (go_at_call 237;first | ((with_reducible refine (recover_any m _ _ _ _ hsl1).mono ?_);rintro e w2 ⟨rfl,he2⟩;have hX:=hX.trans he2;first | (have hq2:=hq.ext he2;have hst:=run_storeN hq2 (oneRec m (namesU l at_ 18));have HW9:=zh (stN hX hq2 (Nat.le_refl _) (oneRec m (namesU l at_ 18)))) | (have hst:=run_storeNewN w2 w2.heap.size rfl (oneRec m (namesU l at_ 18));have HW9:=zh (hX.alloc' (.cells (nmc (oneRec m (namesU l at_ 18))) 30)))) | ((with_reducible refine (recover_any m _ _ _ _ (hsl1.ext ((Ext.refl _).alloc' _))).mono ?_);rintro e w2 ⟨rfl,he2⟩;have hq2:=(Blk.new w1 30 zcs.toArray).ext he2;have HG2:=zh hX.size;have hX:=(hX.alloc' _).trans he2;have hst:=run_storeN hq2 (oneRec m (namesU l at_ 18));have HW9:=zh (stN hX hq2 HG2.out (oneRec m (namesU l at_ 18))))))
 all_goals
  obtain ⟨W1,g9,hW,hg,hX1,hb1⟩:∃ W1 g1,W1=_∧g1=_∧Ext W0.drew W1∧Blk W1 g1 30 (nmc (oneRec m (namesU l at_ 18))):=by first | exact pack9 HW9.out (blkN hq2 (oneRec m (namesU l at_ 18))) | exact pack9 HW9.out (Blk.new w2 30 (nmc (oneRec m (namesU l at_ 18))))
  rw [← hW,← hg]
  clear hX HW9 hst
  (try clear hq2)
  (try clear hq)
  clear he2 hsl1 he1
  have HX1:=zh hX1
  have HB1:=zh hb1
  clear hX1 hb1 hW hg
  go_wp2_with fail
  have HSS1:=zh (fun (w':World) (hx:Ext W1.drew w')=>cells8 (HB1.out.drew.ext hx))
  have hX:=Ext.refl W1.drew
  have HE1:=zh (show Ext w W1.drew from (HE0.out.trans HX1.out).drew')
  have HAD1:=zh (fun (o:Obj)=>(show Ext W1.drew (W1.alloc o).drew from ((Ext.refl W1.drew).alloc' o:Ext W1.drew (W1.drew.alloc o))))
  have a1:IntKind.i64.wrap ((at_:Int)+144)=(at_:Int)+144:=IntWalk.i64_in _ (by omega)
  go_region_held3 (fun w'=>(∀ i,i < 8→w'.cell? ⟨g9,i,none⟩=some (.int .u8 (nb8 (oneRec m (namesU l at_ 18)) i)))) (first | (with_reducible exact HSS1.out _ hX) | (with_reducible exact HSS1.out _ (HAD1.out _)) | (with_reducible exact HSS1.out _ (hX.alloc' _)) | (with_reducible exact HSS1.out _ HW9.out)) (first | (go_at_call 238;first | ((with_reducible refine (names5 A len c l (at_+144) _ HAT.out _ (HSL.out.ext (HE1.out.trans hX)) H40.out H1000b.out).mono ?_);rintro e w1 ⟨g1,rfl,hsl1,he1⟩;have hX:=hX.trans he1) | ((with_reducible refine (names5 A len c l (at_+144) _ HAT.out _ (HSL.out.ext (HE1.out.trans (HAD1.out _))) H40.out H1000b.out).mono ?_);rintro e w1 ⟨g1,rfl,hsl1,he1⟩;have hq:=(Blk.new W1 30 zcs.toArray).drew.ext he1;have hX:=(HAD1.out _).trans he1)) | (go_at_call 239;first | ((with_reducible refine (follow32 (oneRec m (namesU l at_ 18)) j _ _ _ _ HD5.out hj hsl1).mono ?_);rintro e w2 ⟨rfl,he2⟩;have hX:=hX.trans he2;first | (have hq2:=hq.ext he2;have hst:=run_storeN hq2 (compU (oneRec m (namesU l at_ 18)) j 32 (namesU l (at_+144) 5));have HW9:=zh (stN hX hq2 (Nat.le_refl _) (compU (oneRec m (namesU l at_ 18)) j 32 (namesU l (at_+144) 5)))) | (have hst:=run_storeNewN w2 w2.heap.size rfl (compU (oneRec m (namesU l at_ 18)) j 32 (namesU l (at_+144) 5));have HW9:=zh (hX.alloc' (.cells (nmc (compU (oneRec m (namesU l at_ 18)) j 32 (namesU l (at_+144) 5))) 30)))) | ((with_reducible refine (follow32 (oneRec m (namesU l at_ 18)) j _ _ _ _ HD5.out hj (hsl1.ext ((Ext.refl _).alloc' _))).mono ?_);rintro e w2 ⟨rfl,he2⟩;have hq2:=(Blk.new w1 30 zcs.toArray).ext he2;have HG2:=zh hX.size;have hX:=(hX.alloc' _).trans he2;have hst:=run_storeN hq2 (compU (oneRec m (namesU l at_ 18)) j 32 (namesU l (at_+144) 5));have HW9:=zh (stN hX hq2 HG2.out (compU (oneRec m (namesU l at_ 18)) j 32 (namesU l (at_+144) 5))))))
 all_goals
  obtain ⟨W2,g8,hW,hg,hX2,hb2⟩:∃ W2 g1,W2=_∧g1=_∧Ext W1.drew W2∧Blk W2 g1 30 (nmc (compU (oneRec m (namesU l at_ 18)) j 32 (namesU l (at_+144) 5))):=by first | exact pack9 HW9.out (blkN hq2 (compU (oneRec m (namesU l at_ 18)) j 32 (namesU l (at_+144) 5))) | exact pack9 HW9.out (Blk.new w2 30 (nmc (compU (oneRec m (namesU l at_ 18)) j 32 (namesU l (at_+144) 5))))
  rw [← hW,← hg]
  clear hX HW9 hst
  (try clear hq2)
  (try clear hq)
  clear he2 hsl1 he1
  have hz2:=(HBZ.out.ext HX1.out).drew.ext hX2
  have HE2:=zh (HE1.out.trans hX2)
  have hr8:=rangeN hb2
  clear hW hg
  go_wp2_with (first | (with_reducible refine wpList_loadN rfl (.tmp 11) rfl g8 0 rfl (compU (oneRec m (namesU l at_ 18)) j 32 (namesU l (at_+144) 5)) hr8 ?_) | (with_reducible refine wpList_storeN rfl _ _ rfl (w.heap.size+1) 0 _ rfl rfl (thereZ hz2) ?_))
  refine bodyPost_ret (v:=.agg (nmc (compU (oneRec m (namesU l at_ 18)) j 32 (namesU l (at_+144) 5)))) (retN rfl _ _ (w.heap.size+1) _ rfl (blkN hz2 _)) rfl ⟨rfl,Below.setCells' HE2.out (by omega) _ _⟩
end Go.Proofs.YtohmmcahpakokaaGreat
