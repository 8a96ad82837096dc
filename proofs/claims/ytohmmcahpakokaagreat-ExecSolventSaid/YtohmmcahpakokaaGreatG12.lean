/- vote.Valid (the program's). -/
import Derived.Test.YtohmmcahpakokaaGreatG10
set_option maxRecDepth 100000
set_option maxHeartbeats 8000000
set_option linter.unusedVariables false
set_option linter.unusedSimpArgs false
namespace Go.Proofs.YtohmmcahpakokaaGreat
section
open Go.RowKit
attribute [local go_sem ↓] Go.wp_at_zero Go.wp_at_succ
theorem bA (n lo hi:Int) (w:World):Calls Tryz.prog 259 #[.int .i64 n,.int .i64 lo,.int .i64 hi] w fun e w'=>e=.returned (.bool (inI n lo hi))∧w=w':=by
 by_cases h1:lo≤n
 ·by_cases h2 : n ≤ hi
  ·have hv : inI n lo hi = true := decide_eq_true ⟨h1, h2⟩
   have HV:=zh hv
   clear hv
   go_enter Tryz.func259,Tryz.ntmps259
   go_wp2_with fail
   go_ret
   exact ⟨by rw [HV.out];rfl,rfl⟩
  have hv:inI n lo hi=false:=decide_eq_false (fun h=>h2 h.2)
  have HV:=zh hv
  clear hv
  go_enter Tryz.func259,Tryz.ntmps259
  go_wp2_with fail
  go_ret
  exact ⟨by rw [HV.out];rfl,rfl⟩
 have hv:inI n lo hi=false:=decide_eq_false (fun h=>h1 h.1)
 have HV:=zh hv
 clear hv
 go_enter Tryz.func259,Tryz.ntmps259
 go_wp2_with fail
 go_ret
 exact ⟨by rw [HV.out];rfl,rfl⟩
def vtF (W:World) (g:Nat) (v:VtR):Prop:=W.cell? ⟨g,0,none⟩=some (.int .i64 v.k)∧W.cell? ⟨g,1,none⟩=some (.int .i64 v.sl)∧W.cell? ⟨g,2,none⟩=some (.int .i64 v.ro)∧W.cell? ⟨g,3,none⟩=some (.int .i64 v.ch)∧W.cell? ⟨g,4,none⟩=some (.int .i64 v.si)∧W.cell? ⟨g,5,none⟩=some (.int .i64 v.su)∧(∀ i,i < 8→W.cell? ⟨g,6+i,none⟩=some (.int .u8 (nb8 v.pa i)))∧(∀ i,i < 8→W.cell? ⟨g,14+i,none⟩=some (.int .u8 (nb8 v.va i)))
theorem bO {w:World} {g:Nat} {t:TypeId} {v:VtR} (h:Blk w g t (vtA v)):vtF w g v :=
  ⟨h.cell 0,h.cell 1,h.cell 2,h.cell 3,h.cell 4,h.cell 5,
   fun i hi=>by rcases (by omega:i=0 ∨ i=1 ∨ i=2 ∨ i=3 ∨ i=4 ∨ i=5 ∨ i=6 ∨ i=7) with rfl | rfl | rfl | rfl | rfl | rfl | rfl | rfl <;> exact h.cell _,
   fun i hi=>by rcases (by omega:i=0 ∨ i=1 ∨ i=2 ∨ i=3 ∨ i=4 ∨ i=5 ∨ i=6 ∨ i=7) with rfl | rfl | rfl | rfl | rfl | rfl | rfl | rfl <;> exact h.cell _⟩
theorem aBq (v:VtR) (hk:inI v.k 1 7=false) (w:World) :
  Calls Tryz.prog 244 #[.agg (vtA v)] w fun e w'=>e=.returned (.bool (cI v))∧Ext w w':=by
 have HE:=zh ((Ext.refl w).alloc' (.cells (vtA v) 134))
 obtain ⟨a0,a1,a2,a3,a4,a5,a6,a7⟩:=bO (Blk.new w 134 (vtA v))
 have HB0:=zh (Blk.new w 134 (vtA v))
 have HB:=zh (fun n lo hi W=>bA n lo hi W)
 have HK:=zh (fun W=>bA v.k 1 7 W)
 rw [hk] at HK
 have HV:=zh (show cI v=false by unfold cI;rw [hk];rfl)
 clear hk
 go_enter Tryz.func244,Tryz.ntmps244
 go_wp2_with (go_at_call 259;(with_reducible refine (HK.out _).mono ?_);rintro e wv ⟨rfl,rfl⟩)
 go_ret
 exact ⟨by rw [HV.out];rfl,HE.out⟩
theorem zM (v:VtR) (hk:inI v.k 1 7=true) (hsi:inI v.si 0 9=false) (w:World) :
  Calls Tryz.prog 244 #[.agg (vtA v)] w fun e w'=>e=.returned (.bool (cI v))∧Ext w w':=by
 have HE:=zh ((Ext.refl w).alloc' (.cells (vtA v) 134))
 obtain ⟨a0,a1,a2,a3,a4,a5,a6,a7⟩:=bO (Blk.new w 134 (vtA v))
 have HB0:=zh (Blk.new w 134 (vtA v))
 have HB:=zh (fun n lo hi W=>bA n lo hi W)
 have HK:=zh (fun W=>bA v.k 1 7 W)
 have HS:=zh (fun W=>bA v.si 0 9 W)
 rw [hk] at HK
 rw [hsi] at HS
 have HV:=zh (show cI v=false by unfold cI;rw [hk,hsi];rfl)
 clear hk hsi
 go_enter Tryz.func244,Tryz.ntmps244
 go_wp2_with (go_at_call 259;(first | (with_reducible refine (HK.out _).mono ?_) | (with_reducible refine (HS.out _).mono ?_));rintro e wv ⟨rfl,rfl⟩)
 go_ret
 exact ⟨by rw [HV.out];rfl,HE.out⟩
theorem pJ (v:VtR) (hk:inI v.k 1 7=true) (hsi:inI v.si 0 9=true) (hc:chV v=false ∨ zU v.su ≠ 0) (w:World) :
    Calls Tryz.prog 244 #[.agg (vtA v)] w fun e w'=>e=.returned (.bool (cI v))∧Ext w w':=by
  have HE:=zh ((Ext.refl w).alloc' (.cells (vtA v) 134))
  obtain ⟨a0,a1,a2,a3,a4,a5,a6,a7⟩:=bO (Blk.new w 134 (vtA v))
  have HB0:=zh (Blk.new w 134 (vtA v))
  have HB:=zh (fun n lo hi W=>bA n lo hi W)
  have HK:=zh (fun W=>bA v.k 1 7 W)
  have HS:=zh (fun W=>bA v.si 0 9 W)
  rw [hk] at HK
  rw [hsi] at HS
  have q7:=fun W=>bX v.va 0 W
  rw [aU] at q7
  have HV:=zh (show cI v=false by
    unfold cI;rw [hk,hsi]
    rcases hc with hc | hc
    · rw [hc];rfl
    rw [decide_eq_false hc,Bool.and_false];rfl)
  clear hk hsi
  unfold chV at hc
  have hm:(decide (v.ch=1)=decide (v.va=0)) ∨ (decide (v.ch=1) ≠ decide (v.va=0)∧zU v.su ≠ 0):=by
    by_cases c:decide (v.ch=1)=decide (v.va=0)
    · exact .inl c
    refine .inr ⟨c,?_⟩
    rcases hc with hc | hc
    · exfalso;apply c;by_cases c1:v.ch=1 <;> by_cases c2:v.va=0 <;> simp_all
    exact hc
  clear hc
  rcases hm with hm | ⟨hm,hsu'⟩
  case' inr =>
    have y0:¬ bits .andNot .i64 v.su 1023=0:=hsu'
    have y1:(bits .andNot .i64 v.su 1023 != 0)=true:=bne_iff_ne.2 hsu'
    clear hsu'
  all_goals by_cases hd:v.ch=1
  all_goals by_cases hz:v.va=0
  all_goals
    have x1:(v.ch == 1)=decide (v.ch=1):=by by_cases c:v.ch=1 <;> simp [c]
    first | rw [decide_eq_true hd] at x1 hm | rw [decide_eq_false hd] at x1 hm
    first | rw [decide_eq_true hz] at q7 hm | rw [decide_eq_false hz] at q7 hm
    have d1:decide (v.ch=1)=(v.ch == 1):=by by_cases c:v.ch=1 <;> simp [c]
    rw [x1] at d1
    clear hz
    first
      | exact absurd hm (by decide)
      | exact absurd rfl hm
      | (clear hm
         go_enter Tryz.func244,Tryz.ntmps244
         go_wp2_with (go_at_call 259;(first | (with_reducible refine (HK.out _).mono ?_) | (with_reducible refine (HS.out _).mono ?_));rintro e wv ⟨rfl,rfl⟩)
         go_quiet ((fail))
         go_wp2_with fail
         go_ret
         exact ⟨by rw [HV.out];rfl,below_drewN HE.out _⟩)
theorem aBv (v:VtR) (hk:v.k=1) (hsi:inI v.si 0 9=true) (hcv:chV v=true) (hs:zU v.su=0) (w:World) :
  Calls Tryz.prog 244 #[.agg (vtA v)] w fun e w'=>e=.returned (.bool (cI v))∧Ext w w':=by
 have HE:=zh ((Ext.refl w).alloc' (.cells (vtA v) 134))
 obtain ⟨a0,a1,a2,a3,a4,a5,a6,a7⟩:=bO (Blk.new w 134 (vtA v))
 have HB0:=zh (Blk.new w 134 (vtA v))
 have HB:=zh (fun n lo hi W=>bA n lo hi W)
 have HK:=zh (fun W=>bA v.k 1 7 W)
 have HS:=zh (fun W=>bA v.si 0 9 W)
 rw [show inI v.k 1 7=true from decide_eq_true (by omega)] at HK
 rw [hsi] at HS
 have q7:=fun W=>bX v.va 0 W
 rw [aU] at q7
 have HV:=zh (show cI v=(inI v.sl 0 9 && (decide (v.ro=0∧v.su=0) && decide (v.ch=1))) by
  unfold cI;rw [show inI v.k 1 7=true from decide_eq_true (by omega),hsi,hcv,decide_eq_true hs];unfold yO
  rw [if_neg (by omega),if_neg (by omega),if_pos (by omega)];rfl)
 unfold chV at hcv
 replace hcv:=of_decide_eq_true hcv
 have hsu:bits .andNot .i64 v.su 1023=0:=hs
 have HCR:=zh (show ∃ sl rr,sl=inI v.sl 0 9∧rr=decide (v.ro=0∧v.su=0) from ⟨_,_,rfl,rfl⟩)
 clear hsi hs
 have HKK:=zh hk
 rw [hk] at a0 HK
 clear hk
 have WV:∀ W:World,Ext w W→Ext w W.drew:=fun W h=>h.drew'
 by_cases hd:v.ch=1
 all_goals by_cases hr:v.ro=0
 all_goals
  have hz:decide (v.va=0)=!decide (v.ch=1):=by by_cases c1:v.ch=1 <;> by_cases c2:v.va=0 <;> simp_all
  first | rw [decide_eq_true hd] at hz | rw [decide_eq_false hd] at hz
  rw [hz] at q7
  first | rw [Bool.not_true] at q7 | rw [Bool.not_false] at q7
  have x1:(v.ch == 1)=decide (v.ch=1):=by by_cases c:v.ch=1 <;> simp [c]
  first | rw [decide_eq_true hd] at x1 | rw [decide_eq_false hd] at x1
  have d1:decide (v.ch=1)=(v.ch == 1):=by by_cases c:v.ch=1 <;> simp [c]
  rw [x1] at d1
  have x2:(v.ro == 0)=decide (v.ro=0):=by by_cases c:v.ro=0 <;> simp [c]
  first | rw [decide_eq_true hr] at x2 | rw [decide_eq_false hr] at x2
  have d2:decide (v.ro=0)=(v.ro == 0):=by by_cases c:v.ro=0 <;> simp [c]
  rw [x2] at d2
  have HQ:=zh (And.intro hd (And.intro hr hcv))
  clear hz hd hr hcv
  go_enter Tryz.func244,Tryz.ntmps244
  go_wp2_with (go_at_call 259;(first | (with_reducible refine (HK.out _).mono ?_) | (with_reducible refine (HS.out _).mono ?_));rintro e wv ⟨rfl,rfl⟩)
  go_quiet ((fail))
  have HB1:=zh (show Blk ((w.alloc (.cells (vtA v) 134)).drewN nq) w.heap.size 134 (vtA v) from HB0.out)
  have HE1:=zh (below_drewN HE.out nq)
  clear a0 a1 a2 a3 a4 a5 a6 a7 HB0 HE q7 HK HS hsu
  generalize (w.alloc (.cells (vtA v) 134)).drewN nq=W1 at HB1 HE1 ⊢
  obtain ⟨a0,a1,a2,a3,a4,a5,a6,a7⟩:=bO HB1.out
  rw [HKK.out] at a0
  go_wp2_with fail
  go_quiet ((fail))
  have HB2:=zh (show Blk (W1.drewN nq) w.heap.size 134 (vtA v) from HB1.out)
  have HE2:=zh (below_drewN HE1.out nq)
  clear a0 a1 a2 a3 a4 a5 a6 a7 HB1 HE1
  generalize W1.drewN nq=W2 at HB2 HE2 ⊢
  obtain ⟨a0,a1,a2,a3,a4,a5,a6,a7⟩:=bO HB2.out
  rw [HKK.out] at a0
  go_upto_block 0 with (fail)
  go_cut [3,4,5] (fun t3 t4 t5 wx=>t3=.int .i64 9∧t4=.bool (decide (v.ro=0∧v.su=0))∧t5=.bool (decide (v.ch=1))∧Blk wx w.heap.size 134 (vtA v)∧Ext w wx)
  case first =>
   go_wp2_with fail
   all_goals
    go_meet
    obtain ⟨q1,q2,q3⟩:=HQ.out
    refine ⟨rfl,?_,?_,HB2.out,HE2.out⟩ <;> first | rfl | (congr 1;by_cases c:v.su=0 <;> simp [q1,q2,c])
  case rest =>
   obtain ⟨rfl,h4,h5,hb,he⟩:=hcut
   have HX:=zh he
   obtain ⟨a0,a1,a2,a3,a4,a5,a6,a7⟩:=bO hb
   obtain ⟨b1,e1⟩:∃ b,inI v.sl 0 9=b:=⟨_,rfl⟩
   obtain ⟨b2,e2⟩:∃ b,(decide (v.ro=0∧v.su=0))=b:=⟨_,rfl⟩
   obtain ⟨b3,e3⟩:∃ b,(decide (v.ch=1))=b:=⟨_,rfl⟩
   have HL:=zh (fun W=>bA v.sl 0 9 W)
   rw [e1] at HL
   rw [e2] at h4
   rw [e3] at h5
   subst h4
   subst h5
   have HW:=zh (show cI v=(b1 && (b2 && b3)) by rw [HV.out,e1,e2,e3])
   clear hb he e1 e2 e3 a0 a2 a3 a4 a5 a6 a7 x1 d1 x2 d2
   cases b1
   case' true=>cases b2
   all_goals
    go_wp2_with (go_at_call 259;(with_reducible refine (HL.out _).mono ?_);rintro e wv ⟨rfl,rfl⟩)
    go_ret
    exact ⟨by rw [HW.out];rfl,HX.out⟩
theorem aBu (v:VtR) (hk:v.k=2) (hsi:inI v.si 0 9=true) (hcv:chV v=true) (hs:zU v.su=0) (w:World) :
  Calls Tryz.prog 244 #[.agg (vtA v)] w fun e w'=>e=.returned (.bool (cI v))∧Ext w w':=by
 have HE:=zh ((Ext.refl w).alloc' (.cells (vtA v) 134))
 obtain ⟨a0,a1,a2,a3,a4,a5,a6,a7⟩:=bO (Blk.new w 134 (vtA v))
 have HB0:=zh (Blk.new w 134 (vtA v))
 have HB:=zh (fun n lo hi W=>bA n lo hi W)
 have HK:=zh (fun W=>bA v.k 1 7 W)
 have HS:=zh (fun W=>bA v.si 0 9 W)
 rw [show inI v.k 1 7=true from decide_eq_true (by omega)] at HK
 rw [hsi] at HS
 have q7:=fun W=>bX v.va 0 W
 rw [aU] at q7
 have HV:=zh (show cI v=(inI v.sl 0 9 && (decide (v.ro=0∧v.su=0) && decide (v.ch=1))) by
  unfold cI;rw [show inI v.k 1 7=true from decide_eq_true (by omega),hsi,hcv,decide_eq_true hs];unfold yO
  rw [if_neg (by omega),if_neg (by omega),if_pos (by omega)];rfl)
 unfold chV at hcv
 replace hcv:=of_decide_eq_true hcv
 have hsu:bits .andNot .i64 v.su 1023=0:=hs
 have HCR:=zh (show ∃ sl rr,sl=inI v.sl 0 9∧rr=decide (v.ro=0∧v.su=0) from ⟨_,_,rfl,rfl⟩)
 clear hsi hs
 have HKK:=zh hk
 rw [hk] at a0 HK
 clear hk
 have WV:∀ W:World,Ext w W→Ext w W.drew:=fun W h=>h.drew'
 by_cases hd:v.ch=1
 all_goals by_cases hr:v.ro=0
 all_goals
  have hz:decide (v.va=0)=!decide (v.ch=1):=by by_cases c1:v.ch=1 <;> by_cases c2:v.va=0 <;> simp_all
  first | rw [decide_eq_true hd] at hz | rw [decide_eq_false hd] at hz
  rw [hz] at q7
  first | rw [Bool.not_true] at q7 | rw [Bool.not_false] at q7
  have x1:(v.ch == 1)=decide (v.ch=1):=by by_cases c:v.ch=1 <;> simp [c]
  first | rw [decide_eq_true hd] at x1 | rw [decide_eq_false hd] at x1
  have d1:decide (v.ch=1)=(v.ch == 1):=by by_cases c:v.ch=1 <;> simp [c]
  rw [x1] at d1
  have x2:(v.ro == 0)=decide (v.ro=0):=by by_cases c:v.ro=0 <;> simp [c]
  first | rw [decide_eq_true hr] at x2 | rw [decide_eq_false hr] at x2
  have d2:decide (v.ro=0)=(v.ro == 0):=by by_cases c:v.ro=0 <;> simp [c]
  rw [x2] at d2
  have HQ:=zh (And.intro hd (And.intro hr hcv))
  clear hz hd hr hcv
  go_enter Tryz.func244,Tryz.ntmps244
  go_wp2_with (go_at_call 259;(first | (with_reducible refine (HK.out _).mono ?_) | (with_reducible refine (HS.out _).mono ?_));rintro e wv ⟨rfl,rfl⟩)
  go_quiet ((fail))
  have HB1:=zh (show Blk ((w.alloc (.cells (vtA v) 134)).drewN nq) w.heap.size 134 (vtA v) from HB0.out)
  have HE1:=zh (below_drewN HE.out nq)
  clear a0 a1 a2 a3 a4 a5 a6 a7 HB0 HE q7 HK HS hsu
  generalize (w.alloc (.cells (vtA v) 134)).drewN nq=W1 at HB1 HE1 ⊢
  obtain ⟨a0,a1,a2,a3,a4,a5,a6,a7⟩:=bO HB1.out
  rw [HKK.out] at a0
  go_wp2_with fail
  go_quiet ((fail))
  have HB2:=zh (show Blk (W1.drewN nq) w.heap.size 134 (vtA v) from HB1.out)
  have HE2:=zh (below_drewN HE1.out nq)
  clear a0 a1 a2 a3 a4 a5 a6 a7 HB1 HE1
  generalize W1.drewN nq=W2 at HB2 HE2 ⊢
  obtain ⟨a0,a1,a2,a3,a4,a5,a6,a7⟩:=bO HB2.out
  rw [HKK.out] at a0
  go_upto_block 0 with (fail)
  go_cut [3,4,5] (fun t3 t4 t5 wx=>t3=.int .i64 9∧t4=.bool (decide (v.ro=0∧v.su=0))∧t5=.bool (decide (v.ch=1))∧Blk wx w.heap.size 134 (vtA v)∧Ext w wx)
  case first =>
   go_wp2_with fail
   all_goals
    go_meet
    obtain ⟨q1,q2,q3⟩:=HQ.out
    refine ⟨rfl,?_,?_,HB2.out,HE2.out⟩ <;> first | rfl | (congr 1;by_cases c:v.su=0 <;> simp [q1,q2,c])
  case rest =>
   obtain ⟨rfl,h4,h5,hb,he⟩:=hcut
   have HX:=zh he
   obtain ⟨a0,a1,a2,a3,a4,a5,a6,a7⟩:=bO hb
   obtain ⟨b1,e1⟩:∃ b,inI v.sl 0 9=b:=⟨_,rfl⟩
   obtain ⟨b2,e2⟩:∃ b,(decide (v.ro=0∧v.su=0))=b:=⟨_,rfl⟩
   obtain ⟨b3,e3⟩:∃ b,(decide (v.ch=1))=b:=⟨_,rfl⟩
   have HL:=zh (fun W=>bA v.sl 0 9 W)
   rw [e1] at HL
   rw [e2] at h4
   rw [e3] at h5
   subst h4
   subst h5
   have HW:=zh (show cI v=(b1 && (b2 && b3)) by rw [HV.out,e1,e2,e3])
   clear hb he e1 e2 e3 a0 a2 a3 a4 a5 a6 a7 x1 d1 x2 d2
   cases b1
   case' true=>cases b2
   all_goals
    go_wp2_with (go_at_call 259;(with_reducible refine (HL.out _).mono ?_);rintro e wv ⟨rfl,rfl⟩)
    go_ret
    exact ⟨by rw [HW.out];rfl,HX.out⟩
theorem aBt (v:VtR) (hk:v.k=3) (hsi:inI v.si 0 9=true) (hcv:chV v=true) (hs:zU v.su=0) (w:World) :
  Calls Tryz.prog 244 #[.agg (vtA v)] w fun e w'=>e=.returned (.bool (cI v))∧Ext w w':=by
 have HE:=zh ((Ext.refl w).alloc' (.cells (vtA v) 134))
 obtain ⟨a0,a1,a2,a3,a4,a5,a6,a7⟩:=bO (Blk.new w 134 (vtA v))
 have HB0:=zh (Blk.new w 134 (vtA v))
 have HB:=zh (fun n lo hi W=>bA n lo hi W)
 have HK:=zh (fun W=>bA v.k 1 7 W)
 have HS:=zh (fun W=>bA v.si 0 9 W)
 rw [show inI v.k 1 7=true from decide_eq_true (by omega)] at HK
 rw [hsi] at HS
 have q7:=fun W=>bX v.va 0 W
 rw [aU] at q7
 have HV:=zh (show cI v=(inI v.sl 0 9 && (inI v.ro 1 12 && (inI v.ch 0 1 && (decide (v.ro ≠ 1) || (decide (v.ch ≠ 0) || decide (v.su=0)))))) by
  unfold cI;rw [show inI v.k 1 7=true from decide_eq_true (by omega),hsi,hcv,decide_eq_true hs];unfold yO
  rw [if_pos hk];rfl)
 unfold chV at hcv
 replace hcv:=of_decide_eq_true hcv
 have hsu:bits .andNot .i64 v.su 1023=0:=hs
 have HCR:=zh (show ∃ sl rr,sl=inI v.sl 0 9∧rr=inI v.ro 1 12 from ⟨_,_,rfl,rfl⟩)
 clear hsi hs
 have HKK:=zh hk
 rw [hk] at a0 HK
 clear hk
 have WV:∀ W:World,Ext w W→Ext w W.drew:=fun W h=>h.drew'
 by_cases hd:v.ch=1
 all_goals by_cases hr:v.ro=0
 all_goals
  have hz:decide (v.va=0)=!decide (v.ch=1):=by by_cases c1:v.ch=1 <;> by_cases c2:v.va=0 <;> simp_all
  first | rw [decide_eq_true hd] at hz | rw [decide_eq_false hd] at hz
  rw [hz] at q7
  first | rw [Bool.not_true] at q7 | rw [Bool.not_false] at q7
  have x1:(v.ch == 1)=decide (v.ch=1):=by by_cases c:v.ch=1 <;> simp [c]
  first | rw [decide_eq_true hd] at x1 | rw [decide_eq_false hd] at x1
  have d1:decide (v.ch=1)=(v.ch == 1):=by by_cases c:v.ch=1 <;> simp [c]
  rw [x1] at d1
  have x2:(v.ro == 0)=decide (v.ro=0):=by by_cases c:v.ro=0 <;> simp [c]
  first | rw [decide_eq_true hr] at x2 | rw [decide_eq_false hr] at x2
  have d2:decide (v.ro=0)=(v.ro == 0):=by by_cases c:v.ro=0 <;> simp [c]
  rw [x2] at d2
  have HQ:=zh (And.intro hd (And.intro hr hcv))
  clear hz hd hr hcv
  go_enter Tryz.func244,Tryz.ntmps244
  go_wp2_with (go_at_call 259;(first | (with_reducible refine (HK.out _).mono ?_) | (with_reducible refine (HS.out _).mono ?_));rintro e wv ⟨rfl,rfl⟩)
  go_quiet ((fail))
  have HB1:=zh (show Blk ((w.alloc (.cells (vtA v) 134)).drewN nq) w.heap.size 134 (vtA v) from HB0.out)
  have HE1:=zh (below_drewN HE.out nq)
  clear a0 a1 a2 a3 a4 a5 a6 a7 HB0 HE q7 HK HS hsu
  generalize (w.alloc (.cells (vtA v) 134)).drewN nq=W1 at HB1 HE1 ⊢
  obtain ⟨a0,a1,a2,a3,a4,a5,a6,a7⟩:=bO HB1.out
  rw [HKK.out] at a0
  go_wp2_with fail
  go_quiet ((fail))
  have HB2:=zh (show Blk (W1.drewN nq) w.heap.size 134 (vtA v) from HB1.out)
  have HE2:=zh (below_drewN HE1.out nq)
  clear a0 a1 a2 a3 a4 a5 a6 a7 HB1 HE1
  generalize W1.drewN nq=W2 at HB2 HE2 ⊢
  obtain ⟨a0,a1,a2,a3,a4,a5,a6,a7⟩:=bO HB2.out
  rw [HKK.out] at a0
  go_upto_block 0 with (fail)
  go_cut [3,4,5] (fun t3 t4 t5 wx=>t3=.int .i64 9∧t4=.bool (inI v.ro 1 12)∧t5=.bool ((inI v.ch 0 1 && (decide (v.ro ≠ 1) || (decide (v.ch ≠ 0) || decide (v.su=0)))))∧Blk wx w.heap.size 134 (vtA v)∧Ext w wx)
  case first =>
   go_wp2_with fail
   go_quiet ((go_at_call 259;exact Calls.quiet_of_same ((HB.out _ _ _ _).mono (fun _ _ h=>⟨h.1,h.2.symm⟩))))
   have HB3:=zh (show Blk (W2.drewN nq) w.heap.size 134 (vtA v) from HB2.out)
   have HE3:=zh (below_drewN HE2.out nq)
   clear a0 a1 a2 a3 a4 a5 a6 a7 HB2 HE2
   generalize W2.drewN nq=W3 at HB3 HE3 ⊢
   obtain ⟨a0,a1,a2,a3,a4,a5,a6,a7⟩:=bO HB3.out
   rw [HKK.out] at a0
   obtain ⟨bc,hbc⟩:∃ b,inI v.ch 0 1=b:=⟨_,rfl⟩
   have HBC:=zh hbc
   rw [hbc]
   clear hbc
   cases bc
   all_goals by_cases n1:v.ro=1
   all_goals by_cases n2:v.ch=0
   all_goals
    first | (exfalso;obtain ⟨q1,q2,q3⟩:=HQ.out;omega) | skip
   all_goals
    have m1:(v.ro != 1)=!decide (v.ro=1):=by by_cases c:v.ro=1 <;> simp [c]
    have m2:(v.ch != 0)=!decide (v.ch=0):=by by_cases c:v.ch=0 <;> simp [c]
    first | rw [decide_eq_true n1] at m1 | rw [decide_eq_false n1] at m1
    first | rw [decide_eq_true n2] at m2 | rw [decide_eq_false n2] at m2
    have HN:=zh (And.intro n1 n2)
    clear n1 n2 x1 d1 x2 d2
   all_goals go_wp2_with fail
   all_goals
    go_meet
    obtain ⟨q1,q2,q3⟩:=HQ.out
    refine ⟨rfl,?_,?_,HB3.out,HE3.out⟩ <;> first | rfl | (congr 1;rw [HBC.out];by_cases c:v.su=0 <;> simp [HN.out.1,HN.out.2,c])
  case rest =>
   obtain ⟨rfl,h4,h5,hb,he⟩:=hcut
   have HX:=zh he
   obtain ⟨a0,a1,a2,a3,a4,a5,a6,a7⟩:=bO hb
   obtain ⟨b1,e1⟩:∃ b,inI v.sl 0 9=b:=⟨_,rfl⟩
   obtain ⟨b2,e2⟩:∃ b,(inI v.ro 1 12)=b:=⟨_,rfl⟩
   obtain ⟨b3,e3⟩:∃ b,((inI v.ch 0 1 && (decide (v.ro ≠ 1) || (decide (v.ch ≠ 0) || decide (v.su=0)))))=b:=⟨_,rfl⟩
   have HL:=zh (fun W=>bA v.sl 0 9 W)
   rw [e1] at HL
   rw [e2] at h4
   rw [e3] at h5
   subst h4
   subst h5
   have HW:=zh (show cI v=(b1 && (b2 && b3)) by rw [HV.out,e1,e2,e3])
   clear hb he e1 e2 e3 a0 a2 a3 a4 a5 a6 a7 x1 d1 x2 d2
   cases b1
   case' true=>cases b2
   all_goals
    go_wp2_with (go_at_call 259;(with_reducible refine (HL.out _).mono ?_);rintro e wv ⟨rfl,rfl⟩)
    go_ret
    exact ⟨by rw [HW.out];rfl,HX.out⟩
theorem aBs (v:VtR) (hk:v.k=4) (hsi:inI v.si 0 9=true) (hcv:chV v=true) (hs:zU v.su=0) (w:World) :
  Calls Tryz.prog 244 #[.agg (vtA v)] w fun e w'=>e=.returned (.bool (cI v))∧Ext w w':=by
 have HE:=zh ((Ext.refl w).alloc' (.cells (vtA v) 134))
 obtain ⟨a0,a1,a2,a3,a4,a5,a6,a7⟩:=bO (Blk.new w 134 (vtA v))
 have HB0:=zh (Blk.new w 134 (vtA v))
 have HB:=zh (fun n lo hi W=>bA n lo hi W)
 have HK:=zh (fun W=>bA v.k 1 7 W)
 have HS:=zh (fun W=>bA v.si 0 9 W)
 rw [show inI v.k 1 7=true from decide_eq_true (by omega)] at HK
 rw [hsi] at HS
 have q7:=fun W=>bX v.va 0 W
 rw [aU] at q7
 have HV:=zh (show cI v=(inI v.sl 0 9 && (inI v.ro 1 12 && inI v.ch 0 2)) by
  unfold cI;rw [show inI v.k 1 7=true from decide_eq_true (by omega),hsi,hcv,decide_eq_true hs];unfold yO
  rw [if_neg (by omega),if_pos hk];rfl)
 unfold chV at hcv
 replace hcv:=of_decide_eq_true hcv
 have hsu:bits .andNot .i64 v.su 1023=0:=hs
 have HCR:=zh (show ∃ sl rr,sl=inI v.sl 0 9∧rr=inI v.ro 1 12 from ⟨_,_,rfl,rfl⟩)
 clear hsi hs
 have HKK:=zh hk
 rw [hk] at a0 HK
 clear hk
 have WV:∀ W:World,Ext w W→Ext w W.drew:=fun W h=>h.drew'
 by_cases hd:v.ch=1
 all_goals by_cases hr:v.ro=0
 all_goals
  have hz:decide (v.va=0)=!decide (v.ch=1):=by by_cases c1:v.ch=1 <;> by_cases c2:v.va=0 <;> simp_all
  first | rw [decide_eq_true hd] at hz | rw [decide_eq_false hd] at hz
  rw [hz] at q7
  first | rw [Bool.not_true] at q7 | rw [Bool.not_false] at q7
  have x1:(v.ch == 1)=decide (v.ch=1):=by by_cases c:v.ch=1 <;> simp [c]
  first | rw [decide_eq_true hd] at x1 | rw [decide_eq_false hd] at x1
  have d1:decide (v.ch=1)=(v.ch == 1):=by by_cases c:v.ch=1 <;> simp [c]
  rw [x1] at d1
  have x2:(v.ro == 0)=decide (v.ro=0):=by by_cases c:v.ro=0 <;> simp [c]
  first | rw [decide_eq_true hr] at x2 | rw [decide_eq_false hr] at x2
  have d2:decide (v.ro=0)=(v.ro == 0):=by by_cases c:v.ro=0 <;> simp [c]
  rw [x2] at d2
  have HQ:=zh (And.intro hd (And.intro hr hcv))
  clear hz hd hr hcv
  go_enter Tryz.func244,Tryz.ntmps244
  go_wp2_with (go_at_call 259;(first | (with_reducible refine (HK.out _).mono ?_) | (with_reducible refine (HS.out _).mono ?_));rintro e wv ⟨rfl,rfl⟩)
  go_quiet ((fail))
  have HB1:=zh (show Blk ((w.alloc (.cells (vtA v) 134)).drewN nq) w.heap.size 134 (vtA v) from HB0.out)
  have HE1:=zh (below_drewN HE.out nq)
  clear a0 a1 a2 a3 a4 a5 a6 a7 HB0 HE q7 HK HS hsu
  generalize (w.alloc (.cells (vtA v) 134)).drewN nq=W1 at HB1 HE1 ⊢
  obtain ⟨a0,a1,a2,a3,a4,a5,a6,a7⟩:=bO HB1.out
  rw [HKK.out] at a0
  go_wp2_with fail
  go_quiet ((fail))
  have HB2:=zh (show Blk (W1.drewN nq) w.heap.size 134 (vtA v) from HB1.out)
  have HE2:=zh (below_drewN HE1.out nq)
  clear a0 a1 a2 a3 a4 a5 a6 a7 HB1 HE1
  generalize W1.drewN nq=W2 at HB2 HE2 ⊢
  obtain ⟨a0,a1,a2,a3,a4,a5,a6,a7⟩:=bO HB2.out
  rw [HKK.out] at a0
  go_upto_block 0 with (fail)
  go_cut [3,4,5] (fun t3 t4 t5 wx=>t3=.int .i64 9∧t4=.bool (inI v.ro 1 12)∧t5=.bool (inI v.ch 0 2)∧Blk wx w.heap.size 134 (vtA v)∧Ext w wx)
  case first =>
   go_wp2_with fail
   go_quiet ((go_at_call 259;exact Calls.quiet_of_same ((HB.out _ _ _ _).mono (fun _ _ h=>⟨h.1,h.2.symm⟩))))
   have HB3:=zh (show Blk (W2.drewN nq) w.heap.size 134 (vtA v) from HB2.out)
   have HE3:=zh (below_drewN HE2.out nq)
   clear a0 a1 a2 a3 a4 a5 a6 a7 HB2 HE2
   generalize W2.drewN nq=W3 at HB3 HE3 ⊢
   all_goals go_wp2_with fail
   all_goals
    go_meet
    obtain ⟨q1,q2,q3⟩:=HQ.out
    refine ⟨rfl,?_,?_,HB3.out,HE3.out⟩ <;> first | rfl | (congr 1;by_cases c:v.su=0 <;> simp [q1,q2,c])
  case rest =>
   obtain ⟨rfl,h4,h5,hb,he⟩:=hcut
   have HX:=zh he
   obtain ⟨a0,a1,a2,a3,a4,a5,a6,a7⟩:=bO hb
   obtain ⟨b1,e1⟩:∃ b,inI v.sl 0 9=b:=⟨_,rfl⟩
   obtain ⟨b2,e2⟩:∃ b,(inI v.ro 1 12)=b:=⟨_,rfl⟩
   obtain ⟨b3,e3⟩:∃ b,(inI v.ch 0 2)=b:=⟨_,rfl⟩
   have HL:=zh (fun W=>bA v.sl 0 9 W)
   rw [e1] at HL
   rw [e2] at h4
   rw [e3] at h5
   subst h4
   subst h5
   have HW:=zh (show cI v=(b1 && (b2 && b3)) by rw [HV.out,e1,e2,e3])
   clear hb he e1 e2 e3 a0 a2 a3 a4 a5 a6 a7 x1 d1 x2 d2
   cases b1
   case' true=>cases b2
   all_goals
    go_wp2_with (go_at_call 259;(with_reducible refine (HL.out _).mono ?_);rintro e wv ⟨rfl,rfl⟩)
    go_ret
    exact ⟨by rw [HW.out];rfl,HX.out⟩
theorem aBr (v:VtR) (hk:(5≤v.k∧v.k≤7)) (hsi:inI v.si 0 9=true) (hcv:chV v=true) (hs:zU v.su=0) (w:World) :
  Calls Tryz.prog 244 #[.agg (vtA v)] w fun e w'=>e=.returned (.bool (cI v))∧Ext w w':=by
 have HE:=zh ((Ext.refl w).alloc' (.cells (vtA v) 134))
 obtain ⟨a0,a1,a2,a3,a4,a5,a6,a7⟩:=bO (Blk.new w 134 (vtA v))
 have HB0:=zh (Blk.new w 134 (vtA v))
 have HB:=zh (fun n lo hi W=>bA n lo hi W)
 have HK:=zh (fun W=>bA v.k 1 7 W)
 have HS:=zh (fun W=>bA v.si 0 9 W)
 rw [show inI v.k 1 7=true from decide_eq_true (by omega)] at HK
 rw [hsi] at HS
 have q7:=fun W=>bX v.va 0 W
 rw [aU] at q7
 have HV:=zh (show cI v=(inI v.sl 0 0 && (decide (v.ro=0∧v.su=0) && decide (v.ch=1))) by
  unfold cI;rw [show inI v.k 1 7=true from decide_eq_true (by omega),hsi,hcv,decide_eq_true hs];unfold yO
  rw [if_neg (by omega),if_neg (by omega),if_neg (by omega)];rfl)
 unfold chV at hcv
 replace hcv:=of_decide_eq_true hcv
 have hsu:bits .andNot .i64 v.su 1023=0:=hs
 have HCR:=zh (show ∃ sl rr,sl=inI v.sl 0 0∧rr=decide (v.ro=0∧v.su=0) from ⟨_,_,rfl,rfl⟩)
 clear hsi hs
 have k1:(v.k == 1)=false:=by simp;omega
 have k2:(v.k == 2)=false:=by simp;omega
 have k3:(v.k == 3)=false:=by simp;omega
 have k4:(v.k == 4)=false:=by simp;omega
 have k1':decide (v.k=1)=false:=by simp;omega
 have k2':decide (v.k=2)=false:=by simp;omega
 have k3':decide (v.k=3)=false:=by simp;omega
 have k4':decide (v.k=4)=false:=by simp;omega
 clear hk
 have WV:∀ W:World,Ext w W→Ext w W.drew:=fun W h=>h.drew'
 by_cases hd:v.ch=1
 all_goals by_cases hr:v.ro=0
 all_goals
  have hz:decide (v.va=0)=!decide (v.ch=1):=by by_cases c1:v.ch=1 <;> by_cases c2:v.va=0 <;> simp_all
  first | rw [decide_eq_true hd] at hz | rw [decide_eq_false hd] at hz
  rw [hz] at q7
  first | rw [Bool.not_true] at q7 | rw [Bool.not_false] at q7
  have x1:(v.ch == 1)=decide (v.ch=1):=by by_cases c:v.ch=1 <;> simp [c]
  first | rw [decide_eq_true hd] at x1 | rw [decide_eq_false hd] at x1
  have d1:decide (v.ch=1)=(v.ch == 1):=by by_cases c:v.ch=1 <;> simp [c]
  rw [x1] at d1
  have x2:(v.ro == 0)=decide (v.ro=0):=by by_cases c:v.ro=0 <;> simp [c]
  first | rw [decide_eq_true hr] at x2 | rw [decide_eq_false hr] at x2
  have d2:decide (v.ro=0)=(v.ro == 0):=by by_cases c:v.ro=0 <;> simp [c]
  rw [x2] at d2
  have HQ:=zh (And.intro hd (And.intro hr hcv))
  clear hz hd hr hcv
  go_enter Tryz.func244,Tryz.ntmps244
  go_wp2_with (go_at_call 259;(first | (with_reducible refine (HK.out _).mono ?_) | (with_reducible refine (HS.out _).mono ?_));rintro e wv ⟨rfl,rfl⟩)
  go_quiet ((fail))
  have HB1:=zh (show Blk ((w.alloc (.cells (vtA v) 134)).drewN nq) w.heap.size 134 (vtA v) from HB0.out)
  have HE1:=zh (below_drewN HE.out nq)
  clear a0 a1 a2 a3 a4 a5 a6 a7 HB0 HE q7 HK HS hsu
  generalize (w.alloc (.cells (vtA v) 134)).drewN nq=W1 at HB1 HE1 ⊢
  obtain ⟨a0,a1,a2,a3,a4,a5,a6,a7⟩:=bO HB1.out
  go_wp2_with fail
  go_quiet ((fail))
  have HB2:=zh (show Blk (W1.drewN nq) w.heap.size 134 (vtA v) from HB1.out)
  have HE2:=zh (below_drewN HE1.out nq)
  clear a0 a1 a2 a3 a4 a5 a6 a7 HB1 HE1
  generalize W1.drewN nq=W2 at HB2 HE2 ⊢
  obtain ⟨a0,a1,a2,a3,a4,a5,a6,a7⟩:=bO HB2.out
  go_upto_block 0 with (fail)
  go_cut [3,4,5] (fun t3 t4 t5 wx=>t3=.int .i64 0∧t4=.bool (decide (v.ro=0∧v.su=0))∧t5=.bool (decide (v.ch=1))∧Blk wx w.heap.size 134 (vtA v)∧Ext w wx)
  case first =>
   go_wp2_with fail
   all_goals
    go_meet
    obtain ⟨q1,q2,q3⟩:=HQ.out
    refine ⟨rfl,?_,?_,HB2.out,HE2.out⟩ <;> first | rfl | (congr 1;by_cases c:v.su=0 <;> simp [q1,q2,c])
  case rest =>
   obtain ⟨rfl,h4,h5,hb,he⟩:=hcut
   have HX:=zh he
   obtain ⟨a0,a1,a2,a3,a4,a5,a6,a7⟩:=bO hb
   obtain ⟨b1,e1⟩:∃ b,inI v.sl 0 0=b:=⟨_,rfl⟩
   obtain ⟨b2,e2⟩:∃ b,(decide (v.ro=0∧v.su=0))=b:=⟨_,rfl⟩
   obtain ⟨b3,e3⟩:∃ b,(decide (v.ch=1))=b:=⟨_,rfl⟩
   have HL:=zh (fun W=>bA v.sl 0 0 W)
   rw [e1] at HL
   rw [e2] at h4
   rw [e3] at h5
   subst h4
   subst h5
   have HW:=zh (show cI v=(b1 && (b2 && b3)) by rw [HV.out,e1,e2,e3])
   clear hb he e1 e2 e3 a0 a2 a3 a4 a5 a6 a7 x1 d1 x2 d2
   cases b1
   case' true=>cases b2
   all_goals
    go_wp2_with (go_at_call 259;(with_reducible refine (HL.out _).mono ?_);rintro e wv ⟨rfl,rfl⟩)
    go_ret
    exact ⟨by rw [HW.out];rfl,HX.out⟩
theorem fS (v:VtR) (w:World) :
  Calls Tryz.prog 244 #[.agg (vtA v)] w fun e w'=>e=.returned (.bool (cI v))∧Ext w w':=by
 cases hk:inI v.k 1 7 with
 | false=>exact aBq v hk w
 | true =>
  cases hsi:inI v.si 0 9 with
  | false=>exact zM v hk hsi w
  | true =>
   cases hc:chV v with
   | false=>exact pJ v hk hsi (.inl hc) w
   | true =>
    by_cases hs:zU v.su=0
    ·have h := of_decide_eq_true hk
     by_cases k1:v.k=1
     ·exact aBv v k1 hsi hc hs w
     by_cases k2:v.k=2
     ·exact aBu v k2 hsi hc hs w
     by_cases k3:v.k=3
     ·exact aBt v k3 hsi hc hs w
     by_cases k4:v.k=4
     ·exact aBs v k4 hsi hc hs w
     exact aBr v (by omega) hsi hc hs w
    exact pJ v hk hsi (.inr hs) w
end
end Go.Proofs.YtohmmcahpakokaaGreat
