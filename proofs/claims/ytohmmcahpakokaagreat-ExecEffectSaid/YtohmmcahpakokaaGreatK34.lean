/- A genesis as a value; amount, ValidateGenesis and the reference's ValidGenesis. -/
import Derived.Test.YtohmmcahpakokaaGreatK31
set_option maxRecDepth 100000
set_option maxHeartbeats 8000000
set_option linter.unusedVariables false
set_option linter.unusedSimpArgs false
namespace Go.Proofs.YtohmmcahpakokaaGreat
open Go.RowKit
attribute [local go_sem ↓] Go.wp_at_zero Go.wp_at_succ
structure SlZ (w:World) (A:Option Addr) (n c:Nat) (l:List Int):Prop where
 len:l.length=n
 le:n≤c
 cap:c≤9223372036854775807
 rd:Rd w A (ics l)
def nthZ (l:List Int) (k:Nat):Int:=l.getD k 0
section
variable {w w':World} {A:Option Addr} {n c:Nat} {l:List Int}
theorem SlZ.ext (h:SlZ w A n c l) (e:Ext w w'):SlZ w' A n c l:=⟨h.len,h.le,h.cap,h.rd.ext e⟩
theorem SlZ.nil (w:World):SlZ w none 0 0 []:=⟨rfl,Nat.le_refl _,Nat.zero_le _,.nil⟩
theorem SlZ.at (h:SlZ w A n c l) (hn:0 < n):∃ b o,A=some ⟨b,o,none⟩∧w.rangeAt b o (ics l)∧b < w.heap.size :=
 h.rd.at (by intro e;have:=congrArg List.length e;rw [ics_length,h.len] at this;simp at this;omega)
theorem int_at {b o k:Nat} (h:w.rangeAt b o (ics l)) (hk:k < l.length):w.cell? ⟨b,o+k,none⟩=some (.int .i64 (nthZ l k)):=by
 refine h k _ ?_
 simp [ics,iv,nthZ,List.getD,hk]
end
abbrev genC (N Z:Int) (A1:Option Addr) (n1 c1:Nat) (A2:Option Addr) (n2 c2:Nat) (A3:Option Addr) (n3 c3:Nat):Array Value:=#[.int .i64 N,.int .i64 Z,.slice A1 n1 c1,.slice A2 n2 c2,.slice A3 n3 c3]
def amtB (z:Int):Bool:=decide (0≤z∧z≤1099511627776)
def headG (N Z:Int) (n1 n2 n3:Nat):Prop:=1≤N∧N≤7∧1≤n1∧n1≤10∧N≤(n1:Int)∧1≤n2∧n2≤16∧n3=n2∧0≤Z∧Z≤1099511627776
instance (N Z:Int) (n1 n2 n3:Nat):Decidable (headG N Z n1 n2 n3):=by unfold headG;infer_instance
def vldG (N Z:Int) (n1 n2 n3:Nat) (l:List Int):Bool:=decide (headG N Z n1 n2 n3) && decide (∀ k,k < l.length→amtB (nthZ l k)=true)
theorem vldG_no {N Z:Int} {n1 n2 n3:Nat} {l:List Int} (h:¬ headG N Z n1 n2 n3):vldG N Z n1 n2 n3 l=false:=by
 unfold vldG;rw [decide_eq_false h,Bool.false_and]
theorem vldG_at {N Z:Int} {n1 n2 n3:Nat} {l:List Int} {k:Nat} (hk:k < l.length) (h:amtB (nthZ l k)=false):vldG N Z n1 n2 n3 l=false:=by
 unfold vldG;rw [decide_eq_false (p:=∀ k,k < l.length→amtB (nthZ l k)=true) (fun hh=>by rw [hh k hk] at h;cases h),Bool.and_false]
theorem vldG_yes {N Z:Int} {n1 n2 n3:Nat} {l:List Int} (h:headG N Z n1 n2 n3) (h2:∀ k,k < l.length→amtB (nthZ l k)=true):vldG N Z n1 n2 n3 l=true:=by
 unfold vldG;rw [decide_eq_true h,decide_eq_true h2];rfl
def codeG (b:Bool):Int:=if b then 0 else 1
theorem amount_yes (z:Int) (h:0≤z∧z≤1099511627776) (w:World):Calls Tryz.prog 144 #[.int .i64 z] w fun e w'=>e=.returned (.bool true)∧w=w':=by
 obtain ⟨h1,h2⟩:=h
 go_enter Tryz.func144,Tryz.ntmps144
 go_wp2_with fail
 go_ret
 exact ⟨rfl,rfl⟩
theorem amount_no (z:Int) (h:z < 0 ∨ 1099511627776 < z) (w:World):Calls Tryz.prog 144 #[.int .i64 z] w fun e w'=>e=.returned (.bool false)∧w=w':=by
 by_cases h1:0≤z
 ·have h2 : decide (z ≤ 1099511627776) = false := decide_eq_false (by omega)
  go_enter Tryz.func144,Tryz.ntmps144
  go_wp2_with fail
  go_ret
  exact ⟨rfl,rfl⟩
 ·have h2 : decide (0 ≤ z) = false := decide_eq_false h1
  go_enter Tryz.func144,Tryz.ntmps144
  go_wp2_with fail
  go_ret
  exact ⟨rfl,rfl⟩
theorem amount_any (z:Int) (w:World):Calls Tryz.prog 144 #[.int .i64 z] w fun e w'=>e=.returned (.bool (amtB z))∧w=w':=by
 by_cases h:0≤z∧z≤1099511627776
 ·rw [show amtB z=true from decide_eq_true h];exact amount_yes z h w
 ·rw [show amtB z=false from decide_eq_false h];exact amount_no z (by omega) w
theorem valGenesis_any (N Z:Int) (A1:Option Addr) (n1 c1:Nat) (A2:Option Addr) (n2 c2:Nat) (A3:Option Addr) (n3 c3:Nat) (l:List Int) (w:World) (hS:SlZ w A3 n3 c3 l) (hm1:n1≤9223372036854775807) (hm2:n2≤9223372036854775807) :
  Calls Tryz.prog 88 #[.agg (genC N Z A1 n1 c1 A2 n2 c2 A3 n3 c3)] w fun e w'=>e=.returned (.int .i64 (codeG (vldG N Z n1 n2 n3 l)))∧Ext w w':=by
 have hlen:=hS.len
 have hle:=hS.le
 have hcap:=hS.cap
 have HE:=zh ((Ext.refl w).alloc' (.cells (genC N Z A1 n1 c1 A2 n2 c2 A3 n3 c3) 40))
 have HB:=zh (Blk.new w 40 (genC N Z A1 n1 c1 A2 n2 c2 A3 n3 c3))
 have HS:=zh hS
 have HLEN:=zh hlen
 clear hS hlen
 by_cases t0:1≤N
 ·have d0 : decide (N < 1) = false := decide_eq_false (by omega)
  by_cases t1:N≤7
  ·have d1 : decide (7 < N) = false := decide_eq_false (by omega)
   by_cases t2:(1:Int)≤(n1:Int)
   ·have d2 : decide ((n1 : Int) < 1) = false := decide_eq_false (by omega)
    by_cases t3:(n1:Int)≤10
    ·have d3 : decide ((10 : Int) < (n1 : Int)) = false := decide_eq_false (by omega)
     by_cases t4:N≤(n1:Int)
     ·have d4 : decide ((n1 : Int) < N) = false := decide_eq_false (by omega)
      by_cases t5:(1:Int)≤(n2:Int)
      ·have d5 : decide ((n2 : Int) < 1) = false := decide_eq_false (by omega)
       by_cases t6:(n2:Int)≤16
       ·have d6 : decide ((16 : Int) < (n2 : Int)) = false := decide_eq_false (by omega)
        by_cases t7:n3=n2
        ·subst t7
         by_cases t8:0≤Z∧Z≤1099511627776
         ·have HH := zh (show headG N Z n1 n3 n3 from ⟨t0, t1, by omega, by omega, t4, by omega, by omega, rfl, t8.1, t8.2⟩)
          have HM:=zh (amount_yes Z t8)
          obtain ⟨b,o,rfl,hr,hb⟩:=HS.out.at (by omega)
          have HR:=zh hr
          have HBL:=zh hb
          clear hr hb t8
          go_enter Tryz.func88,Tryz.ntmps88
          go_wp2_with fail
          go_quiet (fail)
          go_wp2_with (go_at_call 144;(with_reducible refine (HM.out _).mono ?_);rintro e wv ⟨rfl,rfl⟩)
          go_loopw [59] (fun i wr=>∃ q:Nat,q≤n3∧i=.int .i64 (q:Int)∧Hid (∀ j,j < q→amtB (nthZ l j)=true)∧Ext (w.alloc (.cells (genC N Z A1 n1 c1 A2 n3 c2 (some ⟨b,o,none⟩) n3 c3) 40)) wr) (fun i _=>n3 - (intOf i).toNat)
          case atStart=>exact ⟨0,Nat.zero_le _,rfl,zh (fun j hj=>by omega),drewN_ext _ _⟩
          case round =>
           obtain ⟨q,hq,rfl,HP,hX⟩:=hrel
           have HX:=zh hX
           have hra:=rangeAt_keep HR.out ((HE.out.trans hX).block b HBL.out)
           clear hX
           by_cases hlt:q < n3
           ·have hid := int_at hra (k := q) (by rw [HLEN.out]; exact hlt)
            have HQ:=zh (fun (hx:amtB (nthZ l q)=true)=>show ∀ j,j < q+1→amtB (nthZ l j)=true from fun j hj=>by
             rcases Nat.lt_or_ge j q with h | h
             ·exact HP.out j h
             ·obtain rfl : j = q := by omega
              exact hx)
            have HN:=zh (fun (hx:amtB (nthZ l q)=false)=>show codeG (vldG N Z n1 n3 n3 l)=1 by rw [vldG_at (by rw [HLEN.out];exact hlt) hx];rfl)
            have HA:=zh (amount_any (nthZ l q))
            have i0:(0:Int)≤(q:Int):=by omega
            have i1:(q:Int) < (n3:Int):=by omega
            clear hra
            rcases hx:amtB (nthZ l q) with _ | _
            ·have HXX := zh (HN.out hx)
             rw [hx] at HA
             generalize nthZ l q=z at *
             clear hx HN HQ
             go_wp2_with fail
             refine (HA.out _).mono ?_
             rintro e wv ⟨rfl,rfl⟩
             go_wp2_with fail
             go_ret
             exact ⟨by rw [HXX.out];rfl,HE.out.trans HX.out⟩
            ·have HXX := zh (HQ.out hx)
             rw [hx] at HA
             generalize nthZ l q=z at hid HA
             clear hx HN HQ
             go_wp2_with fail
             refine (HA.out _).mono ?_
             rintro e wv ⟨rfl,rfl⟩
             go_wp2_with fail
             go_roundw
             case rel=>exact ⟨q+1,by omega,by go_num,HXX,HX.out⟩
             case measure=>simp [intOf];omega
           ·obtain rfl : q = n3 := by omega
            have HF:=zh (show codeG (vldG N Z n1 q q l)=0 by rw [vldG_yes HH.out (fun k hk=>HP.out k (by rw [HLEN.out] at hk;exact hk))];rfl)
            go_wp2_with fail
            go_ret
            exact ⟨by rw [HF.out];rfl,HE.out.trans HX.out⟩
         ·have HM := zh (amount_no Z (by omega))
          have HF:=zh (show codeG (vldG N Z n1 n3 n3 l)=1 by rw [vldG_no (fun h=>t8 ⟨h.2.2.2.2.2.2.2.2.1,h.2.2.2.2.2.2.2.2.2⟩)];rfl)
          clear HS
          go_enter Tryz.func88,Tryz.ntmps88
          go_wp2_with fail
          go_quiet (fail)
          go_wp2_with (go_at_call 144;(with_reducible refine (HM.out _).mono ?_);rintro e wv ⟨rfl,rfl⟩)
          go_ret
          exact ⟨by rw [HF.out];rfl,HE.out.trans (drewN_ext _ _)⟩
        ·have d7 : ((n3 : Int) != (n2 : Int)) = true := by simp; omega
         have d8:¬ (n3:Int)=(n2:Int):=by omega
         have HF:=zh (show codeG (vldG N Z n1 n2 n3 l)=1 by rw [vldG_no (fun h=>t7 h.2.2.2.2.2.2.2.1)];rfl)
         clear HS
         go_enter Tryz.func88,Tryz.ntmps88
         go_wp2_with fail
         go_quiet (fail)
         go_wp2_with fail
         go_ret
         exact ⟨by rw [HF.out];rfl,HE.out.trans (drewN_ext _ _)⟩
       ·have e6 : (16 : Int) < (n2 : Int) := by omega
        have HF:=zh (show codeG (vldG N Z n1 n2 n3 l)=1 by rw [vldG_no (fun h=>t6 (by have:=h.2.2.2.2.2.2.1;omega))];rfl)
        clear HS
        go_enter Tryz.func88,Tryz.ntmps88
        go_wp2_with fail
        go_quiet (fail)
        go_wp2_with fail
        go_ret
        exact ⟨by rw [HF.out];rfl,HE.out.trans (drewN_ext _ _)⟩
      ·have e5 : (n2 : Int) < 1 := by omega
       have HF:=zh (show codeG (vldG N Z n1 n2 n3 l)=1 by rw [vldG_no (fun h=>t5 (by have:=h.2.2.2.2.2.1;omega))];rfl)
       clear HS
       go_enter Tryz.func88,Tryz.ntmps88
       go_wp2_with fail
       go_quiet (fail)
       go_wp2_with fail
       go_ret
       exact ⟨by rw [HF.out];rfl,HE.out.trans (drewN_ext _ _)⟩
     ·have e4 : (n1 : Int) < N := by omega
      have HF:=zh (show codeG (vldG N Z n1 n2 n3 l)=1 by rw [vldG_no (fun h=>t4 (by have:=h.2.2.2.2.1;omega))];rfl)
      clear HS
      go_enter Tryz.func88,Tryz.ntmps88
      go_wp2_with fail
      go_quiet (fail)
      go_wp2_with fail
      go_ret
      exact ⟨by rw [HF.out];rfl,HE.out.trans (drewN_ext _ _)⟩
    ·have e3 : (10 : Int) < (n1 : Int) := by omega
     have HF:=zh (show codeG (vldG N Z n1 n2 n3 l)=1 by rw [vldG_no (fun h=>t3 (by have:=h.2.2.2.1;omega))];rfl)
     clear HS
     go_enter Tryz.func88,Tryz.ntmps88
     go_wp2_with fail
     go_quiet (fail)
     go_wp2_with fail
     go_ret
     exact ⟨by rw [HF.out];rfl,HE.out.trans (drewN_ext _ _)⟩
   ·have e2 : (n1 : Int) < 1 := by omega
    have HF:=zh (show codeG (vldG N Z n1 n2 n3 l)=1 by rw [vldG_no (fun h=>t2 (by have:=h.2.2.1;omega))];rfl)
    clear HS
    go_enter Tryz.func88,Tryz.ntmps88
    go_wp2_with fail
    go_quiet (fail)
    go_wp2_with fail
    go_ret
    exact ⟨by rw [HF.out];rfl,HE.out.trans (drewN_ext _ _)⟩
  ·have e1 : 7 < N := by omega
   have HF:=zh (show codeG (vldG N Z n1 n2 n3 l)=1 by rw [vldG_no (fun h=>t1 (by have:=h.2.1;omega))];rfl)
   clear HS
   go_enter Tryz.func88,Tryz.ntmps88
   go_wp2_with fail
   go_quiet (fail)
   go_wp2_with fail
   go_ret
   exact ⟨by rw [HF.out];rfl,HE.out.trans (drewN_ext _ _)⟩
 ·have e0 : N < 1 := by omega
  have HF:=zh (show codeG (vldG N Z n1 n2 n3 l)=1 by rw [vldG_no (fun h=>t0 (by have:=h.1;omega))];rfl)
  clear HS
  go_enter Tryz.func88,Tryz.ntmps88
  go_wp2_with fail
  go_quiet (fail)
  go_wp2_with fail
  go_ret
  exact ⟨by rw [HF.out];rfl,HE.out.trans (drewN_ext _ _)⟩
theorem effO_len (ac sq:Int) (L:List OpR) (i:Nat):(effO ac sq L i).length≤2:=by
 unfold effO
 split
 ·exact Nat.le_refl _
 ·split
  ·exact Nat.le_refl _
  ·split
   ·exact Nat.le_refl _
   ·split
    ·exact Nat.le_refl _
    ·exact Nat.zero_le _
theorem effN_len (ac sq:Int) (L:List OpR) (k:Nat):(effN ac sq L k).length≤2 * k:=by
 induction k with
 | zero=>exact Nat.le_refl _
 | succ k ih=>rw [effN_succ,List.length_append];have:=effO_len ac sq L k;omega
theorem outN_step {ac sq:Int} {L:List OpR} (hv:vTx ac sq L=true):∀ k,k≤L.length→(0≤outN L k∧outN L k≤10000000000000 * k)∧∀ (h:k < L.length),outN L (k+1)=outN L k+(nthO L k).am:=by
 obtain ⟨⟨q1,q2,q3,q4,q5,q6⟩,hop⟩:=vTx_of hv
 have hs:∀ k,k≤L.length→0≤((L.take k).map OpR.am).sum∧((L.take k).map OpR.am).sum≤10000000000000 * k:=by
  intro k
  induction k with
  | zero=>intro _;simp
  | succ k ih =>
   intro hk
   have h1:=ih (by omega)
   obtain ⟨-,-,-,-,-,-,-,ham,-⟩:=vOp_bd (hop k (by omega))
   rw [take_nthO (by omega),List.map_append,List.sum_append]
   simp only [List.map_cons,List.map_nil,List.sum_cons,List.sum_nil]
   omega
 have he:∀ k,k≤L.length→outN L k=((L.take k).map OpR.am).sum:=fun k hk=>by
  have:=hs k hk
  exact wr_id ⟨by omega,by omega⟩
 intro k hk
 refine ⟨by rw [he k hk];exact hs k hk,fun h=>?_⟩
 rw [he k hk,he (k+1) h,take_nthO h,List.map_append,List.sum_append]
 simp
def EffOut (w:World) (l:List DeR) (e:Ending) (w':World):Prop:=∃ A n c,e=.returned (.slice A n c)∧w'.ownsRow w.heap.size 34 11 (.slice A n c) n (gcs l)∧(∀ d ∈ l,deW d)∧Ext w w'
theorem effO_wf {ac sq:Int} {L:List OpR} (hv:vTx ac sq L=true) {i:Nat} (hi:i < L.length):∀ d ∈ effO ac sq L i,deW d:=by
 obtain ⟨⟨q1,q2,q3,q4,q5,q6⟩,hop⟩:=vTx_of hv
 obtain ⟨hkk,hto,ham,hva,-,-,-,-,-⟩:=vOp_bd (hop i hi)
 have hac:wfI ac:=wfS ⟨by omega,by omega⟩
 have h0:wfI 0:=wfS (by decide)
 have h1:wfI 1:=wfS (by decide)
 have h2:wfI 2:=wfS (by decide)
 have h3:wfI 3:=wfS (by decide)
 unfold effO
 split
 ·exact mv_wf ⟨h1,hac⟩ ⟨h1,hto⟩ ham
 ·split
  ·exact mv_wf ⟨h1,hac⟩ ⟨h2,h0⟩ ham
  ·split
   ·exact mv_wf ⟨h2,h0⟩ ⟨h1,hto⟩ ham
   ·split
    ·exact mv_wf ⟨h1,hac⟩ ⟨h3,hva⟩ ham
    ·intro d hd;cases hd
theorem effN_wf {ac sq:Int} {L:List OpR} (hv:vTx ac sq L=true):∀ k,k≤L.length→∀ d ∈ effN ac sq L k,deW d:=by
 intro k
 induction k with
 | zero=>intro _ d hd;cases hd
 | succ k ih =>
  intro hk d hd
  rw [effN_succ] at hd
  rcases List.mem_append.1 hd with hd | hd
  ·exact ih (by omega) d hd
  ·exact effO_wf hv (by omega) d hd
theorem exEffect_any (ac sq:Int) (A:Option Addr) (n c:Nat) (L:List OpR) (w:World) (hS:SlO w A n c L) :
  Calls Tryz.prog 13 #[.agg (txA ac sq A n c)] w (EffOut w (effT ac sq L)):=by
 obtain ⟨W,hW⟩:∃ W,w.alloc (.cells (txA ac sq A n c) 24)=W:=⟨_,rfl⟩
 have HB:=zh (show Blk W w.heap.size 24 (txA ac sq A n c) from by rw [← hW];exact Blk.new w 24 (txA ac sq A n c))
 have HE:=zh (show Ext w W from by rw [← hW];exact (Ext.refl w).alloc' _)
 have HS:=zh (hS.ext HE.out)
 have HV:=zh (validate_any ac sq A n c L W HS.out)
 have hle:=hS.le
 have hcap:=hS.cap
 have HLEN:=zh hS.len
 have t0:=HB.out.cell 0
 have t1:=HB.out.cell 1
 have t2:=HB.out.cell 2
 clear hS
 cases hv:vTx ac sq L with
 | false =>
  have HT:=zh (show effT ac sq L=[] from by unfold effT;rw [hv];rfl)
  rw [hv] at HV
  have HV:=zh (show Calls Tryz.prog 44 #[.agg (txA ac sq A n c)] W (fun e w'=>e=.returned (.int .i64 1)∧Ext W w') from HV.out)
  clear hv
  go_enter Tryz.func13,Tryz.ntmps13
  go_wp2_with fail
  refine HV.out.mono ?_
  rintro e w1 ⟨rfl,he1⟩
  have HX:=zh (HE.out.trans he1)
  clear he1 t0 t1 t2 hW
  go_wp2_with fail
  go_ret
  exact ⟨none,0,0,rfl,by rw [HT.out];exact World.ownsRow_nil _ _ _ _,by rw [HT.out];exact (fun d hd=>by cases hd),HX.out⟩
 | true =>
  have HT:=zh (show effT ac sq L=effN ac sq L L.length from by unfold effT;rw [if_pos hv])
  have HVT:=zh hv
  rw [hv] at HV
  have HV:=zh (show Calls Tryz.prog 44 #[.agg (txA ac sq A n c)] W (fun e w'=>e=.returned (.int .i64 0)∧Ext W w') from HV.out)
  clear hv
  have hn4:n≤4:=by have:=(vTx_of HVT.out).1.2.2.2.2.2;have:=HLEN.out;omega
  go_enter Tryz.func13,Tryz.ntmps13
  go_wp2_with fail
  refine HV.out.mono ?_
  rintro e w1 ⟨rfl,he1⟩
  have HX1:=zh (HE.out.trans he1)
  have HB1:=zh (HB.out.ext he1)
  have HS1:=zh (HS.out.ext he1)
  clear he1 t0 t1 t2 hW
  have t2:=HB1.out.cell 2
  go_wp2_with fail
  go_loopw [3,11] (fun vl vi wr=>∃ (k:Nat) (A':Option Addr) (m d:Nat),vi=.int .i64 (k:Int)∧k≤n∧vl=.slice A' m d∧Hid (wr.ownsRow w1.heap.size 34 11 (.slice A' m d) m (gcs (effN ac sq L k)))∧Hid (Ext w1 wr)) (fun _ i _=>n - (intOf i).toNat)
  case atStart=>exact ⟨0,none,0,0,rfl,Nat.zero_le _,rfl,zh (World.ownsRow_nil _ _ _ _),zh (Ext.refl w1)⟩
  case round =>
   obtain ⟨k,A',m,d,rfl,hk,rfl,HO,HX⟩:=hrel
   by_cases hlt:k < n
   ·have i0 : (k : Int) < (n : Int) := by omega
    have HB2:=zh (HB1.out.ext HX.out)
    have t0:=HB2.out.cell 0
    have t1:=HB2.out.cell 1
    have t2:=HB2.out.cell 2
    have HC:=zh (effect_any ac sq A n c L k wr (HS1.out.ext HX.out) hlt HVT.out)
    have hm8:m≤8:=by
     have h1:(effN ac sq L k).length=m:=OwnG.len (e:=34) HO.out
     have:=effN_len ac sq L k
     omega
    go_wp2_with (first | (go_at_call 45;refine HC.out.mono ?_;rintro e w3 ⟨A9,n9,c9,rfl,hs9,he9⟩;have HS9:=zh hs9;have HE9:=zh he9;have HO9:=zh (own_ext HO.out he9);have h9:n9≤2:=(by have:=effO_len ac sq L k;have:=hs9.len;omega);have HL9:=zh (show (gcs (effO ac sq L k)).length=n9 * 11 from by rw [gcs_length,hs9.len];rfl);clear hs9 he9) | (at_builtin;go_must (refine wpList_appGG deE rfl (.tmp 14) (.tmp 17) rfl w1.heap.size A' m d _ rfl HO9.out A9 n9 c9 (gcs (effO ac sq L k)) rfl HS9.out.rd HL9.out (gcs_cell _) (by omega) (by omega) (Nat.le_trans HX.out.size HE9.out.size) ?_;intro A3 c3 w4 hO4 hg4)))
    have HO5:=zh (show w4.ownsRow w1.heap.size 34 11 (.slice A3 (m+n9) c3) (m+n9) (gcs (effN ac sq L (k+1))) from by rw [effN_succ,gcs_append];exact hO4)
    have HX5:=zh (show Ext w1 w4 from Below.grown (HX.out.trans HE9.out) hg4 (Nat.le_trans HX.out.size HE9.out.size) (fun k hk=>(World.ownsRow.lt HO9.out k hk).1))
    clear hO4 hg4 HS9 HE9 HO9 HL9 HC t0 t1 t2 HB2
    go_roundw
    case rel=>exact ⟨k+1,A3,m+n9,c3,by go_num,hlt,rfl,HO5,HX5⟩
    case measure=>simp [intOf];omega
   ·obtain rfl : k = n := by omega
    have i0:¬ (k:Int) < (k:Int):=by omega
    have HF:=zh (show effT ac sq L=effN ac sq L k from by rw [HT.out,HLEN.out])
    go_wp2_with fail
    go_ret
    exact ⟨A',m,d,rfl,by rw [HF.out];exact own_mono HO.out HX1.out.size,by rw [HF.out];exact effN_wf HVT.out k (by rw [HLEN.out];exact Nat.le_refl _),HX1.out.trans HX.out⟩
theorem exOutflow_any (ac sq:Int) (A:Option Addr) (n c:Nat) (L:List OpR) (w:World) (hS:SlO w A n c L) :
  Calls Tryz.prog 16 #[.agg (txA ac sq A n c)] w fun e w'=>e=.returned (.int .i64 (outT ac sq L))∧Ext w w':=by
 obtain ⟨W,hW⟩:∃ W,w.alloc (.cells (txA ac sq A n c) 24)=W:=⟨_,rfl⟩
 have HB:=zh (show Blk W w.heap.size 24 (txA ac sq A n c) from by rw [← hW];exact Blk.new w 24 (txA ac sq A n c))
 have HE:=zh (show Ext w W from by rw [← hW];exact (Ext.refl w).alloc' _)
 have HS:=zh (hS.ext HE.out)
 have HV:=zh (validate_any ac sq A n c L W HS.out)
 have hle:=hS.le
 have hcap:=hS.cap
 have HLEN:=zh hS.len
 have t0:=HB.out.cell 0
 have t1:=HB.out.cell 1
 have t2:=HB.out.cell 2
 clear hS
 cases hv:vTx ac sq L with
 | false =>
  have HT:=zh (show outT ac sq L=0 from by unfold outT;rw [hv];rfl)
  rw [hv] at HV
  have HV:=zh (show Calls Tryz.prog 44 #[.agg (txA ac sq A n c)] W (fun e w'=>e=.returned (.int .i64 1)∧Ext W w') from HV.out)
  clear hv
  go_enter Tryz.func16,Tryz.ntmps16
  go_wp2_with fail
  refine HV.out.mono ?_
  rintro e w1 ⟨rfl,he1⟩
  have HX:=zh (HE.out.trans he1)
  clear he1 t0 t1 t2 hW
  go_wp2_with fail
  go_ret
  exact ⟨by rw [HT.out];rfl,HX.out⟩
 | true =>
  have HT:=zh (show outT ac sq L=outN L L.length from by unfold outT;rw [if_pos hv])
  have HVT:=zh hv
  rw [hv] at HV
  have HV:=zh (show Calls Tryz.prog 44 #[.agg (txA ac sq A n c)] W (fun e w'=>e=.returned (.int .i64 0)∧Ext W w') from HV.out)
  clear hv
  have hn4:n≤4:=by have:=(vTx_of HVT.out).1.2.2.2.2.2;have:=HLEN.out;omega
  go_enter Tryz.func16,Tryz.ntmps16
  go_wp2_with fail
  refine HV.out.mono ?_
  rintro e w1 ⟨rfl,he1⟩
  have HX1:=zh (HE.out.trans he1)
  have HB1:=zh (HB.out.ext he1)
  have HS1:=zh (HS.out.ext he1)
  clear he1 t0 t1 t2 hW
  have t2:=HB1.out.cell 2
  go_wp2_with fail
  go_loopw [3,12] (fun vl vi wr=>∃ (k:Nat),vi=.int .i64 (k:Int)∧k≤n∧vl=.int .i64 (outN L k)∧Hid (Ext w1 wr)) (fun _ i _=>n - (intOf i).toNat)
  case atStart=>exact ⟨0,rfl,Nat.zero_le _,rfl,zh (Ext.refl w1)⟩
  case round =>
   obtain ⟨k,rfl,hk,rfl,HX⟩:=hrel
   by_cases hlt:k < n
   ·have i0 : (0 : Int) ≤ (k : Int) := by omega
    have i1:(k:Int) < (n:Int):=by omega
    obtain ⟨b,o,rfl,hrow,-⟩:=(HS1.out.ext HX.out).g.at (by omega)
    obtain ⟨R,hR⟩:∃ R,nthO L k=R:=⟨_,rfl⟩
    have hr:wr.rangeAt b (o+k * 23) (RowT.enc R):=by rw [← hR,nthO_G];exact el_at hrow (by rw [HLEN.out];exact hlt)
    obtain ⟨⟨n1,n2⟩,n3⟩:=outN_step HVT.out k (by rw [HLEN.out];omega)
    have n4:=n3 (by rw [HLEN.out];exact hlt)
    have ham:=(vOp_bd ((vTx_of HVT.out).2 k (by rw [HLEN.out];exact hlt))).2.2.2.2.2.2.2.1
    rw [hR] at n4 ham
    have HN4:=zh n4
    obtain ⟨z,hz⟩:∃ z,outN L k=z:=⟨_,rfl⟩
    rw [hz] at HN4 n1 n2 ⊢
    obtain ⟨v,hv⟩:∃ v,Value.agg (opA R)=v:=⟨_,rfl⟩
    have HVV:=zh hv
    have hm1:=ham.1
    have hm2:=ham.2
    have hz2:z≤10000000000000 * 4:=by omega
    clear hrow hR hv n3 n4 hz ham n2
    obtain ⟨X,hX⟩:∃ X,wr.heap.size=X:=⟨_,rfl⟩
    have HXS:=zh hX
    clear hX
    go_upto_region 7 with (first | (with_reducible refine wpList_loadG opP rfl (.tmp 14) rfl b (o+k * 23) rfl R v HVV.out hr ?_) | ((with_reducible refine wpList_newG opP rfl (.tmp 5) (.tmp 15) rfl zeroO rfl R v HVV.out rfl rfl ?_);intro W4 h4))
    have HD:=zh (show Blk W4 X 69 (opA R) from by rw [← h4.out,← HXS.out];exact Blk.new wr 69 (opA R))
    have HX4:=zh (show Ext w1 W4 from by rw [← h4.out];exact HX.out.alloc' _)
    have k2:W4.cell? ⟨X,2,none⟩=some (.int .i64 R.am):=HD.out.cell 2
    clear h4 hr
    rw [HXS.out]
    go_wp2_with fail
    go_roundw
    case rel=>exact ⟨k+1,by go_num,hlt,by rw [HN4.out],HX4⟩
    case measure=>simp [intOf];omega
   ·obtain rfl : k = n := by omega
    have i0:¬ (k:Int) < (k:Int):=by omega
    go_wp2_with fail
    go_ret
    exact ⟨by rw [HT.out,HLEN.out];rfl,HX1.out.trans HX.out⟩
end Go.Proofs.YtohmmcahpakokaaGreat
