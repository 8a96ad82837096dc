import Derived.Test.YtgmnmjeccfnmbaaGreatE15
set_option maxRecDepth 100000
set_option maxHeartbeats 8000000
set_option linter.unusedVariables false
set_option linter.unusedSimpArgs false
namespace Go.Proofs.YtgmnmjeccfnmbaaGreat
theorem Ah {p:Prop} (h:p:=by
 clear hk
 go_enter func27,ntmps27
 go_upto_region 2 with (first | (with_reducible refine aD opP rfl (.tmp 11) rfl b (o+i * 23) rfl R v HV.out hr ?_) | ((with_reducible refine aU opP rfl (.tmp 7) (.tmp 12) rfl jX rfl R v HV.out rfl rfl ?_);intro W4 h4))
 have HX4:=zh (show Ext W W4 from bi)
 have HD:=zh (show Blk W4 X 52 (opA R) from ax)
 have HB:=zh (HB0.out.ext HX4.out)
 have HTX:=zh (HT0.out.ext HX4.out)
 have HR:=zh (HR0.out.ext HX4.out)
 have HEX:=zh (HE.out.trans HX4.out)
 have k0:W4.cell? ⟨X,0,none⟩=some (.int .i64 R.k):=HD.out.cell 0
 clear h4 hr t0 t1 t2 hW
 rw [HXS.out]
 obtain ⟨q0,q1,q2,q3,q4⟩:=aE HB.out
 go_wp2_with (first | ((with_reducible refine aH rfl (.tmp 6) (.tmp 45) rfl (w.heap.size+2) s0 rfl rfl HR.out ?_);intro W9 h9))
 have hst:Blk W9 (w.heap.size+2) 30 (ssA s0):=pv
 have HXE:=zh (show Ext w W9 from ot)
 clear h9
 exact bodyPost_ret (v:=.agg (ssA s0)) (fP rfl _ _ (w.heap.size+2) _ rfl (run_loadVar_row _ _ _ _ _ (0,0) _ hst underlying30 rfl ab)) rfl ⟨s0,rfl,HOW.out.ext HXE.out,sc,HXE.out⟩):p:=h
theorem ts {p:Prop} (h:p:=by
 clear hk
 go_enter func27,ntmps27
 go_upto_region 2 with (first | (with_reducible refine aD opP rfl (.tmp 11) rfl b (o+i * 23) rfl R v HV.out hr ?_) | ((with_reducible refine aU opP rfl (.tmp 7) (.tmp 12) rfl jX rfl R v HV.out rfl rfl ?_);intro W4 h4))
 have HX4:=zh (show Ext W W4 from bi)
 have HD:=zh (show Blk W4 X 52 (opA R) from ax)
 have HB:=zh (HB0.out.ext HX4.out)
 have HTX:=zh (HT0.out.ext HX4.out)
 have HR:=zh (HR0.out.ext HX4.out)
 have HEX:=zh (HE.out.trans HX4.out)
 have k0:W4.cell? ⟨X,0,none⟩=some (.int .i64 R.k):=HD.out.cell 0
 clear h4 hr t0 t1 t2 hW
 rw [HXS.out]
 obtain ⟨q0,q1,q2,q3,q4⟩:=aE HB.out
 have r5:W4.rangeAt X 5 (RowT.enc R.lk):=kJ HD.out
 go_wp2_with (first | (with_reducible refine aD nmP rfl (.tmp 35) rfl X 5 rfl R.lk _ rfl r5 ?_) | fail "A")
 refine (uJ s0 R.lk W4 (HOW.out.ok.ext HEX.out) HN.out).mono ?_
 rintro e w5 ⟨s2,rfl,ho2,hv2,he5⟩
 have HO2:=zh ho2
 have HV2:=zh hv2
 have HX5:=zh he5
 have HR5:=zh (HR.out.ext he5)
 clear ho2 hv2 he5 r5
 go_wp2_with ((with_reducible refine aH rfl (.tmp 6) (.tmp 37) rfl (w.heap.size+2) s2 rfl rfl HR5.out ?_);intro W9 h9)
 have hst:Blk W9 (w.heap.size+2) 30 (ssA s2):=il
 have HOW2:=zh (show OwnS W9 base s2 from by
  rw [← h9.out]
  exact (HO2.out.kept (aB _ _ _ _) HR5.out ae ae ae ae).mono (Nat.le_trans HBS.out HEX.out.size))
 have HXE:=zh (show Ext w W9 from l8)
 clear h9
 exact Bx):p:=h
open Go.Proofs.Tryz
section
open Go.RowKit
attribute [local go_sem ↓] Go.wp_at_zero Go.wp_at_succ
structure SlZ (w:World) (A:Option Addr) (n c:Nat) (l:List Int):Prop where
 len:l.length=n
 le:n≤c
 cap:c≤9223372036854775807
 rd:Rd w A (ics l)
def lE (l:List Int) (k:Nat):Int:=l.getD k 0
section
variable {w w':World} {A:Option Addr} {n c:Nat} {l:List Int}
theorem SlZ.ext (h:SlZ w A n c l) (e:Ext w w'):SlZ w' A n c l:=⟨h.len,h.le,h.cap,h.rd.ext e⟩
theorem SlZ.nil (w:World):SlZ w none 0 0 []:=⟨rfl,Nat.le_refl _,Nat.zero_le _,.nil⟩
theorem SlZ.at (h:SlZ w A n c l) (hn:0 < n):∃ b o,A=some ⟨b,o,none⟩∧w.rangeAt b o (ics l)∧b < w.heap.size :=
 h.rd.at (by intro e;have:=congrArg List.length e;rw [aFi,h.len] at this;simp at this;omega)
theorem aJc {b o k:Nat} (h:w.rangeAt b o (ics l)) (hk:k < l.length):w.cell? ⟨b,o+k,none⟩=some (.int .i64 (lE l k)):=by
 refine h k _ ?_
 simp [ics,iv,lE,List.getD,hk]
end
abbrev genC (N Z:Int) (A1:Option Addr) (n1 c1:Nat) (A2:Option Addr) (n2 c2:Nat) (A3:Option Addr) (n3 c3:Nat):Array Value:=#[.int .i64 N,.int .i64 Z,.slice A1 n1 c1,.slice A2 n2 c2,.slice A3 n3 c3]
def nY (z:Int):Bool:=decide (0≤z∧z≤1099511627776)
def xX (N Z:Int) (n1 n2 n3:Nat):Prop:=1≤N∧N≤7∧1≤n1∧n1≤10∧N≤(n1:Int)∧1≤n2∧n2≤16∧n3=n2∧0≤Z∧Z≤1099511627776
instance (N Z:Int) (n1 n2 n3:Nat):Decidable (xX N Z n1 n2 n3):=by unfold xX;infer_instance
def eP (N Z:Int) (n1 n2 n3:Nat) (l:List Int):Bool:=decide (xX N Z n1 n2 n3) && decide (∀ k,k < l.length→nY (lE l k)=true)
theorem fH {N Z:Int} {n1 n2 n3:Nat} {l:List Int} (h:¬ xX N Z n1 n2 n3):eP N Z n1 n2 n3 l=false:=by
 unfold eP;rw [decide_eq_false h,Bool.false_and]
theorem aFK {N Z:Int} {n1 n2 n3:Nat} {l:List Int} {k:Nat} (hk:k < l.length) (h:nY (lE l k)=false):eP N Z n1 n2 n3 l=false:=by
 unfold eP;rw [decide_eq_false (p:=∀ k,k < l.length→nY (lE l k)=true) (fun hh=>by rw [hh k hk] at h;cases h),Bool.and_false]
theorem aCq {N Z:Int} {n1 n2 n3:Nat} {l:List Int} (h:xX N Z n1 n2 n3) (h2:∀ k,k < l.length→nY (lE l k)=true):eP N Z n1 n2 n3 l=true:=by
 unfold eP;rw [decide_eq_true h,decide_eq_true h2];rfl
def nU (b:Bool):Int:=if b then 0 else 1
theorem yR (z:Int) (h:0≤z∧z≤1099511627776) (w:World):Calls prog 121 #[.int .i64 z] w fun e w'=>e=.returned (.bool true)∧w=w':=by
 obtain ⟨h1,h2⟩:=h
 exact zp
theorem aAS (z:Int) (h:z < 0 ∨ 1099511627776 < z) (w:World):Calls prog 121 #[.int .i64 z] w fun e w'=>e=.returned (.bool false)∧w=w':=by
 by_cases h1:0≤z
 ·have h2 : decide (z ≤ 1099511627776) = false := decide_eq_false aa
  exact zp
 have h2:decide (0≤z)=false:=decide_eq_false h1
 exact zp
theorem aFD (z:Int) (w:World):Calls prog 121 #[.int .i64 z] w fun e w'=>e=.returned (.bool (nY z))∧w=w':=by
 by_cases h:0≤z∧z≤1099511627776
 ·rw [show nY z=true from decide_eq_true h];exact yR z h w
 rw [show nY z=false from decide_eq_false h];exact aAS z aa w
theorem wI (N Z:Int) (A1:Option Addr) (n1 c1:Nat) (A2:Option Addr) (n2 c2:Nat) (A3:Option Addr) (n3 c3:Nat) (l:List Int) (w:World) (hS:SlZ w A3 n3 c3 l) (hm1:n1≤9223372036854775807) (hm2:n2≤9223372036854775807) :
  Calls prog 60 #[.agg (genC N Z A1 n1 c1 A2 n2 c2 A3 n3 c3)] w fun e w'=>e=.returned (.int .i64 (nU (eP N Z n1 n2 n3 l)))∧Ext w w':=by
 have hlen:=hS.len
 have hle:=hS.le
 have hcap:=hS.cap
 have HE:=zh ((Ext.refl w).alloc' (.cells (genC N Z A1 n1 c1 A2 n2 c2 A3 n3 c3) 25))
 have HB:=zh (Blk.new w 25 (genC N Z A1 n1 c1 A2 n2 c2 A3 n3 c3))
 have HS:=zh hS
 have HLEN:=zh hlen
 clear hS hlen
 by_cases t0:1≤N
 ·have d0 : decide (N < 1) = false := decide_eq_false aa
  by_cases t1:N≤7
  ·have d1 : decide (7 < N) = false := decide_eq_false aa
   by_cases t2:(1:Int)≤(n1:Int)
   ·have d2 : decide ((n1 : Int) < 1) = false := decide_eq_false aa
    by_cases t3:(n1:Int)≤10
    ·have d3 : decide ((10 : Int) < (n1 : Int)) = false := decide_eq_false aa
     by_cases t4:N≤(n1:Int)
     ·have d4 : decide ((n1 : Int) < N) = false := decide_eq_false aa
      by_cases t5:(1:Int)≤(n2:Int)
      ·have d5 : decide ((n2 : Int) < 1) = false := decide_eq_false aa
       by_cases t6:(n2:Int)≤16
       ·have d6 : decide ((16 : Int) < (n2 : Int)) = false := decide_eq_false aa
        by_cases t7:n3=n2
        ·subst t7
         by_cases t8:0≤Z∧Z≤1099511627776
         ·have HH := zh (show xX N Z n1 n3 n3 from ⟨t0, t1, aa, aa, t4, aa, aa, rfl, t8.1, t8.2⟩)
          have HM:=zh (yR Z t8)
          obtain ⟨b,o,rfl,hr,hb⟩:=HS.out.at aa
          have HR:=zh hr
          have HBL:=zh hb
          clear hr hb t8
          go_enter func60,ntmps60
          go_wp2_with fail
          go_quiet (fail)
          go_wp2_with (go_at_call 121;(with_reducible refine (HM.out _).mono ?_);rintro e wv ⟨rfl,rfl⟩)
          go_loopw [59] (fun i wr=>∃ q:Nat,q≤n3∧i=.int .i64 (q:Int)∧Hid (∀ j,j < q→nY (lE l j)=true)∧Ext (w.alloc (.cells (genC N Z A1 n1 c1 A2 n3 c2 (some ⟨b,o,none⟩) n3 c3) 25)) wr) (fun i _=>n3 - (intOf i).toNat)
          case atStart=>exact ⟨0,Nat.zero_le _,rfl,zh (fun j hj=>aa),fN _ _⟩
          case round =>
           obtain ⟨q,hq,rfl,HP,hX⟩:=hrel
           have HX:=zh hX
           have hra:=aY HR.out ((HE.out.trans hX).block b HBL.out)
           clear hX
           by_cases hlt:q < n3
           ·have hid := aJc hra (k := q) fk
            have HQ:=zh (fun (hx:nY (lE l q)=true)=>show ∀ j,j < q+1→nY (lE l j)=true from fun j hj=>by
             exact Cx)
            have HN:=zh (fun (hx:nY (lE l q)=false)=>show nU (eP N Z n1 n3 n3 l)=1 by rw [aFK ak hx];rfl)
            have HA:=zh (aFD (lE l q))
            have i0:(0:Int)≤(q:Int):=aa
            have i1:(q:Int) < (n3:Int):=aa
            clear hra
            rcases hx:nY (lE l q) with _ | _
            ·have HXX := zh (HN.out hx)
             rw [hx] at HA
             exact B5
            have HXX:=zh (HQ.out hx)
            rw [hx] at HA
            exact Bu
           obtain rfl:q=n3:=aa
           have HF:=zh (show nU (eP N Z n1 q q l)=0 by rw [aCq HH.out (fun k hk=>HP.out k (by rw [HLEN.out] at hk;exact hk))];rfl)
           exact CL
         have HM:=zh (aAS Z aa)
         have HF:=zh (show nU (eP N Z n1 n3 n3 l)=1 by rw [fH (fun h=>t8 ⟨h.2.2.2.2.2.2.2.2.1,h.2.2.2.2.2.2.2.2.2⟩)];rfl)
         clear HS
         go_enter func60,ntmps60
         go_wp2_with fail
         go_quiet (fail)
         go_wp2_with (go_at_call 121;(with_reducible refine (HM.out _).mono ?_);rintro e wv ⟨rfl,rfl⟩)
         go_ret
         exact ⟨av,HE.out.trans (fN _ _)⟩
        have d7:((n3:Int) != (n2:Int))=true:=gj
        have d8:¬ (n3:Int)=(n2:Int):=aa
        have HF:=zh (show nU (eP N Z n1 n2 n3 l)=1 by rw [fH (fun h=>t7 h.2.2.2.2.2.2.2.1)];rfl)
        exact yq
       have e6:(16:Int) < (n2:Int):=aa
       have HF:=zh (show nU (eP N Z n1 n2 n3 l)=1 by rw [fH (fun h=>t6 (by have:=h.2.2.2.2.2.2.1;omega))];rfl)
       exact yq
      have e5:(n2:Int) < 1:=aa
      have HF:=zh (show nU (eP N Z n1 n2 n3 l)=1 by rw [fH (fun h=>t5 (by have:=h.2.2.2.2.2.1;omega))];rfl)
      exact yq
     have e4:(n1:Int) < N:=aa
     have HF:=zh (show nU (eP N Z n1 n2 n3 l)=1 by rw [fH (fun h=>t4 (by have:=h.2.2.2.2.1;omega))];rfl)
     exact yq
    have e3:(10:Int) < (n1:Int):=aa
    have HF:=zh (show nU (eP N Z n1 n2 n3 l)=1 by rw [fH (fun h=>t3 (by have:=h.2.2.2.1;omega))];rfl)
    exact yq
   have e2:(n1:Int) < 1:=aa
   have HF:=zh (show nU (eP N Z n1 n2 n3 l)=1 by rw [fH (fun h=>t2 (by have:=h.2.2.1;omega))];rfl)
   exact yq
  have e1:7 < N:=aa
  have HF:=zh (show nU (eP N Z n1 n2 n3 l)=1 by rw [fH (fun h=>t1 (by have:=h.2.1;omega))];rfl)
  exact yq
 have e0:N < 1:=aa
 have HF:=zh (show nU (eP N Z n1 n2 n3 l)=1 by rw [fH (fun h=>t0 (by have:=h.1;omega))];rfl)
 exact yq
theorem kE (ac sq:Int) (L:List OpR) (i:Nat):(cP ac sq L i).length≤2:=by
 unfold cP
 split
 ·exact Nat.le_refl _
 split
 ·exact Nat.le_refl _
 split
 ·exact Nat.le_refl _
 split
 ·exact Nat.le_refl _
 exact Nat.zero_le _
theorem aJs (ac sq:Int) (L:List OpR) (k:Nat):(jD ac sq L k).length≤2 * k:=by
 induction k with
 | zero=>exact Nat.le_refl _
 | succ k ih=>rw [eL,List.length_append];have:=kE ac sq L k;omega
theorem aAD {ac sq:Int} {L:List OpR} (hv:vTx ac sq L=true):∀ k,k≤L.length→(0≤vI L k∧vI L k≤10000000000000 * k)∧∀ (h:k < L.length),vI L (k+1)=vI L k+(bR L k).am:=by
 obtain ⟨⟨q1,q2,q3,q4,q5,q6⟩,hop⟩:=dX hv
 have hs:∀ k,k≤L.length→0≤((L.take k).map OpR.am).sum∧((L.take k).map OpR.am).sum≤10000000000000 * k:=by
  intro k
  induction k with
  | zero=>intro _;simp
  | succ k ih =>
   intro hk
   have h1:=ih aa
   obtain ⟨-,-,-,-,-,-,-,ham,-⟩:=jI (hop k aa)
   rw [pC aa,List.map_append,List.sum_append]
   simp only [List.map_cons,List.map_nil,List.sum_cons,List.sum_nil]
   omega
 have he:∀ k,k≤L.length→vI L k=((L.take k).map OpR.am).sum:=fun k hk=>by
  have:=hs k hk
  exact kT ⟨aa,aa⟩
 intro k hk
 refine ⟨by rw [he k hk];exact hs k hk,fun h=>?_⟩
 rw [he k hk,he (k+1) h,pC h,List.map_append,List.sum_append]
 simp
def aJL (w:World) (l:List DeR) (e:Ending) (w':World):Prop:=∃ A n c,e=.returned (.slice A n c)∧w'.ownsRow w.heap.size 92 11 (.slice A n c) n (gcs l)∧(∀ d ∈ l,deW d)∧Ext w w'
theorem aKB {ac sq:Int} {L:List OpR} (hv:vTx ac sq L=true) {i:Nat} (hi:i < L.length):∀ d ∈ cP ac sq L i,deW d:=by
 obtain ⟨⟨q1,q2,q3,q4,q5,q6⟩,hop⟩:=dX hv
 obtain ⟨hkk,hto,ham,hva,-,-,-,-,-⟩:=jI (hop i hi)
 have hac:wfI ac:=wfS ⟨aa,aa⟩
 have h0:wfI 0:=wfS ae
 have h1:wfI 1:=wfS ae
 have h2:wfI 2:=wfS ae
 have h3:wfI 3:=wfS ae
 unfold cP
 split
 ·exact aDp ⟨h1,hac⟩ ⟨h1,hto⟩ ham
 split
 ·exact aDp ⟨h1,hac⟩ ⟨h2,h0⟩ ham
 split
 ·exact aDp ⟨h2,h0⟩ ⟨h1,hto⟩ ham
 split
 ·exact aDp ⟨h1,hac⟩ ⟨h3,hva⟩ ham
 intro d hd;cases hd
theorem aGr {ac sq:Int} {L:List OpR} (hv:vTx ac sq L=true):∀ k,k≤L.length→∀ d ∈ jD ac sq L k,deW d:=by
 intro k
 induction k with
 | zero=>intro _ d hd;cases hd
 | succ k ih =>
  intro hk d hd
  rw [eL] at hd
  rcases List.mem_append.1 hd with hd | hd
  ·exact ih aa d hd
  exact aKB hv aa d hd
theorem sM (ac sq:Int) (A:Option Addr) (n c:Nat) (L:List OpR) (w:World) (hS:SlO w A n c L) :
  Calls prog 23 #[.agg (txA ac sq A n c)] w (aJL w (iO ac sq L)):=by
 obtain ⟨W,hW⟩:=gx (w.alloc (.cells (txA ac sq A n c) 33))
 have HB:=zh (show Blk W w.heap.size 33 (txA ac sq A n c) from cw)
 have HE:=zh (show Ext w W from be)
 have HS:=zh (hS.ext HE.out)
 have HV:=zh (fI ac sq A n c L W HS.out)
 have hle:=hS.le
 have hcap:=hS.cap
 have HLEN:=zh hS.len
 have t0:=HB.out.cell 0
 have t1:=HB.out.cell 1
 have t2:=HB.out.cell 2
 clear hS
 cases hv:vTx ac sq L with
 | false =>
  have HT:=zh (show iO ac sq L=[] from by unfold iO;rw [hv];rfl)
  rw [hv] at HV
  have HV:=zh (show Calls prog 49 #[.agg (txA ac sq A n c)] W (fun e w'=>e=.returned (.int .i64 1)∧Ext W w') from HV.out)
  clear hv
  go_enter func23,ntmps23
  go_wp2_with fail
  refine zcl HV.out fun w1 he1=>?_
  have HX:=zh (HE.out.trans he1)
  clear he1 t0 t1 t2 hW
  go_wp2_with fail
  go_ret
  exact ⟨none,0,0,rfl,qu,by rw [HT.out];exact (fun d hd=>by cases hd),HX.out⟩
 | true =>
  have HT:=zh (show iO ac sq L=jD ac sq L L.length from pm)
  have HVT:=zh hv
  rw [hv] at HV
  have HV:=zh (show Calls prog 49 #[.agg (txA ac sq A n c)] W (fun e w'=>e=.returned (.int .i64 0)∧Ext W w') from HV.out)
  clear hv
  have hn4:n≤4:=jq
  go_enter func23,ntmps23
  go_wp2_with fail
  refine zcl HV.out fun w1 he1=>?_
  have HX1:=zh (HE.out.trans he1)
  have HB1:=zh (HB.out.ext he1)
  have HS1:=zh (HS.out.ext he1)
  clear he1 t0 t1 t2 hW
  have t2:=HB1.out.cell 2
  go_wp2_with fail
  go_loopw [3,11] (fun vl vi wr=>∃ (k:Nat) (A':Option Addr) (m d:Nat),vi=.int .i64 (k:Int)∧k≤n∧vl=.slice A' m d∧Hid (wr.ownsRow w1.heap.size 92 11 (.slice A' m d) m (gcs (jD ac sq L k)))∧Hid (Ext w1 wr)) (fun _ i _=>n - (intOf i).toNat)
  case atStart=>exact ⟨0,none,0,0,rfl,Nat.zero_le _,rfl,zh (World.ownsRow_nil _ _ _ _),zh (Ext.refl w1)⟩
  case round =>
   obtain ⟨k,A',m,d,rfl,hk,rfl,HO,HX⟩:=hrel
   by_cases hlt:k < n
   ·have i0 : (k : Int) < (n : Int) := aa
    have HB2:=zh (HB1.out.ext HX.out)
    have t0:=HB2.out.cell 0
    have t1:=HB2.out.cell 1
    have t2:=HB2.out.cell 2
    have HC:=zh (qS ac sq A n c L k wr (HS1.out.ext HX.out) hlt HVT.out)
    have hm8:m≤8:=by
     have h1:(jD ac sq L k).length=m:=OwnG.len (e:=92) HO.out
     have:=aJs ac sq L k
     omega
    go_wp2_with (first | (go_at_call 29;refine HC.out.mono ?_;rintro e w3 ⟨A9,n9,c9,rfl,hs9,he9⟩;have HS9:=zh hs9;have HE9:=zh he9;have HO9:=zh (bC HO.out he9);have h9:n9≤2:=(by have:=kE ac sq L k;have:=hs9.len;omega);have HL9:=zh (show (gcs (cP ac sq L k)).length=n9 * 11 from by rw [aJ,hs9.len];rfl);clear hs9 he9) | (at_builtin;go_must (refine bK deE rfl (.tmp 14) (.tmp 17) rfl w1.heap.size A' m d _ rfl HO9.out A9 n9 c9 (gcs (cP ac sq L k)) rfl HS9.out.rd HL9.out (bP _) aa aa (Nat.le_trans HX.out.size HE9.out.size) ?_;intro A3 c3 w4 hO4 hg4)))
    have HO5:=zh (show w4.ownsRow w1.heap.size 92 11 (.slice A3 (m+n9) c3) (m+n9) (gcs (jD ac sq L (k+1))) from by rw [eL,bL];exact hO4)
    have HX5:=zh (show Ext w1 w4 from Below.grown (HX.out.trans HE9.out) hg4 (Nat.le_trans HX.out.size HE9.out.size) (fun k hk=>(World.ownsRow.lt HO9.out k hk).1))
    clear hO4 hg4 HS9 HE9 HO9 HL9 HC t0 t1 t2 HB2
    go_roundw
    case rel=>exact ⟨k+1,A3,m+n9,c3,ar,hlt,rfl,HO5,HX5⟩
    case measure=>simp [intOf];omega
   obtain rfl:k=n:=aa
   have i0:¬ (k:Int) < (k:Int):=aa
   have HF:=zh (show iO ac sq L=jD ac sq L k from by rw [HT.out,HLEN.out])
   go_wp2_with fail
   go_ret
   exact ⟨A',m,d,rfl,by rw [HF.out];exact bA HO.out HX1.out.size,by rw [HF.out];exact aGr HVT.out k fe,HX1.out.trans HX.out⟩
theorem pW (ac sq:Int) (A:Option Addr) (n c:Nat) (L:List OpR) (w:World) (hS:SlO w A n c L) :
  Calls prog 22 #[.agg (txA ac sq A n c)] w fun e w'=>e=.returned (.int .i64 (gH ac sq L))∧Ext w w':=by
 obtain ⟨W,hW⟩:=gx (w.alloc (.cells (txA ac sq A n c) 33))
 have HB:=zh (show Blk W w.heap.size 33 (txA ac sq A n c) from cw)
 have HE:=zh (show Ext w W from be)
 have HS:=zh (hS.ext HE.out)
 have HV:=zh (fI ac sq A n c L W HS.out)
 have hle:=hS.le
 have hcap:=hS.cap
 have HLEN:=zh hS.len
 have t0:=HB.out.cell 0
 have t1:=HB.out.cell 1
 have t2:=HB.out.cell 2
 clear hS
 cases hv:vTx ac sq L with
 | false =>
  have HT:=zh (show gH ac sq L=0 from by unfold gH;rw [hv];rfl)
  rw [hv] at HV
  have HV:=zh (show Calls prog 49 #[.agg (txA ac sq A n c)] W (fun e w'=>e=.returned (.int .i64 1)∧Ext W w') from HV.out)
  clear hv
  go_enter func22,ntmps22
  exact xr
 | true =>
  have HT:=zh (show gH ac sq L=vI L L.length from by unfold gH;rw [if_pos hv])
  have HVT:=zh hv
  rw [hv] at HV
  have HV:=zh (show Calls prog 49 #[.agg (txA ac sq A n c)] W (fun e w'=>e=.returned (.int .i64 0)∧Ext W w') from HV.out)
  clear hv
  have hn4:n≤4:=jq
  go_enter func22,ntmps22
  go_wp2_with fail
  refine zcl HV.out fun w1 he1=>?_
  have HX1:=zh (HE.out.trans he1)
  have HB1:=zh (HB.out.ext he1)
  have HS1:=zh (HS.out.ext he1)
  clear he1 t0 t1 t2 hW
  have t2:=HB1.out.cell 2
  go_wp2_with fail
  go_loopw [3,12] (fun vl vi wr=>∃ (k:Nat),vi=.int .i64 (k:Int)∧k≤n∧vl=.int .i64 (vI L k)∧Hid (Ext w1 wr)) (fun _ i _=>n - (intOf i).toNat)
  case atStart=>exact ⟨0,rfl,Nat.zero_le _,rfl,zh (Ext.refl w1)⟩
  case round =>
   obtain ⟨k,rfl,hk,rfl,HX⟩:=hrel
   by_cases hlt:k < n
   ·have i0 : (0 : Int) ≤ (k : Int) := aa
    have i1:(k:Int) < (n:Int):=aa
    obtain ⟨b,o,rfl,hrow,-⟩:=(HS1.out.ext HX.out).g.at aa
    obtain ⟨R,hR⟩:=gx (bR L k)
    have hr:wr.rangeAt b (o+k * 23) (RowT.enc R):=by rw [← hR,mC];exact cN hrow ak
    obtain ⟨⟨n1,n2⟩,n3⟩:=aAD HVT.out k ef
    have n4:=n3 ak
    have ham:=(jI ((dX HVT.out).2 k ak)).2.2.2.2.2.2.2.1
    rw [hR] at n4 ham
    have HN4:=zh n4
    obtain ⟨z,hz⟩:=gx (vI L k)
    rw [hz] at HN4 n1 n2 ⊢
    obtain ⟨v,hv⟩:=gx (Value.agg (opA R))
    have HVV:=zh hv
    have hm1:=ham.1
    have hm2:=ham.2
    have hz2:z≤10000000000000 * 4:=aa
    clear hrow hR hv n3 n4 hz ham n2
    obtain ⟨X,hX⟩:=gx (wr.heap.size)
    have HXS:=zh hX
    clear hX
    go_upto_region 7 with (first | (with_reducible refine aD opP rfl (.tmp 14) rfl b (o+k * 23) rfl R v HVV.out hr ?_) | ((with_reducible refine aU opP rfl (.tmp 5) (.tmp 15) rfl jX rfl R v HVV.out rfl rfl ?_);intro W4 h4))
    have HD:=zh (show Blk W4 X 52 (opA R) from fv)
    have HX4:=zh (show Ext w1 W4 from by rw [← h4.out];exact HX.out.alloc' _)
    have k2:W4.cell? ⟨X,2,none⟩=some (.int .i64 R.am):=HD.out.cell 2
    clear h4 hr
    rw [HXS.out]
    go_wp2_with fail
    go_roundw
    case rel=>exact ⟨k+1,ar,hlt,by rw [HN4.out],HX4⟩
    case measure=>simp [intOf];omega
   obtain rfl:k=n:=aa
   have i0:¬ (k:Int) < (k:Int):=aa
   go_wp2_with fail
   go_ret
   exact ⟨by rw [HT.out,HLEN.out];rfl,HX1.out.trans HX.out⟩
section
variable {o:Oper} {a:Act} {w:World} {K:Act→World→Prop} {Q:Exit→Act→World→Prop}
theorem aAn {ty:TypeId} {i1 i2 i3 i4 i5:Nat} (x1 x2 x3 x4 x5:Operand) (ho:o.op=.build ty #[(i1,x1),(i2,x2),(i3,x3),(i4,x4),(i5,x5)]) {v1 v2 v3 v4 v5 v:Value} (h1:a.eval x1=v1) (h2:a.eval x2=v2) (h3:a.eval x3=v3) (h4:a.eval x4=v4) (h5:a.eval x5=v5)
  (hr:(Instr.build ty #[(i1,v1),(i2,v2),(i3,v3),(i4,v4),(i5,v5)]).run prog w=.ok v w) (h:K (a.put o.dst v) w):o.wp prog a w K Q:=by
 unfold Oper.wp execOp
 simp only [ho,List.map_toArray,List.map_cons,List.map_nil,h1,h2,h3,h4,h5,Sem.run_bind,hr,Result.andThen_ok,Sem.run_pure]
 exact h
end
theorem aAy (d:LkR) (w:World):(Instr.build 81 #[(0,.agg (nmc d.nm)),(1,.agg (nmc d.hs)),(2,.int .i64 d.ow),(3,.int .i64 d.tO),(4,.int .i64 d.ul)]).run prog w=.ok (.agg (lkA d)) w:=by
 rw [← gI d.nm,← gI d.hs];kernel_rfl
def aNY (w:World) (base:Nat) (V:StV) (e:Ending) (w':World):Prop:=∃ s,e=.returned (.agg (ssA s))∧OwnS w' base s∧s.V=V∧Ext w w'
theorem yO (s0:StR) (ac sq:Int) (A:Option Addr) (n c:Nat) (L:List OpR) (i:Nat) (base:Nat) (w:World) (h:OwnS w base s0) (hbs:base≤w.heap.size) (hS:SlO w A n c L) (hi:i < n) (hv:vTx ac sq L=true) (hn:s0.n1≤900000∧s0.n2≤1000000∧s0.n3≤1000000∧s0.n4≤1000000) :
  Calls prog 27 #[.agg (ssA s0),.agg (txA ac sq A n c),.int .i64 (i:Int)] w (aNY w base (gY ac sq L s0.V i)):=by
 have HOW:=zh h
 have HBS:=zh hbs
 have HN9:=zh hn
 have HN:=zh (show s0.n1≤1000000∧s0.n2≤1000000∧s0.n3≤1000000∧s0.n4≤1000000 from ⟨aa,hn.2⟩)
 obtain ⟨⟨q1,q2,q3,q4,q5,q6⟩,hop⟩:=dX hv
 have hLEN:=hS.len
 have hle:=hS.le
 have hcap:=hS.cap
 obtain ⟨hkk,hto,ham,hva,hul,-,hvb,-,-⟩:=jI (hop i aa)
 have hac:wfI ac:=wfS ⟨aa,aa⟩
 have HS:=zh hS
 obtain ⟨W,hW⟩:=gx (((w.alloc (.cells (ssA s0) 30)).alloc (.cells (txA ac sq A n c) 33)).alloc (.cells #[.slice none 0 0,.slice none 0 0,.slice none 0 0,.slice none 0 0,.int .i64 0] 30))
 have HB0:=zh (show Blk W w.heap.size 30 (ssA s0) from cf)
 have HT0:=zh (show Blk W (w.heap.size+1) 33 (txA ac sq A n c) from aw)
 have HR0:=zh (show Blk W (w.heap.size+2) 30 (ssA ss0) from ag)
 have HE:=zh (show Ext w W from bc)
 have HX9:W.heap.size=w.heap.size+3:=kf
 obtain ⟨b,o,hA,hrow,-⟩:=(HS.out.ext HE.out).g.at aa
 subst hA
 have t0:=HT0.out.cell 0
 have t1:=HT0.out.cell 1
 have t2:=HT0.out.cell 2
 obtain ⟨R,hR⟩:=gx (bR L i)
 rw [hR] at hkk hto ham hva hul hvb
 have HK:=zh hR
 have hr:W.rangeAt b (o+i * 23) (RowT.enc R):=mr
 have HLW:=zh (show lkW (⟨bI ac sq L (i:Int),R.hs,ac,R.tO,R.ul⟩:LkR) from ⟨hac,hto,hul⟩)
 obtain ⟨B,hB⟩:∃ B:Int,IntKind.i64.wrap (2 ^ R.va.toNat)=B:=⟨_,rfl⟩
 have HBB:=zh hB
 have HW2:=zh (show B=(2:Int) ^ R.va.toNat from by rw [← hB];exact kT (tG aa))
 have HVW:=zh (show wfI B from by rw [HW2.out];exact fU.2 (tG aa))
 clear hB
 have i0:(0:Int)≤(i:Int):=aa
 have i1:(i:Int) < (n:Int):=aa
 have v0:(0:Int)≤R.va:=hvb.1
 have v1:R.va≤64:=aa
 obtain ⟨v,hv⟩:=gx (Value.agg (opA R))
 have HV:=zh hv
 obtain ⟨X,hX⟩:=gx (W.heap.size)
 have HXS:=zh hX
 have HX0:=zh (show X=w.heap.size+3 from aa)
 clear hrow hR hv hX hop hLEN hS ham hul hva hto hac hvb q1 q2 q3 q4 q5 q6 HX9 h hn hbs
 rcases (by omega:R.k=1 ∨ R.k=2 ∨ R.k=3 ∨ R.k=4 ∨ R.k=5 ∨ R.k=6) with hk | hk | hk | hk | hk | hk
 ·have HSP := zh (show gY ac sq L s0.V i = s0.V from jb)
  obtain ⟨b1,d1,b2,d2,b3,d3,b4,d4,b5,d5,b6,d6⟩:=kd1 hk
  exact Ah
 ·have HSP := zh (show gY ac sq L s0.V i = ⟨s0.C, s0.Q, fL s0.K (⟨(bI ac sq L (i : Int)), R.hs, ac, R.tO, R.ul⟩ : LkR), s0.P, s0.G⟩ from jb)
  obtain ⟨b1,d1,b2,d2,b3,d3,b4,d4,b5,d5,b6,d6⟩:=kd2 hk
  clear hk
  go_enter func27,ntmps27
  go_upto_region 2 with (first | (with_reducible refine aD opP rfl (.tmp 11) rfl b (o+i * 23) rfl R v HV.out hr ?_) | ((with_reducible refine aU opP rfl (.tmp 7) (.tmp 12) rfl jX rfl R v HV.out rfl rfl ?_);intro W4 h4))
  have HX4:=zh (show Ext W W4 from bi)
  have HD:=zh (show Blk W4 X 52 (opA R) from ax)
  have HB:=zh (HB0.out.ext HX4.out)
  have HTX:=zh (HT0.out.ext HX4.out)
  have HR:=zh (HR0.out.ext HX4.out)
  have HEX:=zh (HE.out.trans HX4.out)
  have k0:W4.cell? ⟨X,0,none⟩=some (.int .i64 R.k):=HD.out.cell 0
  clear h4 hr t0 t1 t2 hW
  rw [HXS.out]
  go_upto_region 4 with (fail)
  refine wp_region_held_drew (S:=fun V=>Blk V w.heap.size 30 (ssA s0)∧Blk V (w.heap.size+1) 33 (txA ac sq (some ⟨b,o,none⟩) n c)∧Blk V X 52 (opA R)∧(∃ z,Blk V (w.heap.size+2) 30 (ssA z))∧Ext w V) ab (⟨HB.out.drew,HTX.out.drew,HD.out.drew,⟨_,HR.out.drew⟩,HEX.out.trans ((Ext.refl _).drew')⟩) (fun aA=>?_)
  refine zz0 [0,1,2,4] ?_;repeat first | refine zz1 ?_ (hy:=aj) | refine zz2 ?_ | refine zz9 ?_
  refine zu 5 (v:=.agg (nmc R.hs)) aA ?_ (hy:=by exact aG nmP dp (.tmp 21) rfl X 13 rfl R.hs _ rfl (fun V h=>aIP h.2.2.1))
  refine zz0 [6,7,8,9,10,11] ?_;repeat first | refine zz1 ?_ (hy:=aj) | refine zz2 ?_ | refine zz9 ?_
  refine zzj (VE 3 (.agg (nmc (bI ac sq L (i:Int)))) (VE 12 (.agg (lkA (⟨(bI ac sq L (i:Int)),R.hs,ac,R.tO,R.ul⟩:LkR))) (VV 13 (fun v V=>∃ s2,v=.agg (ssA s2)∧OwnS V w.heap.size s2∧s2.V=⟨s0.C,s0.Q,fL s0.K (⟨(bI ac sq L (i:Int)),R.hs,ac,R.tO,R.ul⟩:LkR),s0.P,s0.G⟩) VN))) [(3,some 20),(12,some 29),(13,some 30)] 1 (fun V V' h e=>⟨h.1.ext e,h.2.1.ext e,h.2.2.1.ext e,cq,h.2.2.2.2.trans e⟩) (ve (ve (VV.ext (fun v w w' ⟨s2,h1,h2,h3⟩ e=>⟨s2,h1,h2.ext e,h3⟩) VN.ext))) (zzc ?_ (zzc ?_ (zzc ?_ zzn))) ?_
  ·refine zzp fun W hE hS K hK => ?_
   go_simp
   go_at_call 72
   refine zcl (sF ac sq (some ⟨b,o,none⟩) n c L (i:Int) _ (HS.out.ext hS.2.2.2.2)) fun w5 he5=>?_
   exact zzK (hK.out (.agg (nmc (bI ac sq L (i:Int)))) _ (he5) (rfl))
  ·refine zm [(3, some 20)] fun env W hE hS hD K hK => ?_
   obtain ⟨h3,-⟩:=zzV hD
   clear hD
   simp only [aR,h3] at hK ⊢
   clear h3
   refine aAn (.tmp 20) (.tmp 22) (.tmp 24) (.tmp 26) (.tmp 28) rfl (v1:=.agg (nmc (bI ac sq L (i:Int)))) (v2:=.agg (nmc R.hs)) (v3:=.int .i64 ac) (v4:=.int .i64 R.tO) (v5:=.int .i64 R.ul) rfl rfl rfl rfl rfl (aAy (⟨(bI ac sq L (i:Int)),R.hs,ac,R.tO,R.ul⟩:LkR) _) ?_
   exact zzF hK (.agg (lkA (⟨(bI ac sq L (i:Int)),R.hs,ac,R.tO,R.ul⟩:LkR)))
  ·refine zm [(12, some 29)] fun env W hE hS hD K hK => ?_
   obtain ⟨h12,-⟩:=zzV hD
   clear hD
   simp only [aR,h12] at hK ⊢
   clear h12
   go_simp
   go_at_call 71
   refine (aEy s0 (⟨(bI ac sq L (i:Int)),R.hs,ac,R.tO,R.ul⟩:LkR) _ (HOW.out.ok.ext hS.2.2.2.2) HLW.out HN.out).mono ?_
   exact Ce
  intro env W hE hS hV
  obtain ⟨h3,h12,h13,-⟩:=zzV hV
  clear hV
  simp only [aR,h3,h12]
  clear h3 h12
  generalize env 13=x13 at h13 ⊢
  obtain ⟨s2,rfl,ho2,hv2⟩:=h13
  have aA:=hS
  refine za 14 (fun K hK=>?_)
  (obtain ⟨z6,hz6⟩:=aA.2.2.2.1;refine bQ rfl (.tmp 6) (.tmp 30) dp (w.heap.size+2) (.agg (ssA s2)) s2 rfl dp dp hz6 ?_;intro W6 h6)
  refine hK.out _ _ (⟨aA.1.grown al (fun e=>dq),aA.2.1.grown al (fun e=>dq),aA.2.2.1.grown al (fun e=>fi),⟨_,h6.out.2⟩,ej⟩) (fun aA=>?_)
  clear hK K
  try simp only [bB]
  refine wpd ?_
  have HOW2:=zh (show OwnS W6 base s2 from by
   rw [← h6.out.1]
   exact (ho2.kept (aB _ _ _ _) hz6 ae ae ae ae).mono HBS.out)
  have HV2:=zh hv2
  have HXE:=zh aA.2.2.2.2
  have hst:=h6.out.2
  clear h6 ho2 hv2 hE hS aA hz6
  go_wp2_with fail
  exact Bx
 ·have HSP := zh (show gY ac sq L s0.V i = ⟨s0.C, s0.Q, fC R.lk s0.K, s0.P, s0.G⟩ from jb)
  obtain ⟨b1,d1,b2,d2,b3,d3,b4,d4,b5,d5,b6,d6⟩:=kd3 hk
  exact ts
 ·have HSP := zh (show gY ac sq L s0.V i = ⟨s0.C, s0.Q, fC R.lk s0.K, s0.P, s0.G⟩ from jb)
  obtain ⟨b1,d1,b2,d2,b3,d3,b4,d4,b5,d5,b6,d6⟩:=kd4 hk
  exact ts
 ·have HSP := zh (show gY ac sq L s0.V i = s0.V from jb)
  obtain ⟨b1,d1,b2,d2,b3,d3,b4,d4,b5,d5,b6,d6⟩:=kd5 hk
  exact Ah
 have HSP:=zh (show gY ac sq L s0.V i=yE (2 ^ R.va.toNat) s0.V from by unfold gY;rw [HK.out,hk];rfl)
 obtain ⟨b1,d1,b2,d2,b3,d3,b4,d4,b5,d5,b6,d6⟩:=kd6 hk
 clear hk
 go_enter func27,ntmps27
 go_upto_region 2 with (first | (with_reducible refine aD opP rfl (.tmp 11) rfl b (o+i * 23) rfl R v HV.out hr ?_) | ((with_reducible refine aU opP rfl (.tmp 7) (.tmp 12) rfl jX rfl R v HV.out rfl rfl ?_);intro W4 h4))
 have HX4:=zh (show Ext W W4 from bi)
 have HD:=zh (show Blk W4 X 52 (opA R) from ax)
 have HB:=zh (HB0.out.ext HX4.out)
 have HTX:=zh (HT0.out.ext HX4.out)
 have HR:=zh (HR0.out.ext HX4.out)
 have HEX:=zh (HE.out.trans HX4.out)
 have k0:W4.cell? ⟨X,0,none⟩=some (.int .i64 R.k):=HD.out.cell 0
 clear h4 hr t0 t1 t2 hW
 rw [HXS.out]
 go_upto_region 9 with (fail)
 refine wp_region_held_drew (S:=fun V=>Blk V w.heap.size 30 (ssA s0)∧Blk V (w.heap.size+1) 33 (txA ac sq (some ⟨b,o,none⟩) n c)∧Blk V X 52 (opA R)∧(∃ z,Blk V (w.heap.size+2) 30 (ssA z))∧Ext w V) ab (⟨HB.out.drew,HTX.out.drew,HD.out.drew,⟨_,HR.out.drew⟩,HEX.out.trans ((Ext.refl _).drew')⟩) (fun aA=>?_)
 refine zz0 [0,1,2] ?_;repeat first | refine zz1 ?_ (hy:=aj) | refine zz2 ?_ | refine zz9 ?_
 refine zu 3 (v:=.int .i64 B) aA ?_ (hy:=mm)
 refine zzj (VV 4 (fun v V=>∃ s2,v=.agg (ssA s2)∧OwnS V w.heap.size s2∧s2.V=yE B s0.V) VN) [(4,some 44)] 1 (fun V V' h e=>⟨h.1.ext e,h.2.1.ext e,h.2.2.1.ext e,cq,h.2.2.2.2.trans e⟩) (VV.ext (fun v w w' ⟨s2,h1,h2,h3⟩ e=>⟨s2,h1,h2.ext e,h3⟩) VN.ext) (zzc ?_ zzn) ?_
 ·refine zzp fun W hE hS K hK => ?_
  go_simp
  go_at_call 19
  refine (aAN s0 B _ (HOW.out.ok.ext hS.2.2.2.2) HVW.out HN9.out).mono ?_
  exact Ce
 intro env W hE hS hV
 obtain ⟨h4,-⟩:=zzV hV
 clear hV
 simp only [aR]
 generalize env 4=x4 at h4 ⊢
 obtain ⟨s2,rfl,ho2,hv2⟩:=h4
 have aA:=hS
 refine za 5 (fun K hK=>?_)
 (obtain ⟨z6,hz6⟩:=aA.2.2.2.1;refine bQ rfl (.tmp 6) (.tmp 44) dp (w.heap.size+2) (.agg (ssA s2)) s2 rfl dp dp hz6 ?_;intro W6 h6)
 refine hK.out _ _ (⟨aA.1.grown al (fun e=>dq),aA.2.1.grown al (fun e=>dq),aA.2.2.1.grown al (fun e=>fi),⟨_,h6.out.2⟩,ej⟩) (fun aA=>?_)
 clear hK K
 try simp only [bB]
 refine wpd ?_
 have HOW2:=zh (show OwnS W6 base s2 from by
  rw [← h6.out.1]
  exact (ho2.kept (aB _ _ _ _) hz6 ae ae ae ae).mono HBS.out)
 have HV2:=zh hv2
 have HXE:=zh aA.2.2.2.2
 have hst:=h6.out.2
 clear h6 ho2 hv2 hE hS aA hz6
 go_wp2_with fail
 exact bodyPost_ret (v:=.agg (ssA s2)) (fP rfl _ _ (w.heap.size+2) _ rfl (run_loadVar_row _ _ _ _ _ (0,0) _ hst underlying30 rfl ab)) rfl ⟨s2,rfl,HOW2.out,by rw [HSP.out,HV2.out,HW2.out],HXE.out⟩
end
end Go.Proofs.YtgmnmjeccfnmbaaGreat
