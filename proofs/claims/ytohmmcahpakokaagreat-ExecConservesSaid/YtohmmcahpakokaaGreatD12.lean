/- A genesis as a value; amount, ValidateGenesis and the reference's ValidGenesis. -/
import Derived.Test.YtohmmcahpakokaaGreatD11
set_option maxRecDepth 100000
set_option maxHeartbeats 8000000
set_option linter.unusedVariables false
set_option linter.unusedSimpArgs false
namespace Go.Proofs.YtohmmcahpakokaaGreat
section
open Go.RowKit
attribute [local go_sem ↓] Go.wp_at_zero Go.wp_at_succ
structure SlZ (w:World) (A:Option Addr) (n c:Nat) (l:List Int):Prop where
 len:l.length=n
 le:n≤c
 cap:c≤9223372036854775807
 rd:Rd w A (ics l)
def nthZ (l:List Int) (k:Nat):Int:=l.getD k 0
section
variable {w w':World} {A:Option Addr} {n c:Nat} {l:List Int}
theorem SlZ.ext (h:SlZ w A n c l) (e:Ext w w'):SlZ w' A n c l:=⟨h.len,h.le,h.cap,h.rd.ext e⟩
theorem SlZ.nil (w:World):SlZ w none 0 0 []:=⟨rfl,Nat.le_refl _,Nat.zero_le _,.nil⟩
theorem SlZ.at (h:SlZ w A n c l) (hn:0 < n):∃ b o,A=some ⟨b,o,none⟩∧w.rangeAt b o (ics l)∧b < w.heap.size :=
 h.rd.at (by intro e;have:=congrArg List.length e;rw [ics_length,h.len] at this;simp at this;omega)
theorem int_at {b o k:Nat} (h:w.rangeAt b o (ics l)) (hk:k < l.length):w.cell? ⟨b,o+k,none⟩=some (.int .i64 (nthZ l k)):=by
 refine h k _ ?_
 simp [ics,iv,nthZ,List.getD,hk]
end
abbrev genC (N Z:Int) (A1:Option Addr) (n1 c1:Nat) (A2:Option Addr) (n2 c2:Nat) (A3:Option Addr) (n3 c3:Nat):Array Value:=#[.int .i64 N,.int .i64 Z,.slice A1 n1 c1,.slice A2 n2 c2,.slice A3 n3 c3]
def amtB (z:Int):Bool:=decide (0≤z∧z≤1099511627776)
def headG (N Z:Int) (n1 n2 n3:Nat):Prop:=1≤N∧N≤7∧1≤n1∧n1≤10∧N≤(n1:Int)∧1≤n2∧n2≤16∧n3=n2∧0≤Z∧Z≤1099511627776
instance (N Z:Int) (n1 n2 n3:Nat):Decidable (headG N Z n1 n2 n3):=by unfold headG;infer_instance
def vldG (N Z:Int) (n1 n2 n3:Nat) (l:List Int):Bool:=decide (headG N Z n1 n2 n3) && decide (∀ k,k < l.length→amtB (nthZ l k)=true)
theorem vldG_no {N Z:Int} {n1 n2 n3:Nat} {l:List Int} (h:¬ headG N Z n1 n2 n3):vldG N Z n1 n2 n3 l=false:=by
 unfold vldG;rw [decide_eq_false h,Bool.false_and]
theorem vldG_at {N Z:Int} {n1 n2 n3:Nat} {l:List Int} {k:Nat} (hk:k < l.length) (h:amtB (nthZ l k)=false):vldG N Z n1 n2 n3 l=false:=by
 unfold vldG;rw [decide_eq_false (p:=∀ k,k < l.length→amtB (nthZ l k)=true) (fun hh=>by rw [hh k hk] at h;cases h),Bool.and_false]
theorem vldG_yes {N Z:Int} {n1 n2 n3:Nat} {l:List Int} (h:headG N Z n1 n2 n3) (h2:∀ k,k < l.length→amtB (nthZ l k)=true):vldG N Z n1 n2 n3 l=true:=by
 unfold vldG;rw [decide_eq_true h,decide_eq_true h2];rfl
def codeG (b:Bool):Int:=if b then 0 else 1
theorem amount_yes (z:Int) (h:0≤z∧z≤1099511627776) (w:World):Calls Tryz.prog 144 #[.int .i64 z] w fun e w'=>e=.returned (.bool true)∧w=w':=by
 obtain ⟨h1,h2⟩:=h
 go_enter Tryz.func144,Tryz.ntmps144
 go_wp2_with fail
 go_ret
 exact ⟨rfl,rfl⟩
theorem amount_no (z:Int) (h:z < 0 ∨ 1099511627776 < z) (w:World):Calls Tryz.prog 144 #[.int .i64 z] w fun e w'=>e=.returned (.bool false)∧w=w':=by
 by_cases h1:0≤z
 ·have h2 : decide (z ≤ 1099511627776) = false := decide_eq_false (by omega)
  go_enter Tryz.func144,Tryz.ntmps144
  go_wp2_with fail
  go_ret
  exact ⟨rfl,rfl⟩
 have h2:decide (0≤z)=false:=decide_eq_false h1
 go_enter Tryz.func144,Tryz.ntmps144
 go_wp2_with fail
 go_ret
 exact ⟨rfl,rfl⟩
theorem amount_any (z:Int) (w:World):Calls Tryz.prog 144 #[.int .i64 z] w fun e w'=>e=.returned (.bool (amtB z))∧w=w':=by
 by_cases h:0≤z∧z≤1099511627776
 ·rw [show amtB z=true from decide_eq_true h];exact amount_yes z h w
 rw [show amtB z=false from decide_eq_false h];exact amount_no z (by omega) w
theorem valGenesis_any (N Z:Int) (A1:Option Addr) (n1 c1:Nat) (A2:Option Addr) (n2 c2:Nat) (A3:Option Addr) (n3 c3:Nat) (l:List Int) (w:World) (hS:SlZ w A3 n3 c3 l) (hm1:n1≤9223372036854775807) (hm2:n2≤9223372036854775807) :
  Calls Tryz.prog 88 #[.agg (genC N Z A1 n1 c1 A2 n2 c2 A3 n3 c3)] w fun e w'=>e=.returned (.int .i64 (codeG (vldG N Z n1 n2 n3 l)))∧Ext w w':=by
 have hlen:=hS.len
 have hle:=hS.le
 have hcap:=hS.cap
 have HE:=zh ((Ext.refl w).alloc' (.cells (genC N Z A1 n1 c1 A2 n2 c2 A3 n3 c3) 40))
 have HB:=zh (Blk.new w 40 (genC N Z A1 n1 c1 A2 n2 c2 A3 n3 c3))
 have HS:=zh hS
 have HLEN:=zh hlen
 clear hS hlen
 by_cases t0:1≤N
 ·have d0 : decide (N < 1) = false := decide_eq_false (by omega)
  by_cases t1:N≤7
  ·have d1 : decide (7 < N) = false := decide_eq_false (by omega)
   by_cases t2:(1:Int)≤(n1:Int)
   ·have d2 : decide ((n1 : Int) < 1) = false := decide_eq_false (by omega)
    by_cases t3:(n1:Int)≤10
    ·have d3 : decide ((10 : Int) < (n1 : Int)) = false := decide_eq_false (by omega)
     by_cases t4:N≤(n1:Int)
     ·have d4 : decide ((n1 : Int) < N) = false := decide_eq_false (by omega)
      by_cases t5:(1:Int)≤(n2:Int)
      ·have d5 : decide ((n2 : Int) < 1) = false := decide_eq_false (by omega)
       by_cases t6:(n2:Int)≤16
       ·have d6 : decide ((16 : Int) < (n2 : Int)) = false := decide_eq_false (by omega)
        by_cases t7:n3=n2
        ·subst t7
         by_cases t8:0≤Z∧Z≤1099511627776
         ·have HH := zh (show headG N Z n1 n3 n3 from ⟨t0, t1, by omega, by omega, t4, by omega, by omega, rfl, t8.1, t8.2⟩)
          have HM:=zh (amount_yes Z t8)
          obtain ⟨b,o,rfl,hr,hb⟩:=HS.out.at (by omega)
          have HR:=zh hr
          have HBL:=zh hb
          clear hr hb t8
          go_enter Tryz.func88,Tryz.ntmps88
          go_wp2_with fail
          go_quiet (fail)
          go_wp2_with (go_at_call 144;(with_reducible refine (HM.out _).mono ?_);rintro e wv ⟨rfl,rfl⟩)
          go_loopw [59] (fun i wr=>∃ q:Nat,q≤n3∧i=.int .i64 (q:Int)∧Hid (∀ j,j < q→amtB (nthZ l j)=true)∧Ext (w.alloc (.cells (genC N Z A1 n1 c1 A2 n3 c2 (some ⟨b,o,none⟩) n3 c3) 40)) wr) (fun i _=>n3 - (intOf i).toNat)
          case atStart=>exact ⟨0,Nat.zero_le _,rfl,zh (fun j hj=>by omega),drewN_ext _ _⟩
          case round =>
           obtain ⟨q,hq,rfl,HP,hX⟩:=hrel
           have HX:=zh hX
           have hra:=rangeAt_keep HR.out ((HE.out.trans hX).block b HBL.out)
           clear hX
           by_cases hlt:q < n3
           ·have hid := int_at hra (k := q) (by rw [HLEN.out]; exact hlt)
            have HQ:=zh (fun (hx:amtB (nthZ l q)=true)=>show ∀ j,j < q+1→amtB (nthZ l j)=true from fun j hj=>by
             rcases Nat.lt_or_ge j q with h | h
             ·exact HP.out j h
             obtain rfl:j=q:=by omega
             exact hx)
            have HN:=zh (fun (hx:amtB (nthZ l q)=false)=>show codeG (vldG N Z n1 n3 n3 l)=1 by rw [vldG_at (by rw [HLEN.out];exact hlt) hx];rfl)
            have HA:=zh (amount_any (nthZ l q))
            have i0:(0:Int)≤(q:Int):=by omega
            have i1:(q:Int) < (n3:Int):=by omega
            clear hra
            rcases hx:amtB (nthZ l q) with _ | _
            ·have HXX := zh (HN.out hx)
             rw [hx] at HA
             generalize nthZ l q=z at *
             clear hx HN HQ
             go_wp2_with fail
             refine (HA.out _).mono ?_
             rintro e wv ⟨rfl,rfl⟩
             go_wp2_with fail
             go_ret
             exact ⟨by rw [HXX.out];rfl,HE.out.trans HX.out⟩
            have HXX:=zh (HQ.out hx)
            rw [hx] at HA
            generalize nthZ l q=z at hid HA
            clear hx HN HQ
            go_wp2_with fail
            refine (HA.out _).mono ?_
            rintro e wv ⟨rfl,rfl⟩
            go_wp2_with fail
            go_roundw
            case rel=>exact ⟨q+1,by omega,by go_num,HXX,HX.out⟩
            case measure=>simp [intOf];omega
           obtain rfl:q=n3:=by omega
           have HF:=zh (show codeG (vldG N Z n1 q q l)=0 by rw [vldG_yes HH.out (fun k hk=>HP.out k (by rw [HLEN.out] at hk;exact hk))];rfl)
           go_wp2_with fail
           go_ret
           exact ⟨by rw [HF.out];rfl,HE.out.trans HX.out⟩
         have HM:=zh (amount_no Z (by omega))
         have HF:=zh (show codeG (vldG N Z n1 n3 n3 l)=1 by rw [vldG_no (fun h=>t8 ⟨h.2.2.2.2.2.2.2.2.1,h.2.2.2.2.2.2.2.2.2⟩)];rfl)
         clear HS
         go_enter Tryz.func88,Tryz.ntmps88
         go_wp2_with fail
         go_quiet (fail)
         go_wp2_with (go_at_call 144;(with_reducible refine (HM.out _).mono ?_);rintro e wv ⟨rfl,rfl⟩)
         go_ret
         exact ⟨by rw [HF.out];rfl,HE.out.trans (drewN_ext _ _)⟩
        have d7:((n3:Int) != (n2:Int))=true:=by simp;omega
        have d8:¬ (n3:Int)=(n2:Int):=by omega
        have HF:=zh (show codeG (vldG N Z n1 n2 n3 l)=1 by rw [vldG_no (fun h=>t7 h.2.2.2.2.2.2.2.1)];rfl)
        clear HS
        go_enter Tryz.func88,Tryz.ntmps88
        go_wp2_with fail
        go_quiet (fail)
        go_wp2_with fail
        go_ret
        exact ⟨by rw [HF.out];rfl,HE.out.trans (drewN_ext _ _)⟩
       have e6:(16:Int) < (n2:Int):=by omega
       have HF:=zh (show codeG (vldG N Z n1 n2 n3 l)=1 by rw [vldG_no (fun h=>t6 (by have:=h.2.2.2.2.2.2.1;omega))];rfl)
       clear HS
       go_enter Tryz.func88,Tryz.ntmps88
       go_wp2_with fail
       go_quiet (fail)
       go_wp2_with fail
       go_ret
       exact ⟨by rw [HF.out];rfl,HE.out.trans (drewN_ext _ _)⟩
      have e5:(n2:Int) < 1:=by omega
      have HF:=zh (show codeG (vldG N Z n1 n2 n3 l)=1 by rw [vldG_no (fun h=>t5 (by have:=h.2.2.2.2.2.1;omega))];rfl)
      clear HS
      go_enter Tryz.func88,Tryz.ntmps88
      go_wp2_with fail
      go_quiet (fail)
      go_wp2_with fail
      go_ret
      exact ⟨by rw [HF.out];rfl,HE.out.trans (drewN_ext _ _)⟩
     have e4:(n1:Int) < N:=by omega
     have HF:=zh (show codeG (vldG N Z n1 n2 n3 l)=1 by rw [vldG_no (fun h=>t4 (by have:=h.2.2.2.2.1;omega))];rfl)
     clear HS
     go_enter Tryz.func88,Tryz.ntmps88
     go_wp2_with fail
     go_quiet (fail)
     go_wp2_with fail
     go_ret
     exact ⟨by rw [HF.out];rfl,HE.out.trans (drewN_ext _ _)⟩
    have e3:(10:Int) < (n1:Int):=by omega
    have HF:=zh (show codeG (vldG N Z n1 n2 n3 l)=1 by rw [vldG_no (fun h=>t3 (by have:=h.2.2.2.1;omega))];rfl)
    clear HS
    go_enter Tryz.func88,Tryz.ntmps88
    go_wp2_with fail
    go_quiet (fail)
    go_wp2_with fail
    go_ret
    exact ⟨by rw [HF.out];rfl,HE.out.trans (drewN_ext _ _)⟩
   have e2:(n1:Int) < 1:=by omega
   have HF:=zh (show codeG (vldG N Z n1 n2 n3 l)=1 by rw [vldG_no (fun h=>t2 (by have:=h.2.2.1;omega))];rfl)
   clear HS
   go_enter Tryz.func88,Tryz.ntmps88
   go_wp2_with fail
   go_quiet (fail)
   go_wp2_with fail
   go_ret
   exact ⟨by rw [HF.out];rfl,HE.out.trans (drewN_ext _ _)⟩
  have e1:7 < N:=by omega
  have HF:=zh (show codeG (vldG N Z n1 n2 n3 l)=1 by rw [vldG_no (fun h=>t1 (by have:=h.2.1;omega))];rfl)
  clear HS
  go_enter Tryz.func88,Tryz.ntmps88
  go_wp2_with fail
  go_quiet (fail)
  go_wp2_with fail
  go_ret
  exact ⟨by rw [HF.out];rfl,HE.out.trans (drewN_ext _ _)⟩
 have e0:N < 1:=by omega
 have HF:=zh (show codeG (vldG N Z n1 n2 n3 l)=1 by rw [vldG_no (fun h=>t0 (by have:=h.1;omega))];rfl)
 clear HS
 go_enter Tryz.func88,Tryz.ntmps88
 go_wp2_with fail
 go_quiet (fail)
 go_wp2_with fail
 go_ret
 exact ⟨by rw [HF.out];rfl,HE.out.trans (drewN_ext _ _)⟩
end
section
open Go.RowKit
def verU (pub:UInt64) (levels:Int) (m:UInt64) (l:List UInt8):Bool :=
 if levels=1 then decide (l.length=186) && (decide (numAt l 0 2 < 32) && decide (climbU l 2 (numAt l 0 2 % 32) m=pub))
 else if levels=2 then decide (l.length=370) && (decide (numAt l 0 2 < 1024) && decide (climbU l 186 (numAt l 0 2 / 32) (climbU l 2 (numAt l 0 2 % 32) m)=pub))
 else false
theorem climbed_at (A:Option Addr) (len c:Nat) (l:List UInt8) (at_ j:Nat) (z q:Int) (hz:z=(at_:Int)) (hq:q=(j:Int)) (m:UInt64) (w:World) (h:SlB w A len c l) (hf:at_+184≤len) (hat:at_≤500) (hj:j < 32) :
  Calls Tryz.prog 202 #[.slice A len c,.int .i64 z,.int .i64 q,.agg (nmc m)] w fun e w'=>e=.returned (.agg (nmc (climbU l at_ j m)))∧Ext w w':=by
 subst hz;subst hq;exact climbed_any A len c l at_ j m w h hf hat hj
theorem verU_short (pub:UInt64) (lv:Int) (m:UInt64) (l:List UInt8) (h:sizeZ lv ≠ (l.length:Int)):verU pub lv m l=false:=by
 unfold verU
 by_cases h1:lv=1
 ·subst h1;rw [if_pos rfl,decide_eq_false (show ¬ l.length=186 from fun e=>h (by rw [e];rfl))];rfl
 rw [if_neg h1]
 by_cases h2:lv=2
 ·subst h2;rw [if_pos rfl,decide_eq_false (show ¬ l.length=370 from fun e=>h (by rw [e];rfl))];rfl
 rw [if_neg h2]
theorem verU_far (pub:UInt64) (lv:Int) (m:UInt64) (l:List UInt8) (h:capZ lv≤(numAt l 0 2:Int)):verU pub lv m l=false:=by
 unfold verU
 by_cases h1:lv=1
 ·subst h1;rw [if_pos rfl,decide_eq_false (show ¬ numAt l 0 2 < 32 from by have:(32:Int)≤(numAt l 0 2:Int):=h;omega)];simp
 rw [if_neg h1]
 by_cases h2:lv=2
 ·subst h2;rw [if_pos rfl,decide_eq_false (show ¬ numAt l 0 2 < 1024 from by have:(1024:Int)≤(numAt l 0 2:Int):=h;omega)];simp
 rw [if_neg h2]
theorem verify_no (pub m:UInt64) (lv:Int) (A:Option Addr) (n c:Nat) (l:List UInt8) (w:World) (h:SlB w A n c l) (hno:n < 2 ∨ sizeZ lv ≠ (n:Int) ∨ capZ lv≤(numAt l 0 2:Int)) :
  Calls Tryz.prog 145 #[.agg (nmc pub),.int .i64 lv,.agg (nmc m),.slice A n c] w fun e w'=>e=.returned (.bool false)∧Ext w w':=by
 have hE:=((Ext.refl w).alloc' (.cells (nmc pub) 30)).alloc' (.cells (nmc m) 30)
 have HE:=zh hE
 have hcap:=h.cap
 have hle:=h.le
 by_cases h2:n < 2
 ·clear hno
  go_enter Tryz.func145,Tryz.ntmps145
  go_wp2_with (go_at_call 146;refine (leaf_no A n c _ h2).mono ?_;rintro e w1 ⟨rfl,rfl⟩)
  go_ret
  exact ⟨rfl,HE.out⟩
 have HL:=zh (leaf_yes A n c l _ (h.ext HE.out) (by omega))
 have HH:=zh h
 clear h hE
 by_cases hs:sizeZ lv=(n:Int)
 ·have hc:capZ lv≤(numAt l 0 2:Int):=by
   rcases hno with h | h | h
   ·omega
   ·exact absurd hs h
   exact h
  have b1:((n:Int) != sizeZ lv)=false:=by rw [hs];simp
  clear hno hs
  generalize hx:numAt l 0 2=x at *
  generalize hcz:capZ lv=cz at *
  generalize hsz:sizeZ lv=sz at *
  have HC:=zh hcz
  have HS:=zh hsz
  clear hx hcz hsz
  go_enter Tryz.func145,Tryz.ntmps145
  go_wp2_with fail
  refine HL.out.mono ?_
  rintro e w1 ⟨rfl,rfl⟩
  go_wp2_with (first | (go_at_call 200;refine (size_any lv _).mono ?_;rintro e w1 ⟨rfl,rfl⟩;rw [HS.out]) | (go_at_call 201;refine (capacity_any lv _).mono ?_;rintro e w1 ⟨rfl,rfl⟩;rw [HC.out]))
  go_ret
  exact ⟨rfl,HE.out⟩
 have b1:((n:Int) != sizeZ lv)=true:=by rw [bne_iff_ne];exact fun e=>hs e.symm
 clear hno hs
 generalize hx:numAt l 0 2=x at *
 generalize hsz:sizeZ lv=sz at *
 have HS:=zh hsz
 clear hx hsz
 go_enter Tryz.func145,Tryz.ntmps145
 go_wp2_with fail
 refine HL.out.mono ?_
 rintro e w1 ⟨rfl,rfl⟩
 go_wp2_with (first | (go_at_call 200;refine (size_any lv _).mono ?_;rintro e w1 ⟨rfl,rfl⟩;rw [HS.out]) | (go_at_call 201;refine (capacity_any lv _).mono ?_;rintro e w1 ⟨rfl,rfl⟩))
 go_ret
 exact ⟨rfl,HE.out⟩
end
section
open Go.RowKit
attribute [local go_sem ↓] Go.wp_at_zero Go.wp_at_succ
def vOpV (v:OpV):Bool :=
 decide (1≤v.k∧v.k≤6) && (numU (fTo v.k) v.tO 0 15 && (numU (fAm v.k) v.am 1 1099511627776 && (numU (fUl v.k) v.ul 1 1000 && (numU (fVa v.k) v.va 0 9 && (numU (fPre v.k) (v.pre.length:Int) 0 32 && (numU (fPrf v.k) (v.prf.length:Int) 1 2000 && ((fUl v.k || decide (v.hs=0)) && (fLk v.k || decide (v.lk=0)))))))))
theorem vOp_v {R:OpR} (h1:R.pre.length=R.n1) (h2:R.prf.length=R.n2):vOp R=vOpV R.v:=by
 unfold vOp vOpV OpR.v;simp only [h1,h2]
def vTxV (ac sq:Int) (V:List OpV):Bool:=vHead ac sq V.length && V.all vOpV
theorem vTx_v {ac sq:Int} {L:List OpR} (h:∀ R,R ∈ L→vOp R=vOpV R.v):vTx ac sq L=vTxV ac sq (L.map OpR.v):=by
 unfold vTx vTxV
 rw [List.length_map]
 congr 1
 rw [Bool.eq_iff_iff]
 simp only [decide_eq_true_eq,List.all_eq_true,List.mem_map]
 constructor
 ·rintro hh _ ⟨R, hR, rfl⟩
  obtain ⟨k,hk,rfl⟩:=List.getElem_of_mem hR
  have:=hh k hk
  have e:L[k]=nthO L k:=by simp [nthO,hk]
  rw [← h _ hR,e];exact this
 intro hh k hk
 rw [h _ (nthO_mem hk)]
 exact hh _ ⟨_,nthO_mem hk,rfl⟩
theorem own_ne {w:World} {base base':Nat} {e e':TypeId} {size size':Nat} {A A':Option Addr} {n n' c c':Nat} {xs xs':List Value} (h:w.ownsRow base e size (.slice A n c) n xs) (h':w.ownsRow base' e' size' (.slice A' n' c') n' xs') (hne:e ≠ e'):(Value.slice A n c).ownBlock=none ∨ (Value.slice A n c).ownBlock ≠ (Value.slice A' n' c').ownBlock:=by
 rcases h.2 with ⟨hv,_⟩ | ⟨g,cap,cur,hv,_,hh,_⟩
 ·exact .inl (by rw [hv];simp [Value.ownBlock])
 refine .inr ?_
 have:=oO (t:=e) (cs:=cur) h' hh hne
 rw [hv];exact this
section
variable {P:Program} {t e:TypeId} {z:Value} {size bytes:Nat}
theorem wpList_appGG {ops:Array Oper} {rest:List Oper} {o:Oper} {a:Act} {w:World} {Q:Exit→Act→World→Prop} (E:Elem P t e z size bytes) (hgd:o.guard=none) (s x:Operand)
  (ho:o.op=.call { callee:=.builtin .append,args:=#[s,x],argTypes:=#[t,t] })
  (base:Nat) (A:Option Addr) (n c:Nat) (xs:List Value) (hs:a.eval s=.slice A n c) (hown:w.ownsRow base e size (.slice A n c) n xs)
  (A2:Option Addr) (m c2:Nat) (ys:List Value) (hx:a.eval x=.slice A2 m c2) (hr:Rd w A2 ys) (hl:ys.length=m * size) (h1:∀ u ∈ ys,u.oneCell'=true)
  (hb:(n+m) * bytes≤140737488355328) (h63:n+m≤4611686018427387904) (hbase:base≤w.heap.size)
  (h:∀ A' c' w',w'.ownsRow base e size (.slice A' (n+m) c') (n+m) (xs ++ ys)→w.grownBy w' (Value.ownBlock (.slice A n c))→wpList P ops Q rest (a.put o.dst (.slice A' (n+m) c')) w'):wpList P ops Q (o :: rest) a w :=
 wpList_plain hgd fun K hK=>wp_app E s x ho base A n c xs hs hown A2 m c2 ys hx hr hl h1 hb h63 hbase fun A' c' w' h2 h3=>hK _ _ (h A' c' w' h2 h3)
end
abbrev zero4:Array Value:=#[.int .i64 0,.int .i64 0,.slice none 0 0,.slice none 0 0]
structure TxR where
 ac:Int
 sq:Int
 A:Option Addr
 n:Nat
 c:Nat
 S:Option Addr
 m:Nat
 d:Nat
 L:List OpR
 sig:List UInt8
abbrev tA (T:TxR):Array Value:=stA T.ac T.sq T.A T.n T.c T.S T.m T.d
def TxR.v (T:TxR):Int × Int × List OpV × List UInt8:=(T.ac,T.sq,T.L.map OpR.v,T.sig)
structure TxR.ok (T:TxR) (w:World):Prop where
 ops:SlO w T.A T.n T.c T.L
 sig:SlB w T.S T.m T.d T.sig
theorem TxR.ok.ext {T:TxR} {w w':World} (h:T.ok w) (e:Ext w w'):T.ok w':=⟨h.ops.ext e,h.sig.ext e⟩
section
variable {o:Oper} {a:Act} {w:World} {ops:Array Oper} {rest:List Oper} {Q:Exit→Act→World→Prop}
theorem wpList_storeSt (hgd:o.guard=none) (x y:Operand) (ho:o.op=.store 47 x y) (g:Nat) (cs:Array Value) (hx:a.eval x=.pointer (some ⟨g,0,none⟩)) (hy:a.eval y=.agg cs) (ht:w.there g 0 4) (hs:cs.size=4) (h1:cs.all (·.oneCell')=true)
  (h:wpList Tryz.prog ops Q rest (a.put o.dst undef) (w.setCells g 0 cs.toList)):wpList Tryz.prog ops Q (o :: rest) a w :=
 wpList_store_mid hgd 47 x y ho g 0 cs hx hy (by rw [hs];exact ht) (by rw [hs];kernel_rfl) h1 h
end
theorem stA_all (ac sq:Int) (A:Option Addr) (n c:Nat) (S:Option Addr) (m d:Nat):(stA ac sq A n c S m d).all (·.oneCell')=true:=by simp [stA,Value.oneCell']
theorem st_there {w:World} {X:Nat} {t:TypeId} (h:Blk w X t zero4):w.there X 0 4:=tB h
theorem st_store {w:World} {g:Nat} (h:Blk w g 47 zero4) (cs:Array Value) (hs:cs.size=4):Blk (w.setCells g 0 cs.toList) g 47 cs:=bW h (by rw [hs];rfl)
end
end Go.Proofs.YtohmmcahpakokaaGreat
