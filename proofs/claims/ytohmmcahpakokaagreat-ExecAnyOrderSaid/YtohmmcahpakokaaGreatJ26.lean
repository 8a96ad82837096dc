/- SameTx, EqualTx (the reference's). -/
import Derived.Shelf.SlSortCmp.WholeK
import Derived.Shelf.SlSortCmp.NoneTotal
import Derived.Lib.Overlaps
import Derived.Lib.AppendZerosOnto
import Derived.Lib.SliceRun
import Derived.Deep.Cut
import Derived.ArgAppend
import Derived.Test.YtohmmcahpakokaaGreatJ24
set_option maxRecDepth 100000
set_option maxHeartbeats 8000000
set_option linter.unusedSectionVars false
set_option linter.unusedVariables false
set_option linter.unusedSimpArgs false
namespace Go.Proofs.YtohmmcahpakokaaGreat
section
open Go.RowKit
attribute [local go_sem ↓] Go.wp_at_zero Go.wp_at_succ
theorem oZ {ops:Array Oper} {S:World→Prop} {o:Oper} {a:Act} (hgd:o.guard=none) (x:Operand) (ho:o.op=.load 69 x) (b of:Nat) (hx:a.eval x=.pointer (some ⟨b,of,none⟩)) (R:OpR) (hS:∀ w,S w→w.rangeAt b of (opL R)):YieldsIf Tryz.prog ops S o (.agg (opA R)) a:=by
 have hw:Region.wanted o (yielded ops a.tmps)=true:=by simp [Region.wanted,hgd]
 have:=yieldsIf_load_mid (P:=Tryz.prog) (S:=S) hw 69 x ho b of hx (opL R) _ hS Tryz.underlying69 rfl (by rw [eX];kernel_rfl)
 rw [aAc] at this
 exact this
def eqL (L M:List OpR):Bool:=decide (L.length=M.length∧∀ k,k < L.length→eqV (aY L k).v (aY M k).v=true)
theorem rB {L:List OpR} {k:Nat} (h:k < L.length):(L.map OpR.v)[k]?=some (aY L k).v:=by
 simp [aY,h]
theorem aIB (L M:List OpR):eqL L M=true ↔ L.map OpR.v=M.map OpR.v:=by
 unfold eqL
 simp only [decide_eq_true_eq]
 constructor
 ·rintro ⟨h1, h2⟩
  apply List.ext_getElem?
  intro k
  by_cases hk:k < L.length
  ·rw [rB hk,rB (by omega),(aEu _ _).1 (h2 k hk)]
  rw [List.getElem?_eq_none (by simp;omega),List.getElem?_eq_none (by simp;omega)]
 intro h
 have hl:L.length=M.length:=by have:=congrArg List.length h;simpa using this
 refine ⟨hl,fun k hk=>(aEu _ _).2 ?_⟩
 have:=congrArg (fun l=>l[k]?) h
 simp only [rB hk,rB (show k < M.length by omega)] at this
 injection this
theorem aIA {L M:List OpR} (h:L.length ≠ M.length):eqL L M=false:=by unfold eqL;exact decide_eq_false (fun hh=>h hh.1)
theorem aKk {L M:List OpR} {k:Nat} (hk:k < L.length) (h:eqV (aY L k).v (aY M k).v=false):eqL L M=false:=by
 unfold eqL;exact decide_eq_false (fun hh=>by rw [hh.2 k hk] at h;cases h)
theorem aIz {L M:List OpR} (h1:L.length=M.length) (h2:∀ k,k < L.length→eqV (aY L k).v (aY M k).v=true):eqL L M=true:=decide_eq_true ⟨h1,h2⟩
def eqX (ac sq:Int) (L:List OpR) (ac' sq':Int) (L':List OpR):Bool:=decide (ac=ac') && (decide (sq=sq') && eqL L L')
theorem aCW (ac sq:Int) (A:Option Addr) (n c:Nat) (L:List OpR) (ac' sq':Int) (A':Option Addr) (n' c':Nat) (M:List OpR) (w:World) (hS:SlO w A n c L) (hS':SlO w A' n' c' M) :
  Calls Tryz.prog 77 #[.agg (txA ac sq A n c),.agg (txA ac' sq' A' n' c')] w fun e w'=>e=.returned (.bool (eqX ac sq L ac' sq' M))∧Ext w w':=by
 have hle:=hS.le
 have hcap:=hS.cap
 have hle':=hS'.le
 have hcap':=hS'.cap
 have HL:=zh hS.len
 have HM:=zh hS'.len
 have hE:=((Ext.refl w).alloc' (.cells (txA ac sq A n c) 24)).alloc' (.cells (txA ac' sq' A' n' c') 24)
 have HB1:=zh ((Blk.new w 24 (txA ac sq A n c)).alloc (.cells (txA ac' sq' A' n' c') 24))
 have HB2:=zh (show Blk ((w.alloc (.cells (txA ac sq A n c) 24)).alloc (.cells (txA ac' sq' A' n' c') 24)) (w.heap.size+1) 24 (txA ac' sq' A' n' c') from Blk.newAt _ _ _ _ (by simp))
 have HE:=zh hE
 have HS:=zh (hS.ext hE)
 have HS':=zh (hS'.ext hE)
 clear hS hS' hE
 by_cases h1:ac=ac'
 ·by_cases h2 : sq = sq'
  ·by_cases h3 : n = n'
   ·subst h1; subst h2; subst h3
    have HV:=zh (show eqX ac sq L ac sq M=eqL L M by unfold eqX;simp)
    obtain ⟨w0,hw0⟩:∃ w0,(w.alloc (.cells (txA ac sq A n c) 24)).alloc (.cells (txA ac sq A' n c') 24)=w0:=⟨_,rfl⟩
    rw [hw0] at HB1 HB2 HE HS HS'
    have HQ:=zh (fun (W:World) (h:Ext w0 W)=>show W.cell? ⟨w.heap.size,2,none⟩=some (.slice A n c)∧W.cell? ⟨w.heap.size+1,2,none⟩=some (.slice A' n c') from ⟨(HB1.out.ext h).cell 2,(HB2.out.ext h).cell 2⟩)
    have HCA:=zh (show n=0 ∨ ((∃ b o,A=some ⟨b,o,none⟩∧w0.rangeAt b o (ocs L)∧b < w0.heap.size)∧∃ b o,A'=some ⟨b,o,none⟩∧w0.rangeAt b o (ocs M)∧b < w0.heap.size) from by
     rcases Nat.eq_zero_or_pos n with h0 | h0
     ·exact .inl h0
     exact .inr ⟨HS.out.at h0,HS'.out.at h0⟩)
    have p0:w0.cell? ⟨w.heap.size,0,none⟩=some (.int .i64 ac):=HB1.out.cell 0
    have p1:w0.cell? ⟨w.heap.size,1,none⟩=some (.int .i64 sq):=HB1.out.cell 1
    have p2:w0.cell? ⟨w.heap.size,2,none⟩=some (.slice A n c):=HB1.out.cell 2
    have p3:w0.cell? ⟨w.heap.size+1,0,none⟩=some (.int .i64 ac):=HB2.out.cell 0
    have p4:w0.cell? ⟨w.heap.size+1,1,none⟩=some (.int .i64 sq):=HB2.out.cell 1
    have p5:w0.cell? ⟨w.heap.size+1,2,none⟩=some (.slice A' n c'):=HB2.out.cell 2
    go_enter Tryz.func77,Tryz.ntmps77
    go_wp2_with fail
    clear hw0 p0 p1 p2 p3 p4 p5
    go_loopw [5] (fun i wr=>∃ k:Nat,k≤n∧i=.int .i64 (k:Int)∧Hid (∀ j,j < k→eqV (aY L j).v (aY M j).v=true)∧Hid (Ext w0 wr)) (fun i _=>n - (intOf i).toNat)
    case atStart=>exact ⟨0,Nat.zero_le _,rfl,zh (fun j hj=>by omega),zh (Ext.refl _)⟩
    case round =>
     obtain ⟨k,hk,rfl,HP,HX⟩:=hrel
     obtain ⟨q2,q5⟩:=HQ.out _ HX.out
     by_cases hlt:k < n
     ·obtain ⟨⟨b,o,rfl,hr0,hb0⟩,b',o',rfl,hr0',hb0'⟩:(∃ b o,A=some ⟨b,o,none⟩∧w0.rangeAt b o (ocs L)∧b < w0.heap.size)∧∃ b o,A'=some ⟨b,o,none⟩∧w0.rangeAt b o (ocs M)∧b < w0.heap.size:=by
       rcases HCA.out with h0 | h0
       ·omega
       exact h0
      have hXd:=HX.out.drew'
      have HR1:=zh (kW (aX hr0 (hXd.block b hb0)) (k:=k) (by rw [HL.out];exact hlt))
      have HR2:=zh (kW (aX hr0' (hXd.block b' hb0')) (k:=k) (by rw [HM.out];exact hlt))
      have HOK1:=zh ((HS.out.nth hlt).ext hXd)
      have HOK2:=zh ((HS'.out.nth hlt).ext hXd)
      have HN:=zh (fun (h:eqV (aY L k).v (aY M k).v=false)=>aKk (L:=L) (M:=M) (by rw [HL.out];exact hlt) h)
      have HY:=zh (fun (hx:eqV (aY L k).v (aY M k).v=true)=>show ∀ j,j < k+1→eqV (aY L j).v (aY M j).v=true from fun j hj=>by
       rcases Nat.lt_or_ge j k with h | h
       ·exact HP.out j h
       obtain rfl:j=k:=by omega
       exact hx)
      have i0:(0:Int)≤(k:Int):=by omega
      have i1:(k:Int) < (n:Int):=by omega
      obtain ⟨R,hR⟩:∃ R,aY L k=R:=⟨_,rfl⟩
      obtain ⟨Q,hQ⟩:∃ Q,aY M k=Q:=⟨_,rfl⟩
      rw [hR,hQ] at HN HY
      rw [hR] at HR1 HOK1
      rw [hQ] at HR2 HOK2
      clear hR hQ hr0 hr0'
      have HSO:=zh (aCX R Q wr.drew HOK1.out HOK2.out)
      have HSH:=zh (fun (W:World) (h:Ext wr.drew W)=>show W.rangeAt b (o+k * 23) (opL R)∧W.rangeAt b' (o'+k * 23) (opL Q)∧W.cell? ⟨w.heap.size,2,none⟩=some (.slice (some ⟨b,o,none⟩) n c)∧W.cell? ⟨w.heap.size+1,2,none⟩=some (.slice (some ⟨b',o',none⟩) n c') from
       ⟨aX HR1.out (h.block b (Nat.lt_of_lt_of_le hb0 hXd.size)),aX HR2.out (h.block b' (Nat.lt_of_lt_of_le hb0' hXd.size)),HQ.out W (hXd.trans h)⟩)
      clear hb0 hb0'
      go_wp2_with fail
      clear q2 q5
      refine wp_region_held_drew (S:=fun w'=>w'.rangeAt b (o+k * 23) (opL R)∧w'.rangeAt b' (o'+k * 23) (opL Q)∧w'.cell? ⟨w.heap.size,2,none⟩=some (.slice (some ⟨b,o,none⟩) n c)∧w'.cell? ⟨w.heap.size+1,2,none⟩=some (.slice (some ⟨b',o',none⟩) n c')) (by kernel_rfl) (HSH.out _ (Ext.refl _)) (fun aA=>?_)
      refine wpAnyH_take (i:=0) (oi:=⟨some 34,.fieldAddr 24 (.tmp 2) 2,0,"tx.go:250",#[],none⟩) (v:=?_) rfl (by kernel_rfl) (by kernel_rfl) (by kernel_rfl) (fun _ _ _ h=>h) (Or.inl ⟨by rfl,?hy0⟩) aA ?_
      case hy0=>(intro w hSw;obtain ⟨s1,s2,s3,s4⟩:=hSw;go_simp <;> with_reducible rfl)
      try simp only [aS]
      refine wpAnyH_take (i:=1) (oi:=⟨some 35,.load 22 (.tmp 34),22,"tx.go:250",#[⟨0,.data⟩],none⟩) (v:=?_) rfl (by kernel_rfl) (by kernel_rfl) (by kernel_rfl) (fun _ _ _ h=>h) (Or.inl ⟨by rfl,?hy1⟩) aA ?_
      case hy1=>(intro w hSw;obtain ⟨s1,s2,s3,s4⟩:=hSw;go_simp <;> with_reducible rfl)
      try simp only [aS]
      refine wpAnyH_take (i:=2) (oi:=⟨some 36,.move (.tmp 5),3,"tx.go:250",#[],none⟩) (v:=?_) rfl (by kernel_rfl) (by kernel_rfl) (by kernel_rfl) (fun _ _ _ h=>h) (Or.inl ⟨by rfl,?hy2⟩) aA ?_
      case hy2=>(intro w hSw;obtain ⟨s1,s2,s3,s4⟩:=hSw;go_simp <;> with_reducible rfl)
      try simp only [aS]
      refine wpAnyH_take (i:=3) (oi:=⟨some 37,.indexAddr 22 (.tmp 35) (.tmp 36),0,"tx.go:250",#[⟨1,.data⟩,⟨2,.data⟩],none⟩) (v:=?_) rfl (by kernel_rfl) (by kernel_rfl) (by kernel_rfl) (fun _ _ _ h=>h) (Or.inl ⟨by rfl,?hy3⟩) aA ?_
      case hy3=>(intro w hSw;obtain ⟨s1,s2,s3,s4⟩:=hSw;go_simp <;> with_reducible rfl)
      try simp only [aS]
      refine wpAnyH_take (i:=4) (oi:=⟨some 38,.load 69 (.tmp 37),69,"tx.go:250",#[⟨3,.data⟩],none⟩) (v:=.agg (opA R)) rfl (by kernel_rfl) (by kernel_rfl) (by kernel_rfl) (fun _ _ _ h=>h) ?hy4 aA ?_
      case hy4=>(refine oZ rfl (.tmp 37) rfl b (o+k * 23) ?hx4 R (fun w hS=>hS.1);case hx4=>rfl)
      try simp only [aS]
      refine wpAnyH_take (i:=5) (oi:=⟨some 39,.fieldAddr 24 (.tmp 3) 2,0,"tx.go:250",#[],none⟩) (v:=?_) rfl (by kernel_rfl) (by kernel_rfl) (by kernel_rfl) (fun _ _ _ h=>h) (Or.inl ⟨by rfl,?hy5⟩) aA ?_
      case hy5=>(intro w hSw;obtain ⟨s1,s2,s3,s4⟩:=hSw;go_simp <;> with_reducible rfl)
      try simp only [aS]
      refine wpAnyH_take (i:=6) (oi:=⟨some 40,.load 22 (.tmp 39),22,"tx.go:250",#[⟨5,.data⟩],none⟩) (v:=?_) rfl (by kernel_rfl) (by kernel_rfl) (by kernel_rfl) (fun _ _ _ h=>h) (Or.inl ⟨by rfl,?hy6⟩) aA ?_
      case hy6=>(intro w hSw;obtain ⟨s1,s2,s3,s4⟩:=hSw;go_simp <;> with_reducible rfl)
      try simp only [aS]
      refine wpAnyH_take (i:=7) (oi:=⟨some 41,.move (.tmp 5),3,"tx.go:250",#[],none⟩) (v:=?_) rfl (by kernel_rfl) (by kernel_rfl) (by kernel_rfl) (fun _ _ _ h=>h) (Or.inl ⟨by rfl,?hy7⟩) aA ?_
      case hy7=>(intro w hSw;obtain ⟨s1,s2,s3,s4⟩:=hSw;go_simp <;> with_reducible rfl)
      try simp only [aS]
      refine wpAnyH_take (i:=8) (oi:=⟨some 42,.indexAddr 22 (.tmp 40) (.tmp 41),0,"tx.go:250",#[⟨6,.data⟩,⟨7,.data⟩],none⟩) (v:=?_) rfl (by kernel_rfl) (by kernel_rfl) (by kernel_rfl) (fun _ _ _ h=>h) (Or.inl ⟨by rfl,?hy8⟩) aA ?_
      case hy8=>(intro w hSw;obtain ⟨s1,s2,s3,s4⟩:=hSw;go_simp <;> with_reducible rfl)
      try simp only [aS]
      refine wpAnyH_take (i:=9) (oi:=⟨some 43,.load 69 (.tmp 42),69,"tx.go:250",#[⟨8,.data⟩],none⟩) (v:=.agg (opA Q)) rfl (by kernel_rfl) (by kernel_rfl) (by kernel_rfl) (fun _ _ _ h=>h) ?hy9 aA ?_
      case hy9=>(refine oZ rfl (.tmp 42) rfl b' (o'+k * 23) ?hx9 Q (fun w hS=>hS.2.1);case hx9=>rfl)
      try simp only [aS]
      refine wpAnyH_ready (rs:=[10]) (by kernel_rfl) (by simp) ?_
      refine AllReadyH.cons (o:=⟨some 44,.call { callee:=.value (.func 132),args:=#[.tmp 38,.tmp 43],argTypes:=#[69,69] },4,"tx.go:250",#[⟨4,.data⟩,⟨9,.data⟩],none⟩) rfl (fun K hK=>?_) AllReadyH.nil
      go_simp
      go_at_call 132
      (with_reducible refine HSO.out.mono ?_)
      rintro e w1 ⟨rfl,he1⟩
      refine hK.out _ _ (HSH.out _ he1) (fun hHeld2=>?_)
      clear hK K
      try simp only [aS]
      refine wpAnyH_take (i:=11) (oi:=⟨some 45,.unOp .not 4 (.tmp 44),4,"tx.go:250",#[⟨10,.data⟩],none⟩) (v:=?_) rfl (by kernel_rfl) (by kernel_rfl) (by kernel_rfl) (fun _ _ _ h=>h) (Or.inl ⟨by rfl,?hy11⟩) hHeld2 ?_
      case hy11=>(intro w hSw;obtain ⟨s1,s2,s3,s4⟩:=hSw;go_simp <;> with_reducible rfl)
      try simp only [aS]
      refine wpAnyH_done (by kernel_rfl) ?_ _
      have HX1:=zh (hXd.trans he1)
      clear he1 hXd aA hHeld2
      cases hv:eqV R.v Q.v with
      | true =>
       have HY':=zh (HY.out hv)
       clear hv
       go_wp2_with fail
       go_roundw
       case rel=>exact ⟨k+1,by omega,by go_num,HY',HX1⟩
       case measure=>simp [intOf];omega
      | false =>
       have HN':=zh (HN.out hv)
       clear hv
       go_wp2_with fail
       go_ret
       exact ⟨by rw [HV.out,HN'.out];rfl,HE.out.trans HX1.out⟩
     obtain rfl:k=n:=by omega
     have HY:=zh (show eqL L M=true from aIz (by rw [HL.out,HM.out]) (fun j hj=>HP.out j (by rw [HL.out] at hj;exact hj)))
     go_wp2_with fail
     go_ret
     exact ⟨by rw [HV.out,HY.out];rfl,HE.out.trans HX.out⟩
   have HV:=zh (show eqX ac sq L ac' sq' M=false by unfold eqX;rw [aIA (by rw [HL.out,HM.out];exact h3)];simp)
   have x1:((n:Int) != (n':Int))=true:=by simp;omega
   have x2:((n:Int) == (n':Int))=false:=by simp;omega
   have x3:decide ((n:Int)=(n':Int))=false:=by simp;omega
   subst h1;subst h2
   clear h3
   go_enter Tryz.func77,Tryz.ntmps77
   go_wp2_with fail
   go_ret
   exact ⟨by rw [HV.out];rfl,HE.out⟩
  have HV:=zh (show eqX ac sq L ac' sq' M=false by unfold eqX;rw [decide_eq_false h2];simp)
  have x1:(sq != sq')=true:=by simp;omega
  have x2:(sq == sq')=false:=by simp;omega
  have x3:decide (sq=sq')=false:=by simp;omega
  subst h1
  clear h2
  go_enter Tryz.func77,Tryz.ntmps77
  go_wp2_with fail
  go_ret
  exact ⟨by rw [HV.out];rfl,HE.out⟩
 have HV:=zh (show eqX ac sq L ac' sq' M=false by unfold eqX;rw [decide_eq_false h1];simp)
 have x1:(ac != ac')=true:=by simp;omega
 have x2:(ac == ac')=false:=by simp;omega
 have x3:decide (ac=ac')=false:=by simp;omega
 clear h1
 go_enter Tryz.func77,Tryz.ntmps77
 go_wp2_with fail
 go_ret
 exact ⟨by rw [HV.out];rfl,HE.out⟩
end
section
open Go.RowKit
theorem vR (a b:CeR):decide (jC a b < 0)=eE a b:=by
 unfold jC gJ eE vW
 rcases Int.lt_trichotomy a.k b.k with h | h | h
 ·rw [iK h,if_pos (by decide),gR,if_neg (by omega),decide_eq_true h];rfl
 ·rw [h, iM, if_neg (by decide), gR, if_pos rfl]
  rcases Int.lt_trichotomy a.id b.id with h2 | h2 | h2
  ·rw [iK h2,if_pos (by decide),gR,if_neg (by omega),decide_eq_true h2];rfl
  ·rw [h2, iM, if_neg (by decide), gR, if_pos rfl, gR]
   rcases Int.lt_trichotomy (un a.lk) (un b.lk) with h3 | h3 | h3
   ·rw [iK h3,if_neg (by omega),decide_eq_true h3];rfl
   ·rw [h3,iM,if_pos rfl];rfl
   rw [iL h3,if_neg (by omega),decide_eq_false (by omega:¬ un a.lk < un b.lk)];rfl
  rw [iL h2,if_pos (by decide),gR,if_neg (by omega),decide_eq_false (by omega:¬ a.id < b.id)];rfl
 rw [iL h,if_pos (by decide),gR,if_neg (by omega),decide_eq_false (by omega:¬ a.k < b.k)];rfl
section
variable {α:Type} [RowT α]
theorem yF (d:Array α):Sort.flatK RowT.enc (RowT.sz α) d=(gcs d.toList).toArray:=by
 have hl:(gcs d.toList).length=d.size * RowT.sz α:=by rw [aH];simp
 refine Sort.ext_get! (by simp [hl]) (fun t ht=>?_)
 have ht':t < d.size * RowT.sz α:=by simpa using ht
 rw [Sort.get_flatK _ _ _ _ ht']
 have hp:=RowT.pos (α:=α)
 have hq:t / RowT.sz α < d.size:=Nat.div_lt_of_lt_mul (by rwa [Nat.mul_comm] at ht')
 have hm:=Nat.mod_lt t hp
 have h1:=aHp (L:=d.toList) (k:=t / RowT.sz α) (by simpa using hq)
 rw [qO,← h1]
 have hlen:(List.take (RowT.sz α) (List.drop (t / RowT.sz α * RowT.sz α) (gcs d.toList))).length=RowT.sz α:=by rw [h1,RowT.len]
 rw [getElem!_pos _ _ (by rw [hlen];exact hm),List.getElem_take,List.getElem_drop,getElem!_pos _ _ (by simp [hl];exact ht'),List.getElem_toArray]
 congr 1
 have:=Nat.div_add_mod t (RowT.sz α)
 rw [Nat.mul_comm] at this
 exact this
end
theorem aBU {w:World} {g n:Nat} {os:Array Obj} (d:Array Value):w.grownBy (sortWorld id w g 0 n d os) (some g):=by
 unfold sortWorld
 refine ⟨rfl,rfl,rfl,by simp,fun k hk hne=>?_⟩
 rw [Sort.heap_grow_old _ _ (by simpa using hk)]
 have:g ≠ k:=fun e=>hne (by rw [e])
 simp [Sort.putRow,Sort.mapBlock,Sort.ahead,Array.getElem?_modify,this]
theorem aHm {w:World} {g n:Nat} {os:Array Obj} {cur:Array Value} {e:TypeId} {fr:Nat × Nat} (d:Array Value) (hb:w.heap[g]?=some (.cells cur e fr)) :
  (sortWorld id w g 0 n d os).heap[g]?=some (.cells (Sort.putCells id 0 d cur) e fr):=by
 have hg:g < w.heap.size:=(Array.getElem?_eq_some_iff.1 hb).1
 unfold sortWorld
 rw [Sort.heap_grow_old _ _ (by simpa using hg)]
 simp [Sort.putRow,Sort.mapBlock,Sort.ahead,Array.getElem?_modify,hb,Sort.onCells]
theorem aEP (cur d:Array Value) (h:d.size≤cur.size):(Sort.putCells id 0 d cur).toList.take d.size=d.toList:=by
 apply List.ext_getElem?
 intro j
 by_cases hj:j < d.size
 ·rw [List.getElem?_take_of_lt hj, Array.getElem?_toList]
  simp [Sort.putCells,hj,show j < cur.size by omega]
 rw [List.getElem?_take_eq_none (by omega),List.getElem?_eq_none (by simp;omega)]
theorem aHX {w:World} {base g c n m size:Nat} {e:TypeId} {os:Array Obj} {xs:List Value} (d:Array Value) (hd:d.size=n * size) (h:w.ownsRow base e size (.slice (some ⟨g,0,none⟩) n c) n xs) :
  (sortWorld id w g 0 m d os).ownsRow base e size (.slice (some ⟨g,0,none⟩) n c) n d.toList:=by
 have hl:=h.1
 rcases h.2 with ⟨hv,_⟩ | ⟨g',cap,cur,hv,hb,hh,hn,hm,hs,ht⟩
 ·cases hv
 cases hv
 have hle:d.size≤cur.size:=by
  have:=congrArg List.length ht
  rw [List.length_take,hl] at this
  simp at this;omega
 exact ⟨by simp [hd],.inr ⟨g,c,_,rfl,hb,aHm d hh,hn,hm,by simp [Sort.putCells,hs],by rw [← hd];exact aEP cur d hle⟩⟩
theorem aLq:Sort.SWO (ltOf jC):=by
 have e:ltOf jC=eE:=funext fun x=>funext fun y=>vR x y
 rw [e]
 exact ⟨eZ.irrefl,fun x y z h1 h2=>eZ.trans _ _ _ h1 h2,fun x y z h1 h2=>eZ.ntrans h1 h2⟩
theorem aLr {g n size:Nat} {w:World}:CmpLays Tryz.prog 65 #[] (RowT.enc (α:=CeR)) 10 jC g 0 size w:=fun m os dk hs x y=>by
 have h:=GW.compareC_any x y (sortWorldK RowT.enc 10 w g 0 m dk os)
 rw [Array.append_empty,ceP.eq,ceP.eq]
 refine h.mono ?_
 rintro e w' ⟨rfl,hg⟩
 exact ⟨rfl,hg.grow⟩
theorem aCT (w0 w:World) (base:Nat) (A:Option Addr) (n c:Nat) (d:Array CeR) (h:RowS w0 w base 32 A n c d) (hn:n≤1000000000) :
  Calls Tryz.prog 64 #[.slice A n c,.func (.func 65) #[] #[]] w (fun e w'=>e=.returned (.tuple #[])∧∃ d',RowS w0 w' base 32 A n c d'∧Sort.PermIn 0 n d d'∧Sort.SortedIn eE 0 n d'):=by
 rcases Nat.eq_zero_or_pos n with rfl | hpos
 ·refine (AnyF.slices_SortFunc_none (P := Tryz.prog) (ρ := tM) { aGu with } A c (.func (.func 65) #[] #[]) w).mono ?_
  rintro e w' ⟨rfl,rfl⟩
  exact ⟨rfl,d,h,Sort.permIn_refl _ _ _,fun i j _ _ hj=>absurd hj (Nat.not_lt_zero _)⟩
 obtain ⟨g,rfl,-,hr⟩:=h.at hpos
 have hsz:=h.size
 have ho:w.ownsRow base 32 10 (.slice (some ⟨g,0,none⟩) n c) n (gcs d.toList):=h.own
 have hH:Sort.HoldsK (RowT.enc (α:=CeR)) 10 w g 0 d:=fun j hj=>by
  have e1:=yF d
  rw [show RowT.sz CeR=10 from rfl] at e1
  rw [Sort.size_flatK,hsz] at hj
  have hl:(gcs d.toList).length=n * 10:=ho.1
  refine ⟨?_,ho.frozenAt _⟩
  rw [e1,ho.cellAt (0+j) (by omega),Nat.zero_add,List.getElem?_eq_getElem (by omega),getElem!_pos _ j (by simp;omega)]
  simp
 have hlt:g < w.heap.size:=(ho.lt g rfl).2
 have eg:∀ args w,(callFunc 65 args).run Tryz.prog w=.ok (.enter 65 args) w:=enters_of Tryz.func65 (by kernel_rfl) rfl
 have hc:=AnyQ.slices_SortFunc aGu 10 (fun w=>by kernel_rfl) (fun w=>by kernel_rfl) (RowT.enc (α:=CeR)) (RowT.len (α:=CeR)) (fun x v hv=>RowT.one x v hv) jC aLq 65 #[] g 0 c d w eg (aLr (n:=n)) hH hlt (by omega)
 rw [hsz] at hc
 change Calls Tryz.prog 64 _ _ _ at hc
 refine hc.mono ?_
 rintro e w' ⟨rfl,d',m,os,hp,hs,rfl⟩
 have hw:sortWorldK (RowT.enc (α:=CeR)) 10 w g 0 m d' os=sortWorld id w g 0 m (Sort.flatK RowT.enc 10 d') os:=rfl
 rw [hw]
 have hf:=yF d'
 rw [show RowT.sz CeR=10 from rfl] at hf
 refine ⟨rfl,d',⟨?_,fun x hx=>?_,Grown.trans h.gr (aBU _),h.ne⟩,hp,fun i j h1 h2 h3=>?_⟩
 ·have := aHX (os := os) (m := m) (Sort.flatK RowT.enc 10 d') (by rw [Sort.size_flatK, hp.1, hsz]) ho
  rw [hf] at this ⊢
  simp only [List.toList_toArray] at this ⊢
  exact this
 ·have hm:x ∈ d.toList:=by
   obtain ⟨p1,p2,p3⟩:=hp
   have e1:d'.extract 0 n=d':=by rw [← hsz,← p1];exact Array.extract_size
   have e2:d.extract 0 n=d:=by rw [← hsz];exact Array.extract_size
   rw [e1,e2] at p3
   exact p3.mem_iff.1 hx
  exact h.ow x hm
 have:=hs i j h1 h2 h3
 unfold ltOf at this
 rwa [vR] at this
end
section
open Go.RowKit
attribute [local go_sem ↓] Go.wp_at_zero Go.wp_at_succ
theorem rU (x:UInt64) (w:World):Calls Tryz.prog 130 #[.agg (nmc x)] w fun e w'=>e=.returned (.int .u64 (un x))∧Ext w w':=by
 have hl:=aG x
 obtain ⟨W0,hW0⟩:∃ W0,w.alloc (.cells (nmc x) 30)=W0:=⟨_,rfl⟩
 have HB:=zh (show Blk W0 w.heap.size 30 (nmc x) from by rw [← hW0];exact Blk.new _ _ _)
 have HE:=zh (show Ext w W0 from by rw [← hW0];exact (Ext.refl w).alloc' _)
 go_enter Tryz.func130,Tryz.ntmps130
 go_wp2_with fail
 clear hW0
 go_loopw [3,4] (fun v i wr=>∃ k:Nat,k≤8∧i=.int .i64 (k:Int)∧v=.int .u64 (bH ((nmb x).take k))∧W0=wr) (fun _ i _=>8 - (intOf i).toNat)
 case atStart=>exact ⟨0,by omega,rfl,rfl,rfl⟩
 case round =>
  obtain ⟨k,hk,rfl,rfl,rfl⟩:=hrel
  by_cases hlt:k < 8
  ·have hix:W0.cell? ⟨w.heap.size,k,none⟩=some (.int .u8 (((nmb x).getD k 0).toNat:Int)):=by
    rw [HB.out.cell k]
    have hl:=aG x
    simp [nmc,bcs,bv,hl,hlt]
   have i1:(k:Int) < 8:=by omega
   have hb:=lC ((nmb x).take k)
   rw [List.length_take,hl,Nat.min_eq_left (by omega)] at hb
   have hb7:bH ((nmb x).take k) < 72057594037927936:=Nat.lt_of_lt_of_le hb (Nat.pow_le_pow_right (n:=256) (j:=7) (by omega) (by omega))
   have hor:=sW _ ((nmb x).getD k 0) hb7
   have HS:=zh (show bH ((nmb x).take (k+1))=bH ((nmb x).take k) * 256+((nmb x).getD k 0).toNat by rw [mG _ _ (by omega),fV])
   clear hb hb7 hl
   generalize bH ((nmb x).take k)=a at *
   generalize (nmb x).getD k 0=c at *
   go_wp2_with fail
   go_roundw
   case rel=>exact ⟨k+1,by omega,by go_num,by rw [HS.out];go_num,by first | rfl | trivial⟩
   case measure=>simp [intOf];omega
  have HS:=zh (show (bH ((nmb x).take k):Int)=un x by rw [List.take_of_length_le (by omega),nM];rfl)
  have i1:¬ (k:Int) < 8:=by omega
  clear hl
  generalize bH ((nmb x).take k)=a at *
  go_wp2_with fail
  go_ret
  exact ⟨by rw [← HS.out];rfl,HE.out⟩
theorem iB (x y:UInt64) (w:World):Calls Tryz.prog 74 #[.agg (nmc x),.agg (nmc y)] w fun e w'=>e=.returned (.bool (decide (un x < un y)))∧Ext w w':=by
 have hE:=((Ext.refl w).alloc' (.cells (nmc x) 30)).alloc' (.cells (nmc y) 30)
 have HB1:=zh ((Blk.new w 30 (nmc x)).alloc (.cells (nmc y) 30))
 have HB2:=zh (show Blk ((w.alloc (.cells (nmc x) 30)).alloc (.cells (nmc y) 30)) (w.heap.size+1) 30 (nmc y) from Blk.newAt _ _ _ _ (by simp))
 have HE:=zh hE
 obtain ⟨W0,hW0⟩:∃ W0,(w.alloc (.cells (nmc x) 30)).alloc (.cells (nmc y) 30)=W0:=⟨_,rfl⟩
 rw [hW0] at HB1 HB2 HE
 have HC:=zh (fun (W:World) (h:Ext W0 W)=>And.intro (fK (HB1.out.ext h)) (fK (HB2.out.ext h)))
 clear hE
 go_enter Tryz.func74,Tryz.ntmps74
 go_wp2_with fail
 refine eQ (S:=fun W=>Ext W0 W) (by kernel_rfl) (by kernel_rfl) ((Ext.refl W0).drew') ?_
 (refine zzx 0 ?_ (hy:=by intro W aM;obtain ⟨c1,c2⟩:=HC.out W aM;go_simp <;> with_reducible rfl))
 (refine cL (i:=1) (oi:=⟨some 6,.call { callee:=.value (.func 130),args:=#[.tmp 5],argTypes:=#[30] },148,"ref.go:30",#[⟨0,.data⟩],none⟩) (v:=?_) rfl (by kernel_rfl) (by kernel_rfl) (aEr (by rfl) (fun W aM K hK=>?hy1_1)) ?_;case hy1_1=>(go_simp;go_at_call 130;(with_reducible refine (rU x W).mono ?_);rintro e w1 ⟨rfl,he1⟩;exact hK.out _ (aM.trans he1)))
 try simp only [aS]
 (refine zzx 2 ?_ (hy:=by intro W aM;obtain ⟨c1,c2⟩:=HC.out W aM;go_simp <;> with_reducible rfl))
 (refine cL (i:=3) (oi:=⟨some 8,.call { callee:=.value (.func 130),args:=#[.tmp 7],argTypes:=#[30] },148,"ref.go:30",#[⟨2,.data⟩,⟨1,.chain⟩],none⟩) (v:=?_) rfl (by kernel_rfl) (by kernel_rfl) (aEr (by rfl) (fun W aM K hK=>?hy1_3)) ?_;case hy1_3=>(go_simp;go_at_call 130;(with_reducible refine (rU y W).mono ?_);rintro e w1 ⟨rfl,he1⟩;exact hK.out _ (aM.trans he1)))
 try simp only [aS]
 (refine zzx 4 ?_)
 (refine zzx 5 ?_)
 refine Plan.done (by kernel_rfl) (fun W aM=>?_)
 have HX:=zh (HE.out.trans aM)
 clear aM
 go_wp2_with fail
 go_ret
 exact ⟨rfl,HX.out⟩
end
section
open Go.RowKit
theorem aHz (g:Int) {k:Nat} (hk:k≤9):(BitVec.ofInt 64 g).getLsbD k=iV g k:=by
 have h1:(BitVec.ofInt 64 g).toNat=(g % 2 ^ 64).toNat:=by simp [BitVec.toNat_ofInt]
 show (BitVec.ofInt 64 g).toNat.testBit k=_
 rw [Nat.testBit_eq_decide_div_mod_eq,h1]
 unfold iV
 have h2:(0:Int)≤g % 2 ^ 64:=Int.emod_nonneg _ (by decide)
 apply decide_eq_decide.2
 obtain rfl | rfl | rfl | rfl | rfl | rfl | rfl | rfl | rfl | rfl:k=0 ∨ k=1 ∨ k=2 ∨ k=3 ∨ k=4 ∨ k=5 ∨ k=6 ∨ k=7 ∨ k=8 ∨ k=9:=by omega
 all_goals omega
theorem aDH {k:Nat} (hk:k≤9):BitVec.ofInt 64 ((2:Int) ^ k)=BitVec.twoPow 64 k:=by
 obtain rfl | rfl | rfl | rfl | rfl | rfl | rfl | rfl | rfl | rfl:k=0 ∨ k=1 ∨ k=2 ∨ k=3 ∨ k=4 ∨ k=5 ∨ k=6 ∨ k=7 ∨ k=8 ∨ k=9:=by omega
 all_goals rfl
theorem lQ (g:Int) {k:Nat} (hk:k≤9):bits .and .i64 g (2 ^ k)=if iV g k=true then 2 ^ k else 0:=by
 show IntKind.i64.wrap ((BitVec.ofInt 64 g &&& BitVec.ofInt 64 (2 ^ k)).toNat:Int)=_
 rw [aDH hk,BitVec.and_twoPow,aHz g hk]
 by_cases h:iV g k=true
 ·rw [if_pos h, if_pos h]
  obtain rfl | rfl | rfl | rfl | rfl | rfl | rfl | rfl | rfl | rfl:k=0 ∨ k=1 ∨ k=2 ∨ k=3 ∨ k=4 ∨ k=5 ∨ k=6 ∨ k=7 ∨ k=8 ∨ k=9:=by omega
  all_goals rfl
 rw [if_neg h,if_neg h];rfl
theorem aAT {G:Int} (h:wfI G) {k:Nat} (hk:k≤9):wfI (xJ G k):=by
 unfold xJ iV
 by_cases h1:G / 2 ^ k % 2=1
 ·rw [if_pos (by simpa using h1)];exact h
 rw [if_neg (by simpa using h1)]
 rw [fH] at *
 unfold jS at *
 obtain rfl | rfl | rfl | rfl | rfl | rfl | rfl | rfl | rfl | rfl:k=0 ∨ k=1 ∨ k=2 ∨ k=3 ∨ k=4 ∨ k=5 ∨ k=6 ∨ k=7 ∨ k=8 ∨ k=9:=by omega
 all_goals omega
theorem aCw {g:Int} (hg:wfI g) {k:Nat} (hk:k≤9):bits .or .i64 g (2 ^ k)=xJ g k:=by
 have hw:∀ z:Int,wfI z→IntKind.i64.wrap (((BitVec.ofInt 64 z).toNat:Nat):Int)=z:=by
  intro z hz
  have h1:(((BitVec.ofInt 64 z).toNat:Nat):Int)=z % 2 ^ 64:=by
   rw [BitVec.toNat_ofInt]
   exact Int.toNat_of_nonneg (Int.emod_nonneg _ (by decide))
  rw [h1]
  rw [fH] at hz
  unfold jS at hz
  rw [IntKind.wrap_i64]
  omega
 show IntKind.i64.wrap ((BitVec.ofInt 64 g ||| BitVec.ofInt 64 (2 ^ k)).toNat:Int)=_
 have h0:=aHz g hk
 unfold xJ
 by_cases h:iV g k=true
 ·rw [if_pos h]
  have:BitVec.ofInt 64 g ||| BitVec.ofInt 64 (2 ^ k)=BitVec.ofInt 64 g:=by
   rw [aDH hk]
   apply BitVec.eq_of_getLsbD_eq
   intro i hi
   rw [BitVec.getLsbD_or,BitVec.getLsbD_twoPow]
   by_cases e:k=i
   ·subst e;rw [h0,h];rfl
   simp [e]
  rw [this];exact hw g hg
 rw [if_neg h]
 have h2:iV g k=false:=by simpa using h
 have:BitVec.ofInt 64 g ||| BitVec.ofInt 64 (2 ^ k)=BitVec.ofInt 64 (g+2 ^ k):=by
  rw [BitVec.ofInt_add]
  refine (BitVec.add_eq_or_of_and_eq_zero _ _ ?_).symm
  rw [aDH hk,BitVec.and_twoPow,h0,h2];rfl
 rw [this]
 refine hw _ ?_
 have:=aAT hg hk
 unfold xJ at this;rwa [if_neg h] at this
end
end Go.Proofs.YtohmmcahpakokaaGreat
