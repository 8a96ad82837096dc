/- The reference's SameDeltas, SameNames, SameInts. -/
import Derived.Test.YtohmmcahpakokaaGreatH37
set_option maxRecDepth 100000
set_option maxHeartbeats 8000000
set_option linter.unusedVariables false
set_option linter.unusedSimpArgs false
namespace Go.Proofs.YtohmmcahpakokaaGreat
section
open Go.RowKit
attribute [local go_sem ↓] Go.wp_at_zero Go.wp_at_succ
theorem qI {α:Type} [RowT α]:∀ {L M:List α},L.length=M.length→(∀ j,j < L.length→aM L j=aM M j)→L=M
 | [],[],_,_=>rfl
 | [],_ :: _,h,_=>by simp at h
 | _ :: _,[],h,_=>by simp at h
 | x :: r,y :: q,h,hj=>by
  have h0:x=y:=hj 0 (by simp)
  rw [h0,qI (L:=r) (M:=q) (by simpa using h) (fun j hl=>hj (j+1) (by simpa using hl))]
theorem sJ (A1:Option Addr) (n c1:Nat) (L:List DeR) (A2:Option Addr) (m c2:Nat) (M:List DeR) (w:World) (hL:SlG w A1 n c1 L) (hM:SlG w A2 m c2 M):Calls Tryz.prog 14 #[.slice A1 n c1,.slice A2 m c2] w fun e w'=>e=.returned (.bool (decide (L=M)))∧Ext w w':=by
 have HS:=zh hL
 have HM:=zh hM
 have hle:=hL.le
 have hcap:=hL.cap
 have hle2:=hM.le
 have hcap2:=hM.cap
 clear hL hM
 by_cases hnm:n=m
 ·subst hnm
  go_enter Tryz.func14,Tryz.ntmps14
  go_wp2_with fail
  go_loopw [5] (fun vi wr=>∃ k:Nat,vi=.int .i64 (k:Int)∧k≤n∧Hid (∀ j,j < k→aM L j=aM M j)∧Hid (Ext w wr)) (fun i _=>n - (intOf i).toNat)
  case atStart=>exact ⟨0,rfl,Nat.zero_le _,zh (fun j hj=>absurd hj (Nat.not_lt_zero _)),zh (Ext.refl w)⟩
  case round =>
   obtain ⟨k,rfl,hk,HN,HXW⟩:=hrel
   by_cases hlt:k < n
   ·have i0 : (0 : Int) ≤ (k : Int) := by omega
    have i1:(k:Int) < (n:Int):=by omega
    obtain ⟨d,hd⟩:∃ d,aM L k=d:=⟨_,rfl⟩
    obtain ⟨d2,hd2⟩:∃ d,aM M k=d:=⟨_,rfl⟩
    have hw1:deW d:=by rw [← hd];exact HS.out.nth hlt
    have hw2:deW d2:=by rw [← hd2];exact HM.out.nth hlt
    obtain ⟨b,o,hab,hrow,-⟩:=HS.out.at (by omega)
    obtain ⟨b2,o2,hab2,hrow2,-⟩:=HM.out.at (by omega)
    subst hab
    subst hab2
    have HR1:=zh (fun (V:World) (e:Ext w V)=>show V.rangeAt b (o+k * 11) (RowT.enc d) from by
     rw [← hd]
     obtain ⟨b9,o9,e2,hr2,-⟩:=(HS.out.ext e).at (by omega)
     injection e2 with e3
     injection e3 with e4 e5
     subst e4
     subst e5
     exact cP (k:=k) hr2 (by rw [HS.out.len];exact hlt))
    have HR2:=zh (fun (V:World) (e:Ext w V)=>show V.rangeAt b2 (o2+k * 11) (RowT.enc d2) from by
     rw [← hd2]
     obtain ⟨b9,o9,e2,hr2,-⟩:=(HM.out.ext e).at (by omega)
     injection e2 with e3
     injection e3 with e4 e5
     subst e4
     subst e5
     exact cP (k:=k) hr2 (by rw [HM.out.len];exact hlt))
    have HNE:=zh (fun W=>aEo d d2 hw1 hw2 W)
    obtain ⟨ne,hne⟩:∃ ne,(!decide (d=d2))=ne:=⟨_,rfl⟩
    rw [hne] at HNE
    have HDK:=zh (show (!decide (aM L k=aM M k))=ne from by rw [hd,hd2];exact hne)
    clear hrow hrow2 hd hd2 hne
    go_upto_region 6 with fail
    refine wp_region_held_drew (S:=fun V=>Ext w V) (by kernel_rfl) (HXW.out.trans ((Ext.refl _).drew')) (fun aA=>?_)
    refine zzr [0,1,2] ?_
    refine zu 3 (v:=.agg (deA d)) aA ?_ (hy:=by exact aG deP (by rfl) (.tmp 19) rfl b (o+k * 11) rfl d _ rfl (fun V h=>HR1.out V h))
    refine zzr [4,5,6] ?_
    refine zu 7 (v:=.agg (deA d2)) aA ?_ (hy:=by exact aG deP (by rfl) (.tmp 23) rfl b2 (o2+k * 11) rfl d2 _ rfl (fun V h=>HR2.out V h))
    refine zu 8 (v:=.bool ne) aA ?_ (hy:=by exact cK (by rfl) (.tmp 20) (.tmp 24) (by rfl) (vx:=.agg (deA d)) (vy:=.agg (deA d2)) (by rfl) (by rfl) (aGy _ _ _ _ _) HNE.out)
    refine wpAnyH_done (by kernel_rfl) ?_ _
    have HXN:=zh aA
    clear aA
    cases ne
    ·go_wp2_with fail
     go_roundw
     case rel=>exact ⟨k+1,by go_num,hlt,zh (fun j hj=>by
      rcases (by omega:j < k ∨ j=k) with hj | rfl
      ·exact HN.out j hj
      have h9:=HDK.out
      simpa using h9),HXN⟩
     case measure=>simp [intOf];omega
    have HF:=zh (show decide (L=M)=false from decide_eq_false (fun e=>by
     have h9:=HDK.out
     rw [e] at h9
     simp at h9))
    go_wp2_with fail
    go_ret
    exact ⟨by rw [HF.out];rfl,HXN.out⟩
   obtain rfl:n=k:=by omega
   have i1:¬ (n:Int) < (n:Int):=by omega
   have HF:=zh (show decide (L=M)=true from decide_eq_true (qI (by rw [HS.out.len,HM.out.len]) (fun j hj=>HN.out j (by rw [← HS.out.len];exact hj))))
   go_wp2_with fail
   go_ret
   exact ⟨by rw [HF.out];rfl,HXW.out⟩
 have HF:=zh (show decide (L=M)=false from decide_eq_false (fun e=>hnm (by have h1:=HS.out.len;have h2:=HM.out.len;rw [e] at h1;omega)))
 have i1:((n:Int) != (m:Int))=true:=bne_iff_ne.2 (by omega)
 go_enter Tryz.func14,Tryz.ntmps14
 go_wp2_with fail
 go_ret
 exact ⟨by rw [HF.out];rfl,Ext.refl w⟩
theorem uA (A1:Option Addr) (n c1:Nat) (L:List UInt64) (A2:Option Addr) (m c2:Nat) (M:List UInt64) (w:World) (hL:SlG w A1 n c1 L) (hM:SlG w A2 m c2 M):Calls Tryz.prog 38 #[.slice A1 n c1,.slice A2 m c2] w fun e w'=>e=.returned (.bool (decide (L=M)))∧Ext w w':=by
 have HS:=zh hL
 have HM:=zh hM
 have hle:=hL.le
 have hcap:=hL.cap
 have hle2:=hM.le
 have hcap2:=hM.cap
 clear hL hM
 by_cases hnm:n=m
 ·subst hnm
  go_enter Tryz.func38,Tryz.ntmps38
  go_wp2_with fail
  go_loopw [5] (fun vi wr=>∃ k:Nat,vi=.int .i64 (k:Int)∧k≤n∧Hid (∀ j,j < k→aM L j=aM M j)∧Hid (Ext w wr)) (fun i _=>n - (intOf i).toNat)
  case atStart=>exact ⟨0,rfl,Nat.zero_le _,zh (fun j hj=>absurd hj (Nat.not_lt_zero _)),zh (Ext.refl w)⟩
  case round =>
   obtain ⟨k,rfl,hk,HN,HXW⟩:=hrel
   by_cases hlt:k < n
   ·have i0 : (0 : Int) ≤ (k : Int) := by omega
    have i1:(k:Int) < (n:Int):=by omega
    obtain ⟨d,hd⟩:∃ d,aM L k=d:=⟨_,rfl⟩
    obtain ⟨d2,hd2⟩:∃ d,aM M k=d:=⟨_,rfl⟩
    obtain ⟨b,o,hab,hrow,-⟩:=HS.out.at (by omega)
    obtain ⟨b2,o2,hab2,hrow2,-⟩:=HM.out.at (by omega)
    subst hab
    subst hab2
    have HR1:=zh (fun (V:World) (e:Ext w V)=>show V.rangeAt b (o+k * 8) (RowT.enc d) from by
     rw [← hd]
     obtain ⟨b9,o9,e2,hr2,-⟩:=(HS.out.ext e).at (by omega)
     injection e2 with e3
     injection e3 with e4 e5
     subst e4
     subst e5
     exact cP (k:=k) hr2 (by rw [HS.out.len];exact hlt))
    have HR2:=zh (fun (V:World) (e:Ext w V)=>show V.rangeAt b2 (o2+k * 8) (RowT.enc d2) from by
     rw [← hd2]
     obtain ⟨b9,o9,e2,hr2,-⟩:=(HM.out.ext e).at (by omega)
     injection e2 with e3
     injection e3 with e4 e5
     subst e4
     subst e5
     exact cP (k:=k) hr2 (by rw [HM.out.len];exact hlt))
    have HNE:=zh (fun W=>tP d d2 W)
    obtain ⟨ne,hne⟩:∃ ne,(!decide (d=d2))=ne:=⟨_,rfl⟩
    rw [hne] at HNE
    have HDK:=zh (show (!decide (aM L k=aM M k))=ne from by rw [hd,hd2];exact hne)
    clear hrow hrow2 hd hd2 hne
    go_upto_region 6 with fail
    refine wp_region_held_drew (S:=fun V=>Ext w V) (by kernel_rfl) (HXW.out.trans ((Ext.refl _).drew')) (fun aA=>?_)
    refine zzr [0,1,2] ?_
    refine zu 3 (v:=.agg (nmc d)) aA ?_ (hy:=by exact aG nmP (by rfl) (.tmp 19) rfl b (o+k * 8) rfl d _ rfl (fun V h=>HR1.out V h))
    refine zzr [4,5,6] ?_
    refine zu 7 (v:=.agg (nmc d2)) aA ?_ (hy:=by exact aG nmP (by rfl) (.tmp 23) rfl b2 (o2+k * 8) rfl d2 _ rfl (fun V h=>HR2.out V h))
    refine zu 8 (v:=.bool ne) aA ?_ (hy:=by exact cK (by rfl) (.tmp 20) (.tmp 24) (by rfl) (vx:=.agg (nmc d)) (vy:=.agg (nmc d2)) (by rfl) (by rfl) (fZ _ _ _ _ _) HNE.out)
    refine wpAnyH_done (by kernel_rfl) ?_ _
    have HXN:=zh aA
    clear aA
    cases ne
    ·go_wp2_with fail
     go_roundw
     case rel=>exact ⟨k+1,by go_num,hlt,zh (fun j hj=>by
      rcases (by omega:j < k ∨ j=k) with hj | rfl
      ·exact HN.out j hj
      have h9:=HDK.out
      simpa using h9),HXN⟩
     case measure=>simp [intOf];omega
    have HF:=zh (show decide (L=M)=false from decide_eq_false (fun e=>by
     have h9:=HDK.out
     rw [e] at h9
     simp at h9))
    go_wp2_with fail
    go_ret
    exact ⟨by rw [HF.out];rfl,HXN.out⟩
   obtain rfl:n=k:=by omega
   have i1:¬ (n:Int) < (n:Int):=by omega
   have HF:=zh (show decide (L=M)=true from decide_eq_true (qI (by rw [HS.out.len,HM.out.len]) (fun j hj=>HN.out j (by rw [← HS.out.len];exact hj))))
   go_wp2_with fail
   go_ret
   exact ⟨by rw [HF.out];rfl,HXW.out⟩
 have HF:=zh (show decide (L=M)=false from decide_eq_false (fun e=>hnm (by have h1:=HS.out.len;have h2:=HM.out.len;rw [e] at h1;omega)))
 have i1:((n:Int) != (m:Int))=true:=bne_iff_ne.2 (by omega)
 go_enter Tryz.func38,Tryz.ntmps38
 go_wp2_with fail
 go_ret
 exact ⟨by rw [HF.out];rfl,Ext.refl w⟩
theorem wQ (A1:Option Addr) (n c1:Nat) (L:List Int) (A2:Option Addr) (m c2:Nat) (M:List Int) (w:World) (hL:SlG w A1 n c1 L) (hM:SlG w A2 m c2 M):Calls Tryz.prog 37 #[.slice A1 n c1,.slice A2 m c2] w fun e w'=>e=.returned (.bool (decide (L=M)))∧Ext w w':=by
 have HS:=zh hL
 have HM:=zh hM
 have hle:=hL.le
 have hcap:=hL.cap
 have hle2:=hM.le
 have hcap2:=hM.cap
 clear hL hM
 by_cases hnm:n=m
 ·subst hnm
  go_enter Tryz.func37,Tryz.ntmps37
  go_wp2_with fail
  go_loopw [5] (fun vi wr=>∃ k:Nat,vi=.int .i64 (k:Int)∧k≤n∧Hid (∀ j,j < k→aM L j=aM M j)∧Hid (Ext w wr)) (fun i _=>n - (intOf i).toNat)
  case atStart=>exact ⟨0,rfl,Nat.zero_le _,zh (fun j hj=>absurd hj (Nat.not_lt_zero _)),zh (Ext.refl w)⟩
  case round =>
   obtain ⟨k,rfl,hk,HN,HXW⟩:=hrel
   by_cases hlt:k < n
   ·have i0 : (0 : Int) ≤ (k : Int) := by omega
    have i1:(k:Int) < (n:Int):=by omega
    obtain ⟨d,hd⟩:∃ d,aM L k=d:=⟨_,rfl⟩
    obtain ⟨d2,hd2⟩:∃ d,aM M k=d:=⟨_,rfl⟩
    obtain ⟨b,o,hab,hrow,-⟩:=HS.out.at (by omega)
    obtain ⟨b2,o2,hab2,hrow2,-⟩:=HM.out.at (by omega)
    subst hab
    subst hab2
    have HR1:=zh (fun (V:World) (e:Ext w V)=>show V.cell? ⟨b,o+k,none⟩=some (.int .i64 d) from by
     rw [← hd]
     obtain ⟨b9,o9,e2,hr2,-⟩:=(HS.out.ext e).at (by omega)
     injection e2 with e3
     injection e3 with e4 e5
     subst e4
     subst e5
     have h5:V.rangeAt _ (_+k * 1) _:=cP (k:=k) hr2 (by rw [HS.out.len];exact hlt)
     have h7:=h5 0 _ rfl
     rwa [show ∀ z:Nat,z+k * 1+0=z+k from fun z=>by omega] at h7)
    have HR2:=zh (fun (V:World) (e:Ext w V)=>show V.cell? ⟨b2,o2+k,none⟩=some (.int .i64 d2) from by
     rw [← hd2]
     obtain ⟨b9,o9,e2,hr2,-⟩:=(HM.out.ext e).at (by omega)
     injection e2 with e3
     injection e3 with e4 e5
     subst e4
     subst e5
     have h5:V.rangeAt _ (_+k * 1) _:=cP (k:=k) hr2 (by rw [HM.out.len];exact hlt)
     have h7:=h5 0 _ rfl
     rwa [show ∀ z:Nat,z+k * 1+0=z+k from fun z=>by omega] at h7)
    obtain ⟨ne,hne⟩:∃ ne:Bool,(d != d2)=ne:=⟨_,rfl⟩
    have HDK:=zh (show (aM L k != aM M k)=ne from by rw [hd,hd2];exact hne)
    clear hrow hrow2 hd hd2
    go_upto_region 6 with fail
    refine wp_region_held_drew (S:=fun V=>Ext w V) (by kernel_rfl) (HXW.out.trans ((Ext.refl _).drew')) (fun aA=>?_)
    refine zz0 [0,1,2,3,4,5,6,7,8] ?_;repeat first | refine zz1 ?_ (hy:=by intro W aI;have z1:=HR1.out W aI;have z2:=HR2.out W aI;go_simp <;> with_reducible rfl) | refine zz2 ?_ | refine zz9 ?_
    refine wpAnyH_done (by kernel_rfl) ?_ _
    have HXN:=zh aA
    clear aA
    cases ne
    ·go_wp2_with fail
     go_roundw
     case rel=>exact ⟨k+1,by go_num,hlt,zh (fun j hj=>by
      rcases (by omega:j < k ∨ j=k) with hj | rfl
      ·exact HN.out j hj
      have h9:=HDK.out
      simpa using h9),HXN⟩
     case measure=>simp [intOf];omega
    have HF:=zh (show decide (L=M)=false from decide_eq_false (fun e=>by
     have h9:=HDK.out
     rw [e] at h9
     simp at h9))
    go_wp2_with fail
    go_ret
    exact ⟨by rw [HF.out];rfl,HXN.out⟩
   obtain rfl:n=k:=by omega
   have i1:¬ (n:Int) < (n:Int):=by omega
   have HF:=zh (show decide (L=M)=true from decide_eq_true (qI (by rw [HS.out.len,HM.out.len]) (fun j hj=>HN.out j (by rw [← HS.out.len];exact hj))))
   go_wp2_with fail
   go_ret
   exact ⟨by rw [HF.out];rfl,HXW.out⟩
 have HF:=zh (show decide (L=M)=false from decide_eq_false (fun e=>hnm (by have h1:=HS.out.len;have h2:=HM.out.len;rw [e] at h1;omega)))
 have i1:((n:Int) != (m:Int))=true:=bne_iff_ne.2 (by omega)
 go_enter Tryz.func37,Tryz.ntmps37
 go_wp2_with fail
 go_ret
 exact ⟨by rw [HF.out];rfl,Ext.refl w⟩
section
variable {P:Program} {t e:TypeId} {z:Value} {size bytes:Nat}
theorem aFQ (w:World) (e:TypeId) (size:Nat):(w.alloc (.cells #[] e)).ownsRow w.heap.size e size (.slice (some ⟨w.heap.size,0,none⟩) 0 0) 0 [] :=
 ⟨by simp,.inr ⟨w.heap.size,0,#[],rfl,Nat.le_refl _,heap_alloc_new w _,Nat.le_refl _,Nat.zero_le _,by simp,by simp⟩⟩
theorem aFK (E:Elem P t e z size bytes) (ty:TypeId) (w:World) (base:Nat) (A:Option Addr) (hown:w.ownsRow base e size (.slice A 0 0) 0 [])
  (A2:Option Addr) (m c2:Nat) (ys:List Value) (hr:Rd w A2 ys) (hl:ys.length=m * size) (h1:∀ u ∈ ys,u.oneCell'=true)
  (hb:m * bytes≤140737488355328) (h63:m≤4611686018427387904) (hbase:base≤w.heap.size) :
  ∃ A' c' w',(Builtin.append_ #[t,t] ty #[.slice A 0 0,.slice A2 m c2]).run P w=.ok (.slice A' m c') w'∧w'.ownsRow base e size (.slice A' m c') m ys∧Ext w w':=by
 rcases Nat.eq_zero_or_pos m with rfl | hm
 ·have hy : ys = [] := List.eq_nil_of_length_eq_zero (by rw [hl]; exact Nat.zero_mul _)
  subst hy
  obtain ⟨i,hi,hz,hs,hby⟩:=E.get
  refine ⟨A,0,w,?_,hown,Ext.refl w⟩
  cases A <;> cases A2 <;> simp [Builtin.append_,run_underlying E.ut,sizeOf,typeInfo,hi,Builtin.lenOf,Builtin.firstCells,storeCells,loadCells,loadCellsFrom]
 obtain ⟨A',c',w',h2,h3,h4⟩:=aAQ E ty w A 0 [] .nil (by simp) A2 m c2 ys hr hl hm (by simpa using hb) (by omega)
 simp only [Nat.zero_add,List.nil_append] at h2 h3
 exact ⟨A',c',w',h2,bC h3 hbase,h4⟩
variable {ops:Array Oper} {rest:List Oper} {o:Oper} {a:Act} {w:World} {K:Act→World→Prop} {Q:Exit→Act→World→Prop} {X:Prop}
theorem oX (E:Elem P t e z size bytes) (s x:Operand)
  (ho:o.op=.call { callee:=.builtin .append,args:=#[s,x],argTypes:=#[t,t] })
  (base:Nat) (A:Option Addr) (hs:a.eval s=.slice A 0 0) (hown:w.ownsRow base e size (.slice A 0 0) 0 [])
  (A2:Option Addr) (m c2:Nat) (ys:List Value) (hx:a.eval x=.slice A2 m c2) (hr:Rd w A2 ys) (hl:ys.length=m * size) (h1:∀ u ∈ ys,u.oneCell'=true)
  (hb:m * bytes≤140737488355328) (h63:m≤4611686018427387904) (hbase:base≤w.heap.size)
  (h:∀ A' c' w',w'.ownsRow base e size (.slice A' m c') m ys→Ext w w'→K (a.put o.dst (.slice A' m c')) w'):o.wp P a w K Q:=by
 obtain ⟨A',c',w',hrun,h2,h3⟩:=aFK E o.type w base A hown A2 m c2 ys hr hl h1 hb h63 hbase
 unfold Oper.wp execOp
 simp only [ho,resolve,invoke,builtin,Sem.run_bind,Sem.run_pure,Result.andThen_ok,List.map_toArray,List.map_cons,List.map_nil,hs,hx,hrun]
 exact h A' c' w' h2 h3
theorem gH (E:Elem P t e z size bytes) (hgd:o.guard=none) (s x:Operand)
  (ho:o.op=.call { callee:=.builtin .append,args:=#[s,x],argTypes:=#[t,t] })
  (base:Nat) (A:Option Addr) (hs:a.eval s=.slice A 0 0) (hown:w.ownsRow base e size (.slice A 0 0) 0 [])
  (A2:Option Addr) (m c2:Nat) (ys:List Value) (hx:a.eval x=.slice A2 m c2) (hr:Rd w A2 ys) (hl:ys.length=m * size) (h1:∀ u ∈ ys,u.oneCell'=true)
  (hb:m * bytes≤140737488355328) (h63:m≤4611686018427387904) (hbase:base≤w.heap.size)
  (h:∀ A' c' w',w'.ownsRow base e size (.slice A' m c') m ys→Ext w w'→wpList P ops Q rest (a.put o.dst (.slice A' m c')) w'):wpList P ops Q (o :: rest) a w :=
 wpList_plain hgd fun K hK=>oX E s x ho base A hs hown A2 m c2 ys hx hr hl h1 hb h63 hbase fun A' c' w' h2 h3=>hK _ _ (h A' c' w' h2 h3)
theorem sZ {ty:TypeId} (ho:o.op=.buildSlice ty 0 #[]) (hr:∀ w,(Instr.buildSlice ty 0 #[]).run P w=.ok (.slice (some ⟨w.heap.size,0,none⟩) 0 0) (w.alloc (.cells #[] e)))
  (h:∀ A W2,Hid (W2.ownsRow w.heap.size e size (.slice A 0 0) 0 []∧Ext w W2)→K (a.put o.dst (.slice A 0 0)) W2):o.wp P a w K Q:=by
 have:=h _ _ (zh ⟨aFQ w e size,(Ext.refl w).alloc' _⟩)
 unfold Oper.wp execOp
 simp only [ho,List.map_toArray,List.map_nil,Sem.run_bind,hr,Result.andThen_ok,Sem.run_pure]
 exact this
theorem iF (hgd:o.guard=none) {ty:TypeId} (ho:o.op=.buildSlice ty 0 #[]) (hr:∀ w,(Instr.buildSlice ty 0 #[]).run P w=.ok (.slice (some ⟨w.heap.size,0,none⟩) 0 0) (w.alloc (.cells #[] e)))
  (h:∀ A W2,Hid (W2.ownsRow w.heap.size e size (.slice A 0 0) 0 []∧Ext w W2)→wpList P ops Q rest (a.put o.dst (.slice A 0 0)) W2):wpList P ops Q (o :: rest) a w :=
 wpList_plain hgd fun K hK=>sZ ho hr fun A W2 h2=>hK _ _ (h A W2 h2)
end
theorem qU (w:World):(Instr.buildSlice 27 0 #[]).run Tryz.prog w=.ok (.slice (some ⟨w.heap.size,0,none⟩) 0 0) (w.alloc (.cells #[] 34)):=by kernel_rfl
theorem aEq (w:World):(Instr.buildSlice 38 0 #[]).run Tryz.prog w=.ok (.slice (some ⟨w.heap.size,0,none⟩) 0 0) (w.alloc (.cells #[] 3)):=by kernel_rfl
theorem qT (w:World):(Instr.buildSlice 41 0 #[]).run Tryz.prog w=.ok (.slice (some ⟨w.heap.size,0,none⟩) 0 0) (w.alloc (.cells #[] 94)):=by kernel_rfl
theorem qS (w:World):(Instr.buildSlice 37 0 #[]).run Tryz.prog w=.ok (.slice (some ⟨w.heap.size,0,none⟩) 0 0) (w.alloc (.cells #[] 30)):=by kernel_rfl
theorem gJ (s:StR) (w:World) (h:s.ok w) (hn:s.n1≤1000000∧s.n2≤1000000∧s.n3≤1000000∧s.n4≤1000000):Calls Tryz.prog 57 #[.agg (ssA s)] w (gW w s.V):=by
 have HP:=zh (show Blk ((w.alloc (.cells (ssA s) 44)).alloc (.cells (ssA ss0) 44)).drew w.heap.size 44 (ssA s) from ((Blk.new w 44 (ssA s)).alloc _).drew)
 have HZ:=zh (show Blk ((w.alloc (.cells (ssA s) 44)).alloc (.cells (ssA ss0) 44)).drew (w.heap.size+1) 44 (ssA ss0) from Blk.drew (Blk.newAt _ _ _ _ (by simp)))
 have HEW:=zh (show Ext w ((w.alloc (.cells (ssA s) 44)).alloc (.cells (ssA ss0) 44)).drew from (((Ext.refl w).alloc' _).alloc' _).drew')
 have HO:=zh h
 have HNN:=zh hn
 clear h hn
 go_enter Tryz.func57,Tryz.ntmps57
 go_wp2_with fail
 refine wp_region_held_drew (S:=fun W=>Blk W w.heap.size 44 (ssA s)∧(∃ z,Blk W (w.heap.size+1) 44 (ssA z))∧Ext w W) (by kernel_rfl) (⟨HP.out,⟨ss0,HZ.out⟩,HEW.out⟩) (fun aA=>?_)
 refine zz0 [1,2,5,6,9,10,13,14,16,17] ?_;repeat first | refine zz1 ?_ (hy:=by intro W aI;obtain ⟨c0,c1,c2,c3,c4⟩:=aE aI.1;go_simp <;> with_reducible rfl) | refine zz2 ?_ | refine zz9 ?_
 refine zzj (VV 0 (fun v W=>∃ A,v=.slice A 0 0∧W.ownsRow w.heap.size 34 11 (.slice A 0 0) 0 []) (VV 3 (fun v W=>∃ A c,v=.slice A s.n1 c∧W.ownsRow w.heap.size 34 11 (.slice A s.n1 c) s.n1 (gcs s.C)) (VV 4 (fun v W=>∃ A,v=.slice A 0 0∧W.ownsRow w.heap.size 3 1 (.slice A 0 0) 0 []) (VV 7 (fun v W=>∃ A c,v=.slice A s.n2 c∧W.ownsRow w.heap.size 3 1 (.slice A s.n2 c) s.n2 (gcs s.Q)) (VV 8 (fun v W=>∃ A,v=.slice A 0 0∧W.ownsRow w.heap.size 94 19 (.slice A 0 0) 0 []) (VV 11 (fun v W=>∃ A c,v=.slice A s.n3 c∧W.ownsRow w.heap.size 94 19 (.slice A s.n3 c) s.n3 (gcs s.K)) (VV 12 (fun v W=>∃ A,v=.slice A 0 0∧W.ownsRow w.heap.size 30 8 (.slice A 0 0) 0 []) (VV 15 (fun v W=>∃ A c,v=.slice A s.n4 c∧W.ownsRow w.heap.size 30 8 (.slice A s.n4 c) s.n4 (gcs s.P)) VN)))))))) [(0,some 3),(3,some 6),(4,some 7),(7,some 10),(8,some 11),(11,some 14),(12,some 15),(15,some 18)] 2 (fun W W' h e=>⟨h.1.ext e,(by obtain ⟨z,hz⟩:=h.2.1;exact ⟨z,hz.ext e⟩),h.2.2.trans e⟩) (VV.ext (fun v w w' ⟨A,h1,h2⟩ e=>⟨A,h1,aU h2 e⟩) (VV.ext (fun v w w' ⟨A,c,h1,h2⟩ e=>⟨A,c,h1,aU h2 e⟩) (VV.ext (fun v w w' ⟨A,h1,h2⟩ e=>⟨A,h1,aU h2 e⟩) (VV.ext (fun v w w' ⟨A,c,h1,h2⟩ e=>⟨A,c,h1,aU h2 e⟩) (VV.ext (fun v w w' ⟨A,h1,h2⟩ e=>⟨A,h1,aU h2 e⟩) (VV.ext (fun v w w' ⟨A,c,h1,h2⟩ e=>⟨A,c,h1,aU h2 e⟩) (VV.ext (fun v w w' ⟨A,h1,h2⟩ e=>⟨A,h1,aU h2 e⟩) (VV.ext (fun v w w' ⟨A,c,h1,h2⟩ e=>⟨A,c,h1,aU h2 e⟩) VN.ext)))))))) (zzc ?_ (zzc ?_ (zzc ?_ (zzc ?_ (zzc ?_ (zzc ?_ (zzc ?_ (zzc ?_ zzn)))))))) ?_
 ·refine zzp fun W hE hS K hK => ?_
  refine sZ (size:=11) rfl qU ?_
  intro A5 W5 h5
  exact zzK (hK.out (.slice A5 0 0) _ (h5.out.2) (⟨A5,rfl,bC h5.out.1 hS.2.2.size⟩))
 ·refine zm [(0, some 3)] fun env W hE hS hD K hK => ?_
  obtain ⟨h0,-⟩:=zzV hD
  clear hD
  simp only [aJ] at hK ⊢
  generalize env 0=x0 at h0 hK ⊢
  obtain ⟨A7,rfl,ho7⟩:=h0
  have hs7:=(HO.out.ext hS.2.2).s1
  have hl7:(gcs s.C).length=s.n1 * 11:=by rw [aH,hs7.len];rfl
  refine oX deE (.tmp 3) (.tmp 5) rfl w.heap.size A7 rfl ho7 s.A1 s.n1 s.c1 (gcs s.C) rfl hs7.rd hl7 (bF _) (by have:=HNN.out;omega) (by have:=HNN.out;omega) hS.2.2.size ?_
  intro A5 c5 w5 ho5 he5
  exact zzK (hK.out (.slice A5 s.n1 c5) _ (he5) (⟨A5,c5,rfl,ho5⟩))
 ·refine zzp fun W hE hS K hK => ?_
  refine sZ (size:=1) rfl aEq ?_
  intro A5 W5 h5
  exact zzK (hK.out (.slice A5 0 0) _ (h5.out.2) (⟨A5,rfl,bC h5.out.1 hS.2.2.size⟩))
 ·refine zm [(4, some 7)] fun env W hE hS hD K hK => ?_
  obtain ⟨h4,-⟩:=zzV hD
  clear hD
  simp only [aJ] at hK ⊢
  generalize env 4=x4 at h4 hK ⊢
  obtain ⟨A7,rfl,ho7⟩:=h4
  have hs7:=(HO.out.ext hS.2.2).s2
  have hl7:(gcs s.Q).length=s.n2 * 1:=by rw [aH,hs7.len];rfl
  refine oX inE (.tmp 7) (.tmp 9) rfl w.heap.size A7 rfl ho7 s.A2 s.n2 s.c2 (gcs s.Q) rfl hs7.rd hl7 (bF _) (by have:=HNN.out;omega) (by have:=HNN.out;omega) hS.2.2.size ?_
  intro A5 c5 w5 ho5 he5
  exact zzK (hK.out (.slice A5 s.n2 c5) _ (he5) (⟨A5,c5,rfl,ho5⟩))
 ·refine zzp fun W hE hS K hK => ?_
  refine sZ (size:=19) rfl qT ?_
  intro A5 W5 h5
  exact zzK (hK.out (.slice A5 0 0) _ (h5.out.2) (⟨A5,rfl,bC h5.out.1 hS.2.2.size⟩))
 ·refine zm [(8, some 11)] fun env W hE hS hD K hK => ?_
  obtain ⟨h8,-⟩:=zzV hD
  clear hD
  simp only [aJ] at hK ⊢
  generalize env 8=x8 at h8 hK ⊢
  obtain ⟨A7,rfl,ho7⟩:=h8
  have hs7:=(HO.out.ext hS.2.2).s3
  have hl7:(gcs s.K).length=s.n3 * 19:=by rw [aH,hs7.len];rfl
  refine oX lkE (.tmp 11) (.tmp 13) rfl w.heap.size A7 rfl ho7 s.A3 s.n3 s.c3 (gcs s.K) rfl hs7.rd hl7 (bF _) (by have:=HNN.out;omega) (by have:=HNN.out;omega) hS.2.2.size ?_
  intro A5 c5 w5 ho5 he5
  exact zzK (hK.out (.slice A5 s.n3 c5) _ (he5) (⟨A5,c5,rfl,ho5⟩))
 ·refine zzp fun W hE hS K hK => ?_
  refine sZ (size:=8) rfl qS ?_
  intro A5 W5 h5
  exact zzK (hK.out (.slice A5 0 0) _ (h5.out.2) (⟨A5,rfl,bC h5.out.1 hS.2.2.size⟩))
 ·refine zm [(12, some 15)] fun env W hE hS hD K hK => ?_
  obtain ⟨h12,-⟩:=zzV hD
  clear hD
  simp only [aJ] at hK ⊢
  generalize env 12=x12 at h12 hK ⊢
  obtain ⟨A7,rfl,ho7⟩:=h12
  have hs7:=(HO.out.ext hS.2.2).s4
  have hl7:(gcs s.P).length=s.n4 * 8:=by rw [aH,hs7.len];rfl
  refine oX cX (.tmp 15) (.tmp 17) rfl w.heap.size A7 rfl ho7 s.A4 s.n4 s.c4 (gcs s.P) rfl hs7.rd hl7 (bF _) (by have:=HNN.out;omega) (by have:=HNN.out;omega) hS.2.2.size ?_
  intro A5 c5 w5 ho5 he5
  exact zzK (hK.out (.slice A5 s.n4 c5) _ (he5) (⟨A5,c5,rfl,ho5⟩))
 intro env W hE hS hV
 obtain ⟨h0,h3,h4,h7,h8,h11,h12,h15,-⟩:=zzV hV
 clear hV
 simp only [aJ]
 generalize env 0=x0 at h0 ⊢
 generalize env 3=x3 at h3 ⊢
 generalize env 4=x4 at h4 ⊢
 generalize env 7=x7 at h7 ⊢
 generalize env 8=x8 at h8 ⊢
 generalize env 11=x11 at h11 ⊢
 generalize env 12=x12 at h12 ⊢
 generalize env 15=x15 at h15 ⊢
 obtain ⟨B1,rfl,-⟩:=h0
 obtain ⟨B2,rfl,-⟩:=h4
 obtain ⟨B3,rfl,-⟩:=h8
 obtain ⟨B4,rfl,-⟩:=h12
 obtain ⟨A1,c1,rfl,k1⟩:=h3
 obtain ⟨A2,c2,rfl,k2⟩:=h7
 obtain ⟨A3,c3,rfl,k3⟩:=h11
 obtain ⟨A4,c4,rfl,k4⟩:=h15
 have HK1:=zh k1
 have HK2:=zh k2
 have HK3:=zh k3
 have HK4:=zh k4
 clear k1 k2 k3 k4
 have aA:=hS
 refine zt 18 aA ?_
 refine za 19 (fun K hK=>?_)
 (obtain ⟨z6,hz6⟩:=aA.2.1;refine bE rfl (.tmp 2) (.tmp 21) (by rfl) (w.heap.size+1) (.agg (ssA ⟨A1,s.n1,c1,s.C,A2,s.n2,c2,s.Q,A3,s.n3,c3,s.K,A4,s.n4,c4,s.P,s.G⟩)) ⟨A1,s.n1,c1,s.C,A2,s.n2,c2,s.Q,A3,s.n3,c3,s.K,A4,s.n4,c4,s.P,s.G⟩ rfl (by rfl) (by rfl) hz6 ?_;intro W6 h6)
 refine hK.out _ _ (⟨by rw [← h6.out.1];exact aA.1.grown (aB _ _ _ _) (fun e=>by injection e;omega),⟨_,h6.out.2⟩,by rw [← h6.out.1];exact Below.setCells' aA.2.2 (by omega) _ _⟩) (fun aA=>?_)
 clear hK K
 try simp only [bH]
 refine wpAnyH_done (by kernel_rfl) ?_ _
 have hst:=h6.out.2
 have HOW:=zh (show OwnS W6 w.heap.size ⟨A1,s.n1,c1,s.C,A2,s.n2,c2,s.Q,A3,s.n3,c3,s.K,A4,s.n4,c4,s.P,s.G⟩ from by
  refine OwnS.kept (X:=w.heap.size+1) ⟨HK1.out,HK2.out,HK3.out,HK4.out,HO.out.s1.ok,HO.out.s2.ok,HO.out.s3.ok,HO.out.g⟩ (by rw [← h6.out.1];exact aB _ _ _ _) hz6 (by decide) (by decide) (by decide) (by decide))
 have HX:=zh aA.2.2
 clear h6 hz6 hS hE aA
 go_wp2_with fail
 exact bodyPost_ret (v:=.agg (ssA ⟨A1,s.n1,c1,s.C,A2,s.n2,c2,s.Q,A3,s.n3,c3,s.K,A4,s.n4,c4,s.P,s.G⟩)) (eI rfl _ _ (w.heap.size+1) _ rfl (run_loadVar_row _ _ _ _ _ (0,0) _ hst Tryz.underlying44 rfl (by kernel_rfl))) rfl ⟨_,rfl,HOW.out,rfl,HX.out⟩
end
end Go.Proofs.YtohmmcahpakokaaGreat
