/- The reference's SameDeltas, SameNames, SameInts. -/
import Derived.Shelf.SlSortCmp.WholeK
import Derived.Shelf.SlSortCmp.NoneTotal
import Derived.Test.YtohmmcahpakokaaGreatK29
import Derived.Test.YtohmmcahpakokaaGreatK34
import Derived.Test.YtohmmcahpakokaaGreatK36
set_option maxRecDepth 100000
set_option maxHeartbeats 8000000
set_option linter.unusedSectionVars false
set_option linter.unusedVariables false
set_option linter.unusedSimpArgs false
namespace Go.Proofs.YtohmmcahpakokaaGreat
open Go.RowKit
attribute [local go_sem ↓] Go.wp_at_zero Go.wp_at_succ
theorem eq_nthG {α:Type} [RowT α]:∀ {L M:List α},L.length=M.length→(∀ j,j < L.length→nthG L j=nthG M j)→L=M
 | [],[],_,_=>rfl
 | [],_ :: _,h,_=>by simp at h
 | _ :: _,[],h,_=>by simp at h
 | x :: r,y :: q,h,hj=>by
  have h0:x=y:=hj 0 (by simp)
  rw [h0,eq_nthG (L:=r) (M:=q) (by simpa using h) (fun j hl=>hj (j+1) (by simpa using hl))]
theorem rSameDeltas_any (A1:Option Addr) (n c1:Nat) (L:List DeR) (A2:Option Addr) (m c2:Nat) (M:List DeR) (w:World) (hL:SlG w A1 n c1 L) (hM:SlG w A2 m c2 M):Calls Tryz.prog 14 #[.slice A1 n c1,.slice A2 m c2] w fun e w'=>e=.returned (.bool (decide (L=M)))∧Ext w w':=by
 have HS:=zh hL
 have HM:=zh hM
 have hle:=hL.le
 have hcap:=hL.cap
 have hle2:=hM.le
 have hcap2:=hM.cap
 clear hL hM
 by_cases hnm:n=m
 ·subst hnm
  go_enter Tryz.func14,Tryz.ntmps14
  go_wp2_with fail
  go_loopw [5] (fun vi wr=>∃ k:Nat,vi=.int .i64 (k:Int)∧k≤n∧Hid (∀ j,j < k→nthG L j=nthG M j)∧Hid (Ext w wr)) (fun i _=>n - (intOf i).toNat)
  case atStart=>exact ⟨0,rfl,Nat.zero_le _,zh (fun j hj=>absurd hj (Nat.not_lt_zero _)),zh (Ext.refl w)⟩
  case round =>
   obtain ⟨k,rfl,hk,HN,HXW⟩:=hrel
   by_cases hlt:k < n
   ·have i0 : (0 : Int) ≤ (k : Int) := by omega
    have i1:(k:Int) < (n:Int):=by omega
    obtain ⟨d,hd⟩:∃ d,nthG L k=d:=⟨_,rfl⟩
    obtain ⟨d2,hd2⟩:∃ d,nthG M k=d:=⟨_,rfl⟩
    have hw1:deW d:=by rw [← hd];exact HS.out.nth hlt
    have hw2:deW d2:=by rw [← hd2];exact HM.out.nth hlt
    obtain ⟨b,o,hab,hrow,-⟩:=HS.out.at (by omega)
    obtain ⟨b2,o2,hab2,hrow2,-⟩:=HM.out.at (by omega)
    subst hab
    subst hab2
    have HR1:=zh (fun (V:World) (e:Ext w V)=>show V.rangeAt b (o+k * 11) (RowT.enc d) from by
     rw [← hd]
     obtain ⟨b9,o9,e2,hr2,-⟩:=(HS.out.ext e).at (by omega)
     injection e2 with e3
     injection e3 with e4 e5
     subst e4
     subst e5
     exact el_at (k:=k) hr2 (by rw [HS.out.len];exact hlt))
    have HR2:=zh (fun (V:World) (e:Ext w V)=>show V.rangeAt b2 (o2+k * 11) (RowT.enc d2) from by
     rw [← hd2]
     obtain ⟨b9,o9,e2,hr2,-⟩:=(HM.out.ext e).at (by omega)
     injection e2 with e3
     injection e3 with e4 e5
     subst e4
     subst e5
     exact el_at (k:=k) hr2 (by rw [HM.out.len];exact hlt))
    have HNE:=zh (fun W=>run_neqDe d d2 hw1 hw2 W)
    obtain ⟨ne,hne⟩:∃ ne,(!decide (d=d2))=ne:=⟨_,rfl⟩
    rw [hne] at HNE
    have HDK:=zh (show (!decide (nthG L k=nthG M k))=ne from by rw [hd,hd2];exact hne)
    clear hrow hrow2 hd hd2 hne
    go_upto_region 6 with fail
    refine wp_region_held_drew (S:=fun V=>Ext w V) (by kernel_rfl) (HXW.out.trans ((Ext.refl _).drew')) (fun hHeld=>?_)
    refine zt 0 hHeld ?_
    refine zt 1 hHeld ?_
    refine zt 2 hHeld ?_
    refine zu 3 (v:=.agg (deA d)) hHeld ?_ (hy:=by exact yields_loadG deP (by rfl) (.tmp 19) rfl b (o+k * 11) rfl d _ rfl (fun V h=>HR1.out V h))
    refine zt 4 hHeld ?_
    refine zt 5 hHeld ?_
    refine zt 6 hHeld ?_
    refine zu 7 (v:=.agg (deA d2)) hHeld ?_ (hy:=by exact yields_loadG deP (by rfl) (.tmp 23) rfl b2 (o2+k * 11) rfl d2 _ rfl (fun V h=>HR2.out V h))
    refine zu 8 (v:=.bool ne) hHeld ?_ (hy:=by exact yields_cmp (by rfl) (.tmp 20) (.tmp 24) (by rfl) (vx:=.agg (deA d)) (vy:=.agg (deA d2)) (by rfl) (by rfl) (guard_De _ _ _ _ _) HNE.out)
    refine wpAnyH_done (by kernel_rfl) ?_ _
    have HXN:=zh hHeld
    clear hHeld
    cases ne
    ·go_wp2_with fail
     go_roundw
     case rel=>exact ⟨k+1,by go_num,hlt,zh (fun j hj=>by
      rcases (by omega:j < k ∨ j=k) with hj | rfl
      ·exact HN.out j hj
      ·have h9 := HDK.out
       simpa using h9),HXN⟩
     case measure=>simp [intOf];omega
    ·have HF:=zh (show decide (L=M)=false from decide_eq_false (fun e=>by
      have h9:=HDK.out
      rw [e] at h9
      simp at h9))
     go_wp2_with fail
     go_ret
     exact ⟨by rw [HF.out];rfl,HXN.out⟩
   ·obtain rfl : n = k := by omega
    have i1:¬ (n:Int) < (n:Int):=by omega
    have HF:=zh (show decide (L=M)=true from decide_eq_true (eq_nthG (by rw [HS.out.len,HM.out.len]) (fun j hj=>HN.out j (by rw [← HS.out.len];exact hj))))
    go_wp2_with fail
    go_ret
    exact ⟨by rw [HF.out];rfl,HXW.out⟩
 ·have HF := zh (show decide (L = M) = false from decide_eq_false (fun e => hnm (by have h1 := HS.out.len; have h2 := HM.out.len; rw [e] at h1; omega)))
  have i1:((n:Int) != (m:Int))=true:=bne_iff_ne.2 (by omega)
  go_enter Tryz.func14,Tryz.ntmps14
  go_wp2_with fail
  go_ret
  exact ⟨by rw [HF.out];rfl,Ext.refl w⟩
theorem rSameNames_any (A1:Option Addr) (n c1:Nat) (L:List UInt64) (A2:Option Addr) (m c2:Nat) (M:List UInt64) (w:World) (hL:SlG w A1 n c1 L) (hM:SlG w A2 m c2 M):Calls Tryz.prog 38 #[.slice A1 n c1,.slice A2 m c2] w fun e w'=>e=.returned (.bool (decide (L=M)))∧Ext w w':=by
 have HS:=zh hL
 have HM:=zh hM
 have hle:=hL.le
 have hcap:=hL.cap
 have hle2:=hM.le
 have hcap2:=hM.cap
 clear hL hM
 by_cases hnm:n=m
 ·subst hnm
  go_enter Tryz.func38,Tryz.ntmps38
  go_wp2_with fail
  go_loopw [5] (fun vi wr=>∃ k:Nat,vi=.int .i64 (k:Int)∧k≤n∧Hid (∀ j,j < k→nthG L j=nthG M j)∧Hid (Ext w wr)) (fun i _=>n - (intOf i).toNat)
  case atStart=>exact ⟨0,rfl,Nat.zero_le _,zh (fun j hj=>absurd hj (Nat.not_lt_zero _)),zh (Ext.refl w)⟩
  case round =>
   obtain ⟨k,rfl,hk,HN,HXW⟩:=hrel
   by_cases hlt:k < n
   ·have i0 : (0 : Int) ≤ (k : Int) := by omega
    have i1:(k:Int) < (n:Int):=by omega
    obtain ⟨d,hd⟩:∃ d,nthG L k=d:=⟨_,rfl⟩
    obtain ⟨d2,hd2⟩:∃ d,nthG M k=d:=⟨_,rfl⟩
    obtain ⟨b,o,hab,hrow,-⟩:=HS.out.at (by omega)
    obtain ⟨b2,o2,hab2,hrow2,-⟩:=HM.out.at (by omega)
    subst hab
    subst hab2
    have HR1:=zh (fun (V:World) (e:Ext w V)=>show V.rangeAt b (o+k * 8) (RowT.enc d) from by
     rw [← hd]
     obtain ⟨b9,o9,e2,hr2,-⟩:=(HS.out.ext e).at (by omega)
     injection e2 with e3
     injection e3 with e4 e5
     subst e4
     subst e5
     exact el_at (k:=k) hr2 (by rw [HS.out.len];exact hlt))
    have HR2:=zh (fun (V:World) (e:Ext w V)=>show V.rangeAt b2 (o2+k * 8) (RowT.enc d2) from by
     rw [← hd2]
     obtain ⟨b9,o9,e2,hr2,-⟩:=(HM.out.ext e).at (by omega)
     injection e2 with e3
     injection e3 with e4 e5
     subst e4
     subst e5
     exact el_at (k:=k) hr2 (by rw [HM.out.len];exact hlt))
    have HNE:=zh (fun W=>run_neqN d d2 W)
    obtain ⟨ne,hne⟩:∃ ne,(!decide (d=d2))=ne:=⟨_,rfl⟩
    rw [hne] at HNE
    have HDK:=zh (show (!decide (nthG L k=nthG M k))=ne from by rw [hd,hd2];exact hne)
    clear hrow hrow2 hd hd2 hne
    go_upto_region 6 with fail
    refine wp_region_held_drew (S:=fun V=>Ext w V) (by kernel_rfl) (HXW.out.trans ((Ext.refl _).drew')) (fun hHeld=>?_)
    refine zt 0 hHeld ?_
    refine zt 1 hHeld ?_
    refine zt 2 hHeld ?_
    refine zu 3 (v:=.agg (nmc d)) hHeld ?_ (hy:=by exact yields_loadG nmP (by rfl) (.tmp 19) rfl b (o+k * 8) rfl d _ rfl (fun V h=>HR1.out V h))
    refine zt 4 hHeld ?_
    refine zt 5 hHeld ?_
    refine zt 6 hHeld ?_
    refine zu 7 (v:=.agg (nmc d2)) hHeld ?_ (hy:=by exact yields_loadG nmP (by rfl) (.tmp 23) rfl b2 (o2+k * 8) rfl d2 _ rfl (fun V h=>HR2.out V h))
    refine zu 8 (v:=.bool ne) hHeld ?_ (hy:=by exact yields_cmp (by rfl) (.tmp 20) (.tmp 24) (by rfl) (vx:=.agg (nmc d)) (vy:=.agg (nmc d2)) (by rfl) (by rfl) (guard_Nm _ _ _ _ _) HNE.out)
    refine wpAnyH_done (by kernel_rfl) ?_ _
    have HXN:=zh hHeld
    clear hHeld
    cases ne
    ·go_wp2_with fail
     go_roundw
     case rel=>exact ⟨k+1,by go_num,hlt,zh (fun j hj=>by
      rcases (by omega:j < k ∨ j=k) with hj | rfl
      ·exact HN.out j hj
      ·have h9 := HDK.out
       simpa using h9),HXN⟩
     case measure=>simp [intOf];omega
    ·have HF:=zh (show decide (L=M)=false from decide_eq_false (fun e=>by
      have h9:=HDK.out
      rw [e] at h9
      simp at h9))
     go_wp2_with fail
     go_ret
     exact ⟨by rw [HF.out];rfl,HXN.out⟩
   ·obtain rfl : n = k := by omega
    have i1:¬ (n:Int) < (n:Int):=by omega
    have HF:=zh (show decide (L=M)=true from decide_eq_true (eq_nthG (by rw [HS.out.len,HM.out.len]) (fun j hj=>HN.out j (by rw [← HS.out.len];exact hj))))
    go_wp2_with fail
    go_ret
    exact ⟨by rw [HF.out];rfl,HXW.out⟩
 ·have HF := zh (show decide (L = M) = false from decide_eq_false (fun e => hnm (by have h1 := HS.out.len; have h2 := HM.out.len; rw [e] at h1; omega)))
  have i1:((n:Int) != (m:Int))=true:=bne_iff_ne.2 (by omega)
  go_enter Tryz.func38,Tryz.ntmps38
  go_wp2_with fail
  go_ret
  exact ⟨by rw [HF.out];rfl,Ext.refl w⟩
theorem rSameInts_any (A1:Option Addr) (n c1:Nat) (L:List Int) (A2:Option Addr) (m c2:Nat) (M:List Int) (w:World) (hL:SlG w A1 n c1 L) (hM:SlG w A2 m c2 M):Calls Tryz.prog 37 #[.slice A1 n c1,.slice A2 m c2] w fun e w'=>e=.returned (.bool (decide (L=M)))∧Ext w w':=by
 have HS:=zh hL
 have HM:=zh hM
 have hle:=hL.le
 have hcap:=hL.cap
 have hle2:=hM.le
 have hcap2:=hM.cap
 clear hL hM
 by_cases hnm:n=m
 ·subst hnm
  go_enter Tryz.func37,Tryz.ntmps37
  go_wp2_with fail
  go_loopw [5] (fun vi wr=>∃ k:Nat,vi=.int .i64 (k:Int)∧k≤n∧Hid (∀ j,j < k→nthG L j=nthG M j)∧Hid (Ext w wr)) (fun i _=>n - (intOf i).toNat)
  case atStart=>exact ⟨0,rfl,Nat.zero_le _,zh (fun j hj=>absurd hj (Nat.not_lt_zero _)),zh (Ext.refl w)⟩
  case round =>
   obtain ⟨k,rfl,hk,HN,HXW⟩:=hrel
   by_cases hlt:k < n
   ·have i0 : (0 : Int) ≤ (k : Int) := by omega
    have i1:(k:Int) < (n:Int):=by omega
    obtain ⟨d,hd⟩:∃ d,nthG L k=d:=⟨_,rfl⟩
    obtain ⟨d2,hd2⟩:∃ d,nthG M k=d:=⟨_,rfl⟩
    obtain ⟨b,o,hab,hrow,-⟩:=HS.out.at (by omega)
    obtain ⟨b2,o2,hab2,hrow2,-⟩:=HM.out.at (by omega)
    subst hab
    subst hab2
    have HR1:=zh (fun (V:World) (e:Ext w V)=>show V.cell? ⟨b,o+k,none⟩=some (.int .i64 d) from by
     rw [← hd]
     obtain ⟨b9,o9,e2,hr2,-⟩:=(HS.out.ext e).at (by omega)
     injection e2 with e3
     injection e3 with e4 e5
     subst e4
     subst e5
     have h5:V.rangeAt _ (_+k * 1) _:=el_at (k:=k) hr2 (by rw [HS.out.len];exact hlt)
     have h7:=h5 0 _ rfl
     rwa [show ∀ z:Nat,z+k * 1+0=z+k from fun z=>by omega] at h7)
    have HR2:=zh (fun (V:World) (e:Ext w V)=>show V.cell? ⟨b2,o2+k,none⟩=some (.int .i64 d2) from by
     rw [← hd2]
     obtain ⟨b9,o9,e2,hr2,-⟩:=(HM.out.ext e).at (by omega)
     injection e2 with e3
     injection e3 with e4 e5
     subst e4
     subst e5
     have h5:V.rangeAt _ (_+k * 1) _:=el_at (k:=k) hr2 (by rw [HM.out.len];exact hlt)
     have h7:=h5 0 _ rfl
     rwa [show ∀ z:Nat,z+k * 1+0=z+k from fun z=>by omega] at h7)
    obtain ⟨ne,hne⟩:∃ ne:Bool,(d != d2)=ne:=⟨_,rfl⟩
    have HDK:=zh (show (nthG L k != nthG M k)=ne from by rw [hd,hd2];exact hne)
    clear hrow hrow2 hd hd2
    go_upto_region 6 with fail
    refine wp_region_held_drew (S:=fun V=>Ext w V) (by kernel_rfl) (HXW.out.trans ((Ext.refl _).drew')) (fun hHeld=>?_)
    refine zt 0 hHeld ?_
    refine zt 1 hHeld ?_
    refine zt 2 hHeld ?_
    (refine zt 3 hHeld ?_ (hy:=by intro W hSW;have z1:=HR1.out W hSW;have z2:=HR2.out W hSW;go_simp <;> with_reducible rfl))
    refine zt 4 hHeld ?_
    refine zt 5 hHeld ?_
    refine zt 6 hHeld ?_
    (refine zt 7 hHeld ?_ (hy:=by intro W hSW;have z1:=HR1.out W hSW;have z2:=HR2.out W hSW;go_simp <;> with_reducible rfl))
    refine zt 8 hHeld ?_
    refine wpAnyH_done (by kernel_rfl) ?_ _
    have HXN:=zh hHeld
    clear hHeld
    cases ne
    ·go_wp2_with fail
     go_roundw
     case rel=>exact ⟨k+1,by go_num,hlt,zh (fun j hj=>by
      rcases (by omega:j < k ∨ j=k) with hj | rfl
      ·exact HN.out j hj
      ·have h9 := HDK.out
       simpa using h9),HXN⟩
     case measure=>simp [intOf];omega
    ·have HF:=zh (show decide (L=M)=false from decide_eq_false (fun e=>by
      have h9:=HDK.out
      rw [e] at h9
      simp at h9))
     go_wp2_with fail
     go_ret
     exact ⟨by rw [HF.out];rfl,HXN.out⟩
   ·obtain rfl : n = k := by omega
    have i1:¬ (n:Int) < (n:Int):=by omega
    have HF:=zh (show decide (L=M)=true from decide_eq_true (eq_nthG (by rw [HS.out.len,HM.out.len]) (fun j hj=>HN.out j (by rw [← HS.out.len];exact hj))))
    go_wp2_with fail
    go_ret
    exact ⟨by rw [HF.out];rfl,HXW.out⟩
 ·have HF := zh (show decide (L = M) = false from decide_eq_false (fun e => hnm (by have h1 := HS.out.len; have h2 := HM.out.len; rw [e] at h1; omega)))
  have i1:((n:Int) != (m:Int))=true:=bne_iff_ne.2 (by omega)
  go_enter Tryz.func37,Tryz.ntmps37
  go_wp2_with fail
  go_ret
  exact ⟨by rw [HF.out];rfl,Ext.refl w⟩
end Go.Proofs.YtohmmcahpakokaaGreat
namespace Go.Proofs.YtohmmcahpakokaaGreat
open Go.RowKit
theorem cmpC_neg (a b:CeR):decide (cmpC a b < 0)=ltCe a b:=by
 unfold cmpC firstI ltCe ceKey
 rcases Int.lt_trichotomy a.k b.k with h | h | h
 ·rw [cmpI_lt h,if_pos (by decide),lexI,if_neg (by omega),decide_eq_true h];rfl
 ·rw [h, cmpI_eq, if_neg (by decide), lexI, if_pos rfl]
  rcases Int.lt_trichotomy a.id b.id with h2 | h2 | h2
  ·rw [cmpI_lt h2,if_pos (by decide),lexI,if_neg (by omega),decide_eq_true h2];rfl
  ·rw [h2, cmpI_eq, if_neg (by decide), lexI, if_pos rfl, lexI]
   rcases Int.lt_trichotomy (un a.lk) (un b.lk) with h3 | h3 | h3
   ·rw [cmpI_lt h3,if_neg (by omega),decide_eq_true h3];rfl
   ·rw [h3,cmpI_eq,if_pos rfl];rfl
   ·rw [cmpI_gt h3,if_neg (by omega),decide_eq_false (by omega:¬ un a.lk < un b.lk)];rfl
  ·rw [cmpI_gt h2,if_pos (by decide),lexI,if_neg (by omega),decide_eq_false (by omega:¬ a.id < b.id)];rfl
 ·rw [cmpI_gt h,if_pos (by decide),lexI,if_neg (by omega),decide_eq_false (by omega:¬ a.k < b.k)];rfl
section
variable {α:Type} [RowT α]
theorem flatK_gcs (d:Array α):Sort.flatK RowT.enc (RowT.sz α) d=(gcs d.toList).toArray:=by
 have hl:(gcs d.toList).length=d.size * RowT.sz α:=by rw [gcs_length];simp
 refine Sort.ext_get! (by simp [hl]) (fun t ht=>?_)
 have ht':t < d.size * RowT.sz α:=by simpa using ht
 rw [Sort.get_flatK _ _ _ _ ht']
 have hp:=RowT.pos (α:=α)
 have hq:t / RowT.sz α < d.size:=Nat.div_lt_of_lt_mul (by rwa [Nat.mul_comm] at ht')
 have hm:=Nat.mod_lt t hp
 have h1:=gcs_at (L:=d.toList) (k:=t / RowT.sz α) (by simpa using hq)
 rw [arr_nth,← h1]
 have hlen:(List.take (RowT.sz α) (List.drop (t / RowT.sz α * RowT.sz α) (gcs d.toList))).length=RowT.sz α:=by rw [h1,RowT.len]
 rw [getElem!_pos _ _ (by rw [hlen];exact hm),List.getElem_take,List.getElem_drop,getElem!_pos _ _ (by simp [hl];exact ht'),List.getElem_toArray]
 congr 1
 have:=Nat.div_add_mod t (RowT.sz α)
 rw [Nat.mul_comm] at this
 exact this
end
theorem grownBy_swV {w:World} {g n:Nat} {os:Array Obj} (d:Array Value):w.grownBy (sortWorld id w g 0 n d os) (some g):=by
 unfold sortWorld
 refine ⟨rfl,rfl,rfl,by simp,fun k hk hne=>?_⟩
 rw [Sort.heap_grow_old _ _ (by simpa using hk)]
 have:g ≠ k:=fun e=>hne (by rw [e])
 simp [Sort.putRow,Sort.mapBlock,Sort.ahead,Array.getElem?_modify,this]
theorem heap_swV {w:World} {g n:Nat} {os:Array Obj} {cur:Array Value} {e:TypeId} {fr:Nat × Nat} (d:Array Value) (hb:w.heap[g]?=some (.cells cur e fr)) :
  (sortWorld id w g 0 n d os).heap[g]?=some (.cells (Sort.putCells id 0 d cur) e fr):=by
 have hg:g < w.heap.size:=(Array.getElem?_eq_some_iff.1 hb).1
 unfold sortWorld
 rw [Sort.heap_grow_old _ _ (by simpa using hg)]
 simp [Sort.putRow,Sort.mapBlock,Sort.ahead,Array.getElem?_modify,hb,Sort.onCells]
theorem take_putV (cur d:Array Value) (h:d.size≤cur.size):(Sort.putCells id 0 d cur).toList.take d.size=d.toList:=by
 apply List.ext_getElem?
 intro j
 by_cases hj:j < d.size
 ·rw [List.getElem?_take_of_lt hj, Array.getElem?_toList]
  simp [Sort.putCells,hj,show j < cur.size by omega]
 ·rw [List.getElem?_take_eq_none (by omega),List.getElem?_eq_none (by simp;omega)]
theorem own_swV {w:World} {base g c n m size:Nat} {e:TypeId} {os:Array Obj} {xs:List Value} (d:Array Value) (hd:d.size=n * size) (h:w.ownsRow base e size (.slice (some ⟨g,0,none⟩) n c) n xs) :
  (sortWorld id w g 0 m d os).ownsRow base e size (.slice (some ⟨g,0,none⟩) n c) n d.toList:=by
 have hl:=h.1
 rcases h.2 with ⟨hv,_⟩ | ⟨g',cap,cur,hv,hb,hh,hn,hm,hs,ht⟩
 ·cases hv
 cases hv
 have hle:d.size≤cur.size:=by
  have:=congrArg List.length ht
  rw [List.length_take,hl] at this
  simp at this;omega
 exact ⟨by simp [hd],.inr ⟨g,c,_,rfl,hb,heap_swV d hh,hn,hm,by simp [Sort.putCells,hs],by rw [← hd];exact take_putV cur d hle⟩⟩
theorem ceSwo:Sort.SWO (ltOf cmpC):=by
 have e:ltOf cmpC=ltCe:=funext fun x=>funext fun y=>cmpC_neg x y
 rw [e]
 exact ⟨ltCe_sto.irrefl,fun x y z h1 h2=>ltCe_sto.trans _ _ _ h1 h2,fun x y z h1 h2=>ltCe_sto.ntrans h1 h2⟩
theorem ceCmp {g n size:Nat} {w:World}:CmpLays Tryz.prog 65 #[] (RowT.enc (α:=CeR)) 10 cmpC g 0 size w:=fun m os dk hs x y=>by
 have h:=GW.compareC_any x y (sortWorldK RowT.enc 10 w g 0 m dk os)
 rw [Array.append_empty,ceP.eq,ceP.eq]
 refine h.mono ?_
 rintro e w' ⟨rfl,hg⟩
 exact ⟨rfl,hg.grow⟩
theorem sortCe_any (w0 w:World) (base:Nat) (A:Option Addr) (n c:Nat) (d:Array CeR) (h:RowS w0 w base 32 A n c d) (hn:n≤1000000000) :
  Calls Tryz.prog 64 #[.slice A n c,.func (.func 65) #[] #[]] w (fun e w'=>e=.returned (.tuple #[])∧∃ d',RowS w0 w' base 32 A n c d'∧Sort.PermIn 0 n d d'∧Sort.SortedIn ltCe 0 n d'):=by
 rcases Nat.eq_zero_or_pos n with rfl | hpos
 ·refine (AnyF.slices_SortFunc_none (P := Tryz.prog) (ρ := sortCe_ren) { sortCe with } A c (.func (.func 65) #[] #[]) w).mono ?_
  rintro e w' ⟨rfl,rfl⟩
  exact ⟨rfl,d,h,Sort.permIn_refl _ _ _,fun i j _ _ hj=>absurd hj (Nat.not_lt_zero _)⟩
 obtain ⟨g,rfl,-,hr⟩:=h.at hpos
 have hsz:=h.size
 have ho:w.ownsRow base 32 10 (.slice (some ⟨g,0,none⟩) n c) n (gcs d.toList):=h.own
 have hH:Sort.HoldsK (RowT.enc (α:=CeR)) 10 w g 0 d:=fun j hj=>by
  have e1:=flatK_gcs d
  rw [show RowT.sz CeR=10 from rfl] at e1
  rw [Sort.size_flatK,hsz] at hj
  have hl:(gcs d.toList).length=n * 10:=ho.1
  refine ⟨?_,ho.frozenAt _⟩
  rw [e1,ho.cellAt (0+j) (by omega),Nat.zero_add,List.getElem?_eq_getElem (by omega),getElem!_pos _ j (by simp;omega)]
  simp
 have hlt:g < w.heap.size:=(ho.lt g rfl).2
 have eg:∀ args w,(callFunc 65 args).run Tryz.prog w=.ok (.enter 65 args) w:=enters_of Tryz.func65 (by kernel_rfl) rfl
 have hc:=AnyQ.slices_SortFunc sortCe 10 (fun w=>by kernel_rfl) (fun w=>by kernel_rfl) (RowT.enc (α:=CeR)) (RowT.len (α:=CeR)) (fun x v hv=>RowT.one x v hv) cmpC ceSwo 65 #[] g 0 c d w eg (ceCmp (n:=n)) hH hlt (by omega)
 rw [hsz] at hc
 change Calls Tryz.prog 64 _ _ _ at hc
 refine hc.mono ?_
 rintro e w' ⟨rfl,d',m,os,hp,hs,rfl⟩
 have hw:sortWorldK (RowT.enc (α:=CeR)) 10 w g 0 m d' os=sortWorld id w g 0 m (Sort.flatK RowT.enc 10 d') os:=rfl
 rw [hw]
 have hf:=flatK_gcs d'
 rw [show RowT.sz CeR=10 from rfl] at hf
 refine ⟨rfl,d',⟨?_,fun x hx=>?_,Grown.trans h.gr (grownBy_swV _),h.ne⟩,hp,fun i j h1 h2 h3=>?_⟩
 ·have := own_swV (os := os) (m := m) (Sort.flatK RowT.enc 10 d') (by rw [Sort.size_flatK, hp.1, hsz]) ho
  rw [hf] at this ⊢
  simp only [List.toList_toArray] at this ⊢
  exact this
 ·have hm:x ∈ d.toList:=by
   obtain ⟨p1,p2,p3⟩:=hp
   have e1:d'.extract 0 n=d':=by rw [← hsz,← p1];exact Array.extract_size
   have e2:d.extract 0 n=d:=by rw [← hsz];exact Array.extract_size
   rw [e1,e2] at p3
   exact p3.mem_iff.1 hx
  exact h.ow x hm
 ·have := hs i j h1 h2 h3
  unfold ltOf at this
  rwa [cmpC_neg] at this
end Go.Proofs.YtohmmcahpakokaaGreat
namespace Go.Proofs.YtohmmcahpakokaaGreat
open Go.RowKit
attribute [local go_sem ↓] Go.wp_at_zero Go.wp_at_succ
def AtOut (w:World) (C:List DeR) (c:CeR) (e:Ending) (w':World):Prop:=∃ r,e=.returned (.int .i64 r)∧IxIs (fun d:DeR=>decide (d.c=c)) C r∧Ext w w'
theorem rAt_any (s:StR) (c:CeR) (w:World) (h:s.ok w) (hc:ceW c):Calls Tryz.prog 70 #[.agg (ssA s),.agg (ceA c)] w (AtOut w s.C c):=by
 obtain ⟨W,hW⟩:∃ W,(w.alloc (.cells (ssA s) 44)).alloc (.cells (ceA c) 32)=W:=⟨_,rfl⟩
 have HB:=zh (show Blk W w.heap.size 44 (ssA s) from by rw [← hW];exact (Blk.new w 44 (ssA s)).alloc _)
 have HC:=zh (show Blk W (w.heap.size+1) 32 (ceA c) from by rw [← hW];exact Blk.newAt _ _ _ _ (by simp))
 have HE:=zh (show Ext w W from by rw [← hW];exact ((Ext.refl w).alloc' _).alloc' _)
 have HS:=zh h.s1
 have HCW:=zh hc
 have HLEN:=zh h.s1.len
 have hle:=h.s1.le
 have hcap:=h.s1.cap
 clear h hc
 go_enter Tryz.func70,Tryz.ntmps70
 go_wp2_with fail
 go_loopw [5] (fun vi wr=>∃ k:Nat,vi=.int .i64 (k:Int)∧k≤s.n1∧Hid (∀ j,j < k→decide ((nthG s.C j).c=c)=false)∧Hid (Ext W wr)) (fun i _=>s.n1 - (intOf i).toNat)
 case atStart=>exact ⟨0,rfl,Nat.zero_le _,zh (fun j hj=>absurd hj (Nat.not_lt_zero _)),zh (Ext.refl W)⟩
 case round =>
  obtain ⟨k,rfl,hk,HN,HXW⟩:=hrel
  have HB1:=zh (HB.out.ext HXW.out)
  have HC1:=zh (HC.out.ext HXW.out)
  have HX:=zh (HE.out.trans HXW.out)
  have q0:=HB1.out.cell 0
  by_cases hlt:k < s.n1
  ·have i0 : (0 : Int) ≤ (k : Int) := by omega
   have i1:(k:Int) < (s.n1:Int):=by omega
   obtain ⟨d,hd⟩:∃ d,nthG s.C k=d:=⟨_,rfl⟩
   obtain ⟨b,o,hab,hrow,-⟩:=HS.out.at (by omega)
   have HAB:=zh hab
   have HDR:=zh (fun (V:World) (e:Ext w V)=>show V.rangeAt b (o+k * 11) (RowT.enc d.c) from by
    rw [← hd]
    obtain ⟨b2,o2,e2,hr2,-⟩:=(HS.out.ext e).at (by omega)
    rw [HAB.out] at e2
    injection e2 with e3
    injection e3 with e4 e5
    subst e4
    subst e5
    have:=rangeAt_take (k:=10) (el_at (k:=k) hr2 (by rw [HLEN.out];exact hlt))
    exact this)
   have hdw:deW d:=by rw [← hd];exact HS.out.nth hlt
   have HEQ:=zh (fun W=>run_eqCe d.c c hdw.1 HCW.out W)
   obtain ⟨eq,heq⟩:∃ eq,decide (d.c=c)=eq:=⟨_,rfl⟩
   rw [heq] at HEQ
   have HDK:=zh (show decide ((nthG s.C k).c=c)=eq from by rw [hd];exact heq)
   clear hab hrow hd hdw heq
   go_upto_region 4 with fail
   clear q0
   refine wp_region_held_drew (S:=fun V=>Blk V w.heap.size 44 (ssA s)∧Blk V (w.heap.size+1) 32 (ceA c)∧Ext w V) (by kernel_rfl) (⟨HB1.out.drew,HC1.out.drew,HX.out.trans ((Ext.refl _).drew')⟩) (fun hHeld=>?_)
   refine zt 0 hHeld ?_
   (refine zt 1 hHeld ?_ (hy:=by intro W hSW;have q1:W.cell? ⟨w.heap.size,0,none⟩=some (.slice (some ⟨b,o,none⟩) s.n1 s.c1):=(by rw [← HAB.out];exact hSW.1.cell 0);go_simp <;> with_reducible rfl))
   refine zt 2 hHeld ?_
   refine zt 3 hHeld ?_
   refine zt 4 hHeld ?_
   refine zu 5 (v:=.agg (ceA d.c)) hHeld ?_ (hy:=by exact yields_loadG ceP (by rfl) (.tmp 17) rfl b (o+k * 11) rfl d.c _ rfl (fun V h=>HDR.out V h.2.2))
   refine zu 6 (v:=.agg (ceA c)) hHeld ?_ (hy:=by exact yields_loadG ceP (by rfl) (.tmp 3) rfl (w.heap.size+1) 0 rfl c _ rfl (fun V h=>rangeAt_of_blk h.2.1))
   refine zu 7 (v:=.bool eq) hHeld ?_ (hy:=by exact yields_cmp (by rfl) (.tmp 18) (.tmp 19) (by rfl) (vx:=.agg (ceA d.c)) (vy:=.agg (ceA c)) (by rfl) (by rfl) (guard_Ce _ _ _ _ _) HEQ.out)
   refine wpAnyH_done (by kernel_rfl) ?_ _
   have HXN:=zh (HXW.out.trans ((Ext.refl _).drew'))
   have HXX:=zh (HX.out.trans ((Ext.refl _).drew'))
   clear hHeld
   cases eq
   ·go_wp2_with fail
    go_roundw
    case rel=>exact ⟨k+1,by go_num,hlt,zh (fun j hj=>by
     rcases (by omega:j < k ∨ j=k) with hj | rfl
     ·exact HN.out j hj
     ·exact HDK.out),HXN⟩
    case measure=>simp [intOf];omega
   ·go_wp2_with fail
    go_ret
    exact ⟨_,rfl,.inr ⟨k,rfl,by rw [HLEN.out];exact hlt,HDK.out,HN.out⟩,HXX.out⟩
  ·obtain rfl : s.n1 = k := by omega
   have i1:¬ (s.n1:Int) < (s.n1:Int):=by omega
   go_wp2_with fail
   go_ret
   exact ⟨_,rfl,.inl ⟨rfl,fun j hj=>HN.out j (by rw [← HLEN.out];exact hj)⟩,HX.out⟩
theorem rGet_any (s:StR) (c:CeR) (w:World) (h:s.ok w) (hc:ceW c):Calls Tryz.prog 30 #[.agg (ssA s),.agg (ceA c)] w fun e w'=>e=.returned (.int .i64 (getC s.C c))∧Ext w w':=by
 obtain ⟨W,hW⟩:∃ W,(w.alloc (.cells (ssA s) 44)).alloc (.cells (ceA c) 32)=W:=⟨_,rfl⟩
 have HB:=zh (show Blk W w.heap.size 44 (ssA s) from by rw [← hW];exact (Blk.new w 44 (ssA s)).alloc _)
 have HC:=zh (show Blk W (w.heap.size+1) 32 (ceA c) from by rw [← hW];exact Blk.newAt _ _ _ _ (by simp))
 have HE:=zh (show Ext w W from by rw [← hW];exact ((Ext.refl w).alloc' _).alloc' _)
 have HS:=zh h
 have HCW:=zh hc
 have hle:=h.s1.le
 have hcap:=h.s1.cap
 have rc:W.rangeAt (w.heap.size+1) 0 (RowT.enc c):=rangeAt_of_blk HC.out
 obtain ⟨q0,q1,q2,q3,q4⟩:=ss_facts HB.out
 clear h hc
 go_enter Tryz.func30,Tryz.ntmps30
 go_wp2_with (first | (with_reducible refine wpList_loadG ceP rfl (.tmp 3) rfl (w.heap.size+1) 0 rfl c _ rfl rc ?_) | fail "A")
 refine (rAt_any s c W (HS.out.ext HE.out) HCW.out).mono ?_
 rintro e w5 ⟨r,rfl,hr,he5⟩
 have HX5:=zh (HE.out.trans he5)
 rcases hr with ⟨rfl,hno⟩ | ⟨k,rfl,hk,h1,h2⟩
 ·have HG := zh (show getC s.C c = 0 from getC_of (fd_none hno))
  clear he5 q0 q1 q2 q3 q4 rc hno
  go_wp2_with fail
  go_ret
  exact ⟨by rw [HG.out];rfl,HX5.out⟩
 ·have HG := zh (show getC s.C c = (nthG s.C k).a from getC_of (fd_some hk h1 h2))
  have hkn:k < s.n1:=by rw [← HS.out.s1.len];exact hk
  have i0:¬ (k:Int) < 0:=by omega
  have i2:(0:Int)≤(k:Int):=by omega
  have i1:(k:Int) < (s.n1:Int):=by omega
  obtain ⟨b,o,hab,hcell⟩:=get_cell (HS.out.ext HX5.out).s1 hkn
  have p0:w5.cell? ⟨w.heap.size,0,none⟩=some (.slice (some ⟨b,o,none⟩) s.n1 s.c1):=by rw [← hab];exact (HB.out.ext he5).cell 0
  clear he5 q0 q1 q2 q3 q4 rc hk h1 h2 hab
  go_wp2_with fail
  go_ret
  exact ⟨by rw [HG.out];rfl,HX5.out⟩
theorem tot_take {C:List DeR} {k:Nat} (hk:k < C.length):wrap64 (totC (C.take k)+(nthG C k).a)=totC (C.take (k+1)):=by
 rw [← wrapE]
 show wr (wr (sumC (C.take k))+(nthG C k).a)=wr (sumC (C.take (k+1)))
 rw [wr_add,take_nthG hk,sum_append]
 unfold sumC
 simp
end Go.Proofs.YtohmmcahpakokaaGreat
