/- slices.SortFunc of cells by state.Compare, out of the kit's proved sort. -/
import Derived.Test.YtohmmcahpakokaaGreatD40
set_option maxRecDepth 100000
set_option maxHeartbeats 8000000
set_option linter.unusedSectionVars false
set_option linter.unusedVariables false
set_option linter.unusedSimpArgs false
namespace Go.Proofs.YtohmmcahpakokaaGreat
section
open Go.RowKit
theorem cmpC_neg (a b:CeR):decide (cmpC a b < 0)=ltCe a b:=by
 unfold cmpC firstI ltCe ceKey
 rcases Int.lt_trichotomy a.k b.k with h | h | h
 ·rw [cmpI_lt h,if_pos (by decide),lexI,if_neg (by omega),decide_eq_true h];rfl
 ·rw [h, cmpI_eq, if_neg (by decide), lexI, if_pos rfl]
  rcases Int.lt_trichotomy a.id b.id with h2 | h2 | h2
  ·rw [cmpI_lt h2,if_pos (by decide),lexI,if_neg (by omega),decide_eq_true h2];rfl
  ·rw [h2, cmpI_eq, if_neg (by decide), lexI, if_pos rfl, lexI]
   rcases Int.lt_trichotomy (un a.lk) (un b.lk) with h3 | h3 | h3
   ·rw [cmpI_lt h3,if_neg (by omega),decide_eq_true h3];rfl
   ·rw [h3,cmpI_eq,if_pos rfl];rfl
   rw [cmpI_gt h3,if_neg (by omega),decide_eq_false (by omega:¬ un a.lk < un b.lk)];rfl
  rw [cmpI_gt h2,if_pos (by decide),lexI,if_neg (by omega),decide_eq_false (by omega:¬ a.id < b.id)];rfl
 rw [cmpI_gt h,if_pos (by decide),lexI,if_neg (by omega),decide_eq_false (by omega:¬ a.k < b.k)];rfl
section
variable {α:Type} [RowT α]
theorem flatK_gcs (d:Array α):Sort.flatK RowT.enc (RowT.sz α) d=(gcs d.toList).toArray:=by
 have hl:(gcs d.toList).length=d.size * RowT.sz α:=by rw [gL];simp
 refine Sort.ext_get! (by simp [hl]) (fun t ht=>?_)
 have ht':t < d.size * RowT.sz α:=by simpa using ht
 rw [Sort.get_flatK _ _ _ _ ht']
 have hp:=RowT.pos (α:=α)
 have hq:t / RowT.sz α < d.size:=Nat.div_lt_of_lt_mul (by rwa [Nat.mul_comm] at ht')
 have hm:=Nat.mod_lt t hp
 have h1:=gcs_at (L:=d.toList) (k:=t / RowT.sz α) (by simpa using hq)
 rw [arr_nth,← h1]
 have hlen:(List.take (RowT.sz α) (List.drop (t / RowT.sz α * RowT.sz α) (gcs d.toList))).length=RowT.sz α:=by rw [h1,RowT.len]
 rw [getElem!_pos _ _ (by rw [hlen];exact hm),List.getElem_take,List.getElem_drop,getElem!_pos _ _ (by simp [hl];exact ht'),List.getElem_toArray]
 congr 1
 have:=Nat.div_add_mod t (RowT.sz α)
 rw [Nat.mul_comm] at this
 exact this
end
theorem grownBy_swV {w:World} {g n:Nat} {os:Array Obj} (d:Array Value):w.grownBy (sortWorld id w g 0 n d os) (some g):=by
 unfold sortWorld
 refine ⟨rfl,rfl,rfl,by simp,fun k hk hne=>?_⟩
 rw [Sort.heap_grow_old _ _ (by simpa using hk)]
 have:g ≠ k:=fun e=>hne (by rw [e])
 simp [Sort.putRow,Sort.mapBlock,Sort.ahead,Array.getElem?_modify,this]
theorem heap_swV {w:World} {g n:Nat} {os:Array Obj} {cur:Array Value} {e:TypeId} {fr:Nat × Nat} (d:Array Value) (hb:w.heap[g]?=some (.cells cur e fr)) :
  (sortWorld id w g 0 n d os).heap[g]?=some (.cells (Sort.putCells id 0 d cur) e fr):=by
 have hg:g < w.heap.size:=(Array.getElem?_eq_some_iff.1 hb).1
 unfold sortWorld
 rw [Sort.heap_grow_old _ _ (by simpa using hg)]
 simp [Sort.putRow,Sort.mapBlock,Sort.ahead,Array.getElem?_modify,hb,Sort.onCells]
theorem take_putV (cur d:Array Value) (h:d.size≤cur.size):(Sort.putCells id 0 d cur).toList.take d.size=d.toList:=by
 apply List.ext_getElem?
 intro j
 by_cases hj:j < d.size
 ·rw [List.getElem?_take_of_lt hj, Array.getElem?_toList]
  simp [Sort.putCells,hj,show j < cur.size by omega]
 rw [List.getElem?_take_eq_none (by omega),List.getElem?_eq_none (by simp;omega)]
theorem own_swV {w:World} {base g c n m size:Nat} {e:TypeId} {os:Array Obj} {xs:List Value} (d:Array Value) (hd:d.size=n * size) (h:w.ownsRow base e size (.slice (some ⟨g,0,none⟩) n c) n xs) :
  (sortWorld id w g 0 m d os).ownsRow base e size (.slice (some ⟨g,0,none⟩) n c) n d.toList:=by
 have hl:=h.1
 rcases h.2 with ⟨hv,_⟩ | ⟨g',cap,cur,hv,hb,hh,hn,hm,hs,ht⟩
 ·cases hv
 cases hv
 have hle:d.size≤cur.size:=by
  have:=congrArg List.length ht
  rw [List.length_take,hl] at this
  simp at this;omega
 exact ⟨by simp [hd],.inr ⟨g,c,_,rfl,hb,heap_swV d hh,hn,hm,by simp [Sort.putCells,hs],by rw [← hd];exact take_putV cur d hle⟩⟩
theorem ceSwo:Sort.SWO (ltOf cmpC):=by
 have e:ltOf cmpC=ltCe:=funext fun x=>funext fun y=>cmpC_neg x y
 rw [e]
 exact ⟨ltCe_sto.irrefl,fun x y z h1 h2=>ltCe_sto.trans _ _ _ h1 h2,fun x y z h1 h2=>ltCe_sto.ntrans h1 h2⟩
theorem ceCmp {g n size:Nat} {w:World}:CmpLays Tryz.prog 65 #[] (RowT.enc (α:=CeR)) 10 cmpC g 0 size w:=fun m os dk hs x y=>by
 have h:=GW.compareC_any x y (sortWorldK RowT.enc 10 w g 0 m dk os)
 rw [Array.append_empty,ceP.eq,ceP.eq]
 refine h.mono ?_
 rintro e w' ⟨rfl,hg⟩
 exact ⟨rfl,hg.grow⟩
theorem sortCe_any (w0 w:World) (base:Nat) (A:Option Addr) (n c:Nat) (d:Array CeR) (h:RowS w0 w base 32 A n c d) (hn:n≤1000000000) :
  Calls Tryz.prog 64 #[.slice A n c,.func (.func 65) #[] #[]] w (fun e w'=>e=.returned (.tuple #[])∧∃ d',RowS w0 w' base 32 A n c d'∧Sort.PermIn 0 n d d'∧Sort.SortedIn ltCe 0 n d'):=by
 rcases Nat.eq_zero_or_pos n with rfl | hpos
 ·refine (AnyF.slices_SortFunc_none (P := Tryz.prog) (ρ := sortCe_ren) { sortCe with } A c (.func (.func 65) #[] #[]) w).mono ?_
  rintro e w' ⟨rfl,rfl⟩
  exact ⟨rfl,d,h,Sort.permIn_refl _ _ _,fun i j _ _ hj=>absurd hj (Nat.not_lt_zero _)⟩
 obtain ⟨g,rfl,-,hr⟩:=h.at hpos
 have hsz:=h.size
 have ho:w.ownsRow base 32 10 (.slice (some ⟨g,0,none⟩) n c) n (gcs d.toList):=h.own
 have hH:Sort.HoldsK (RowT.enc (α:=CeR)) 10 w g 0 d:=fun j hj=>by
  have e1:=flatK_gcs d
  rw [show RowT.sz CeR=10 from rfl] at e1
  rw [Sort.size_flatK,hsz] at hj
  have hl:(gcs d.toList).length=n * 10:=ho.1
  refine ⟨?_,ho.frozenAt _⟩
  rw [e1,ho.cellAt (0+j) (by omega),Nat.zero_add,List.getElem?_eq_getElem (by omega),getElem!_pos _ j (by simp;omega)]
  simp
 have hlt:g < w.heap.size:=(ho.lt g rfl).2
 have eg:∀ args w,(callFunc 65 args).run Tryz.prog w=.ok (.enter 65 args) w:=enters_of Tryz.func65 (by kernel_rfl) rfl
 have hc:=AnyQ.slices_SortFunc sortCe 10 (fun w=>by kernel_rfl) (fun w=>by kernel_rfl) (RowT.enc (α:=CeR)) (RowT.len (α:=CeR)) (fun x v hv=>RowT.one x v hv) cmpC ceSwo 65 #[] g 0 c d w eg (ceCmp (n:=n)) hH hlt (by omega)
 rw [hsz] at hc
 change Calls Tryz.prog 64 _ _ _ at hc
 refine hc.mono ?_
 rintro e w' ⟨rfl,d',m,os,hp,hs,rfl⟩
 have hw:sortWorldK (RowT.enc (α:=CeR)) 10 w g 0 m d' os=sortWorld id w g 0 m (Sort.flatK RowT.enc 10 d') os:=rfl
 rw [hw]
 have hf:=flatK_gcs d'
 rw [show RowT.sz CeR=10 from rfl] at hf
 refine ⟨rfl,d',⟨?_,fun x hx=>?_,Grown.trans h.gr (grownBy_swV _),h.ne⟩,hp,fun i j h1 h2 h3=>?_⟩
 ·have := own_swV (os := os) (m := m) (Sort.flatK RowT.enc 10 d') (by rw [Sort.size_flatK, hp.1, hsz]) ho
  rw [hf] at this ⊢
  simp only [List.toList_toArray] at this ⊢
  exact this
 ·have hm:x ∈ d.toList:=by
   obtain ⟨p1,p2,p3⟩:=hp
   have e1:d'.extract 0 n=d':=by rw [← hsz,← p1];exact Array.extract_size
   have e2:d.extract 0 n=d:=by rw [← hsz];exact Array.extract_size
   rw [e1,e2] at p3
   exact p3.mem_iff.1 hx
  exact h.ow x hm
 have:=hs i j h1 h2 h3
 unfold ltOf at this
 rwa [cmpC_neg] at this
end
section
open Go.RowKit
attribute [local go_sem ↓] Go.wp_at_zero Go.wp_at_succ
def AtOut (w:World) (C:List DeR) (c:CeR) (e:Ending) (w':World):Prop:=∃ r,e=.returned (.int .i64 r)∧IxIs (fun d:DeR=>decide (d.c=c)) C r∧Ext w w'
theorem rAt_any (s:StR) (c:CeR) (w:World) (h:s.ok w) (hc:ceW c):Calls Tryz.prog 70 #[.agg (ssA s),.agg (ceA c)] w (AtOut w s.C c):=by
 obtain ⟨W,hW⟩:∃ W,(w.alloc (.cells (ssA s) 44)).alloc (.cells (ceA c) 32)=W:=⟨_,rfl⟩
 have HB:=zh (show Blk W w.heap.size 44 (ssA s) from by rw [← hW];exact (Blk.new w 44 (ssA s)).alloc _)
 have HC:=zh (show Blk W (w.heap.size+1) 32 (ceA c) from by rw [← hW];exact Blk.newAt _ _ _ _ (by simp))
 have HE:=zh (show Ext w W from by rw [← hW];exact ((Ext.refl w).alloc' _).alloc' _)
 have HS:=zh h.s1
 have HCW:=zh hc
 have HLEN:=zh h.s1.len
 have hle:=h.s1.le
 have hcap:=h.s1.cap
 clear h hc
 go_enter Tryz.func70,Tryz.ntmps70
 go_wp2_with fail
 go_loopw [5] (fun vi wr=>∃ k:Nat,vi=.int .i64 (k:Int)∧k≤s.n1∧Hid (∀ j,j < k→decide ((nthG s.C j).c=c)=false)∧Hid (Ext W wr)) (fun i _=>s.n1 - (intOf i).toNat)
 case atStart=>exact ⟨0,rfl,Nat.zero_le _,zh (fun j hj=>absurd hj (Nat.not_lt_zero _)),zh (Ext.refl W)⟩
 case round =>
  obtain ⟨k,rfl,hk,HN,HXW⟩:=hrel
  have HB1:=zh (HB.out.ext HXW.out)
  have HC1:=zh (HC.out.ext HXW.out)
  have HX:=zh (HE.out.trans HXW.out)
  have q0:=HB1.out.cell 0
  by_cases hlt:k < s.n1
  ·have i0 : (0 : Int) ≤ (k : Int) := by omega
   have i1:(k:Int) < (s.n1:Int):=by omega
   obtain ⟨d,hd⟩:∃ d,nthG s.C k=d:=⟨_,rfl⟩
   obtain ⟨b,o,hab,hrow,-⟩:=HS.out.at (by omega)
   have HAB:=zh hab
   have HDR:=zh (fun (V:World) (e:Ext w V)=>show V.rangeAt b (o+k * 11) (RowT.enc d.c) from by
    rw [← hd]
    obtain ⟨b2,o2,e2,hr2,-⟩:=(HS.out.ext e).at (by omega)
    rw [HAB.out] at e2
    injection e2 with e3
    injection e3 with e4 e5
    subst e4
    subst e5
    have:=rT (k:=10) (el_at (k:=k) hr2 (by rw [HLEN.out];exact hlt))
    exact this)
   have hdw:deW d:=by rw [← hd];exact HS.out.nth hlt
   have HEQ:=zh (fun W=>run_eqCe d.c c hdw.1 HCW.out W)
   obtain ⟨eq,heq⟩:∃ eq,decide (d.c=c)=eq:=⟨_,rfl⟩
   rw [heq] at HEQ
   have HDK:=zh (show decide ((nthG s.C k).c=c)=eq from by rw [hd];exact heq)
   clear hab hrow hd hdw heq
   go_upto_region 4 with fail
   clear q0
   refine wp_region_held_drew (S:=fun V=>Blk V w.heap.size 44 (ssA s)∧Blk V (w.heap.size+1) 32 (ceA c)∧Ext w V) (by kernel_rfl) (⟨HB1.out.drew,HC1.out.drew,HX.out.trans ((Ext.refl _).drew')⟩) (fun jj=>?_)
   refine zz0 [0,1,2,3,4] ?_;repeat first | refine zz1 ?_ (hy:=by intro W jS;have q1:W.cell? ⟨w.heap.size,0,none⟩=some (.slice (some ⟨b,o,none⟩) s.n1 s.c1):=(by rw [← HAB.out];exact jS.1.cell 0);go_simp <;> with_reducible rfl) | refine zz2 ?_ | refine zz9 ?_
   refine zu 5 (v:=.agg (ceA d.c)) jj ?_ (hy:=by exact yL ceP (by rfl) (.tmp 17) rfl b (o+k * 11) rfl d.c _ rfl (fun V h=>HDR.out V h.2.2))
   refine zu 6 (v:=.agg (ceA c)) jj ?_ (hy:=by exact yL ceP (by rfl) (.tmp 3) rfl (w.heap.size+1) 0 rfl c _ rfl (fun V h=>rB h.2.1))
   refine zu 7 (v:=.bool eq) jj ?_ (hy:=by exact yields_cmp (by rfl) (.tmp 18) (.tmp 19) (by rfl) (vx:=.agg (ceA d.c)) (vy:=.agg (ceA c)) (by rfl) (by rfl) (guard_Ce _ _ _ _ _) HEQ.out)
   refine wpAnyH_done (by kernel_rfl) ?_ _
   have HXN:=zh (HXW.out.trans ((Ext.refl _).drew'))
   have HXX:=zh (HX.out.trans ((Ext.refl _).drew'))
   clear jj
   cases eq
   ·go_wp2_with fail
    go_roundw
    case rel=>exact ⟨k+1,by go_num,hlt,zh (fun j hj=>by
     rcases (by omega:j < k ∨ j=k) with hj | rfl
     ·exact HN.out j hj
     exact HDK.out),HXN⟩
    case measure=>simp [intOf];omega
   go_wp2_with fail
   go_ret
   exact ⟨_,rfl,.inr ⟨k,rfl,by rw [HLEN.out];exact hlt,HDK.out,HN.out⟩,HXX.out⟩
  obtain rfl:s.n1=k:=by omega
  have i1:¬ (s.n1:Int) < (s.n1:Int):=by omega
  go_wp2_with fail
  go_ret
  exact ⟨_,rfl,.inl ⟨rfl,fun j hj=>HN.out j (by rw [← HLEN.out];exact hj)⟩,HX.out⟩
theorem rGet_any (s:StR) (c:CeR) (w:World) (h:s.ok w) (hc:ceW c):Calls Tryz.prog 30 #[.agg (ssA s),.agg (ceA c)] w fun e w'=>e=.returned (.int .i64 (getC s.C c))∧Ext w w':=by
 obtain ⟨W,hW⟩:∃ W,(w.alloc (.cells (ssA s) 44)).alloc (.cells (ceA c) 32)=W:=⟨_,rfl⟩
 have HB:=zh (show Blk W w.heap.size 44 (ssA s) from by rw [← hW];exact (Blk.new w 44 (ssA s)).alloc _)
 have HC:=zh (show Blk W (w.heap.size+1) 32 (ceA c) from by rw [← hW];exact Blk.newAt _ _ _ _ (by simp))
 have HE:=zh (show Ext w W from by rw [← hW];exact ((Ext.refl w).alloc' _).alloc' _)
 have HS:=zh h
 have HCW:=zh hc
 have hle:=h.s1.le
 have hcap:=h.s1.cap
 have rc:W.rangeAt (w.heap.size+1) 0 (RowT.enc c):=rB HC.out
 obtain ⟨q0,q1,q2,q3,q4⟩:=sF HB.out
 clear h hc
 go_enter Tryz.func30,Tryz.ntmps30
 go_wp2_with (first | (with_reducible refine wL ceP rfl (.tmp 3) rfl (w.heap.size+1) 0 rfl c _ rfl rc ?_) | fail "A")
 refine (rAt_any s c W (HS.out.ext HE.out) HCW.out).mono ?_
 rintro e w5 ⟨r,rfl,hr,he5⟩
 have HX5:=zh (HE.out.trans he5)
 rcases hr with ⟨rfl,hno⟩ | ⟨k,rfl,hk,h1,h2⟩
 ·have HG := zh (show getC s.C c = 0 from getC_of (fd_none hno))
  clear he5 q0 q1 q2 q3 q4 rc hno
  go_wp2_with fail
  go_ret
  exact ⟨by rw [HG.out];rfl,HX5.out⟩
 have HG:=zh (show getC s.C c=(nthG s.C k).a from getC_of (fd_some hk h1 h2))
 have hkn:k < s.n1:=by rw [← HS.out.s1.len];exact hk
 have i0:¬ (k:Int) < 0:=by omega
 have i2:(0:Int)≤(k:Int):=by omega
 have i1:(k:Int) < (s.n1:Int):=by omega
 obtain ⟨b,o,hab,hcell⟩:=get_cell (HS.out.ext HX5.out).s1 hkn
 have p0:w5.cell? ⟨w.heap.size,0,none⟩=some (.slice (some ⟨b,o,none⟩) s.n1 s.c1):=by rw [← hab];exact (HB.out.ext he5).cell 0
 clear he5 q0 q1 q2 q3 q4 rc hk h1 h2 hab
 go_wp2_with fail
 go_ret
 exact ⟨by rw [HG.out];rfl,HX5.out⟩
theorem tot_take {C:List DeR} {k:Nat} (hk:k < C.length):wrap64 (totC (C.take k)+(nthG C k).a)=totC (C.take (k+1)):=by
 rw [← wrapE]
 show wr (wr (sumC (C.take k))+(nthG C k).a)=wr (sumC (C.take (k+1)))
 rw [wr_add,take_nthG hk,sum_append]
 unfold sumC
 simp
theorem rTotal_any (s:StR) (w:World) (h:s.ok w):Calls Tryz.prog 28 #[.agg (ssA s)] w fun e w'=>e=.returned (.int .i64 (totC s.C))∧Ext w w':=by
 obtain ⟨W,hW⟩:∃ W,w.alloc (.cells (ssA s) 44)=W:=⟨_,rfl⟩
 have HB:=zh (show Blk W w.heap.size 44 (ssA s) from by rw [← hW];exact Blk.new w 44 (ssA s))
 have HE:=zh (show Ext w W from by rw [← hW];exact (Ext.refl w).alloc' _)
 have HS:=zh (h.ext HE.out).s1
 have HLEN:=zh h.s1.len
 have hle:=h.s1.le
 have hcap:=h.s1.cap
 clear h
 go_enter Tryz.func28,Tryz.ntmps28
 go_wp2_with fail
 go_loopw [3,4] (fun vn vi wr=>∃ (k:Nat) (t:Int),vn=.int .i64 t∧vi=.int .i64 (k:Int)∧k≤s.n1∧Hid (totC (s.C.take k)=t)∧wr=W) (fun _ i _=>s.n1 - (intOf i).toNat)
 case atStart=>exact ⟨0,0,rfl,rfl,Nat.zero_le _,zh rfl,rfl⟩
 case round =>
  obtain ⟨k,t,rfl,rfl,hk,HT,rfl⟩:=hrel
  obtain ⟨q0,-⟩:=sF HB.out
  by_cases hlt:k < s.n1
  ·have i0 : (0 : Int) ≤ (k : Int) := by omega
   have i1:(k:Int) < (s.n1:Int):=by omega
   obtain ⟨b,o,hab,hcell⟩:=get_cell HS.out hlt
   rw [hab] at q0
   have hs:=tot_take (C:=s.C) (k:=k) (by rw [HLEN.out];exact hlt)
   rw [HT.out] at hs
   obtain ⟨t',ht'⟩:∃ t',totC (s.C.take (k+1))=t':=⟨_,rfl⟩
   rw [ht'] at hs
   have HT':=zh ht'
   clear ht' hab
   go_wp2_with fail
   go_roundw
   case rel=>exact ⟨k+1,t',by first | rfl | go_num,by go_num,hlt,HT',trivial⟩
   case measure=>simp [intOf];omega
  obtain rfl:s.n1=k:=by omega
  have i1:¬ (s.n1:Int) < (s.n1:Int):=by omega
  have HF:=zh (show totC s.C=t from by rw [← HT.out,← HLEN.out,List.take_length])
  go_wp2_with fail
  go_ret
  exact ⟨by rw [HF.out];rfl,HE.out⟩
section
variable {P:Program} {t e:TypeId} {z:Value} {size bytes:Nat}
theorem own_zero (w:World) (e:TypeId) (size:Nat):(w.alloc (.cells #[] e)).ownsRow w.heap.size e size (.slice (some ⟨w.heap.size,0,none⟩) 0 0) 0 [] :=
 ⟨by simp,.inr ⟨w.heap.size,0,#[],rfl,Nat.le_refl _,heap_alloc_new w _,Nat.le_refl _,Nat.zero_le _,by simp,by simp⟩⟩
theorem run_app0 (E:Elem P t e z size bytes) (ty:TypeId) (w:World) (base:Nat) (A:Option Addr) (hown:w.ownsRow base e size (.slice A 0 0) 0 [])
  (A2:Option Addr) (m c2:Nat) (ys:List Value) (hr:Rd w A2 ys) (hl:ys.length=m * size) (h1:∀ u ∈ ys,u.oneCell'=true)
  (hb:m * bytes≤140737488355328) (h63:m≤4611686018427387904) (hbase:base≤w.heap.size) :
  ∃ A' c' w',(Builtin.append_ #[t,t] ty #[.slice A 0 0,.slice A2 m c2]).run P w=.ok (.slice A' m c') w'∧w'.ownsRow base e size (.slice A' m c') m ys∧Ext w w':=by
 rcases Nat.eq_zero_or_pos m with rfl | hm
 ·have hy : ys = [] := List.eq_nil_of_length_eq_zero (by rw [hl]; exact Nat.zero_mul _)
  subst hy
  obtain ⟨i,hi,hz,hs,hby⟩:=E.get
  refine ⟨A,0,w,?_,hown,Ext.refl w⟩
  cases A <;> cases A2 <;> simp [Builtin.append_,run_underlying E.ut,sizeOf,typeInfo,hi,Builtin.lenOf,Builtin.firstCells,storeCells,loadCells,loadCellsFrom]
 obtain ⟨A',c',w',h2,h3,h4⟩:=run_appFull E ty w A 0 [] .nil (by simp) A2 m c2 ys hr hl hm (by simpa using hb) (by omega)
 simp only [Nat.zero_add,List.nil_append] at h2 h3
 exact ⟨A',c',w',h2,own_mono h3 hbase,h4⟩
variable {ops:Array Oper} {rest:List Oper} {o:Oper} {a:Act} {w:World} {K:Act→World→Prop} {Q:Exit→Act→World→Prop} {X:Prop}
theorem wp_app0 (E:Elem P t e z size bytes) (s x:Operand)
  (ho:o.op=.call { callee:=.builtin .append,args:=#[s,x],argTypes:=#[t,t] })
  (base:Nat) (A:Option Addr) (hs:a.eval s=.slice A 0 0) (hown:w.ownsRow base e size (.slice A 0 0) 0 [])
  (A2:Option Addr) (m c2:Nat) (ys:List Value) (hx:a.eval x=.slice A2 m c2) (hr:Rd w A2 ys) (hl:ys.length=m * size) (h1:∀ u ∈ ys,u.oneCell'=true)
  (hb:m * bytes≤140737488355328) (h63:m≤4611686018427387904) (hbase:base≤w.heap.size)
  (h:∀ A' c' w',w'.ownsRow base e size (.slice A' m c') m ys→Ext w w'→K (a.put o.dst (.slice A' m c')) w'):o.wp P a w K Q:=by
 obtain ⟨A',c',w',hrun,h2,h3⟩:=run_app0 E o.type w base A hown A2 m c2 ys hr hl h1 hb h63 hbase
 unfold Oper.wp execOp
 simp only [ho,resolve,invoke,builtin,Sem.run_bind,Sem.run_pure,Result.andThen_ok,List.map_toArray,List.map_cons,List.map_nil,hs,hx,hrun]
 exact h A' c' w' h2 h3
theorem wpList_app0 (E:Elem P t e z size bytes) (hgd:o.guard=none) (s x:Operand)
  (ho:o.op=.call { callee:=.builtin .append,args:=#[s,x],argTypes:=#[t,t] })
  (base:Nat) (A:Option Addr) (hs:a.eval s=.slice A 0 0) (hown:w.ownsRow base e size (.slice A 0 0) 0 [])
  (A2:Option Addr) (m c2:Nat) (ys:List Value) (hx:a.eval x=.slice A2 m c2) (hr:Rd w A2 ys) (hl:ys.length=m * size) (h1:∀ u ∈ ys,u.oneCell'=true)
  (hb:m * bytes≤140737488355328) (h63:m≤4611686018427387904) (hbase:base≤w.heap.size)
  (h:∀ A' c' w',w'.ownsRow base e size (.slice A' m c') m ys→Ext w w'→wpList P ops Q rest (a.put o.dst (.slice A' m c')) w'):wpList P ops Q (o :: rest) a w :=
 wpList_plain hgd fun K hK=>wp_app0 E s x ho base A hs hown A2 m c2 ys hx hr hl h1 hb h63 hbase fun A' c' w' h2 h3=>hK _ _ (h A' c' w' h2 h3)
theorem wp_bs0 {ty:TypeId} (ho:o.op=.buildSlice ty 0 #[]) (hr:∀ w,(Instr.buildSlice ty 0 #[]).run P w=.ok (.slice (some ⟨w.heap.size,0,none⟩) 0 0) (w.alloc (.cells #[] e)))
  (h:∀ A W2,Hid (W2.ownsRow w.heap.size e size (.slice A 0 0) 0 []∧Ext w W2)→K (a.put o.dst (.slice A 0 0)) W2):o.wp P a w K Q:=by
 have:=h _ _ (zh ⟨own_zero w e size,(Ext.refl w).alloc' _⟩)
 unfold Oper.wp execOp
 simp only [ho,List.map_toArray,List.map_nil,Sem.run_bind,hr,Result.andThen_ok,Sem.run_pure]
 exact this
theorem wpList_bs0 (hgd:o.guard=none) {ty:TypeId} (ho:o.op=.buildSlice ty 0 #[]) (hr:∀ w,(Instr.buildSlice ty 0 #[]).run P w=.ok (.slice (some ⟨w.heap.size,0,none⟩) 0 0) (w.alloc (.cells #[] e)))
  (h:∀ A W2,Hid (W2.ownsRow w.heap.size e size (.slice A 0 0) 0 []∧Ext w W2)→wpList P ops Q rest (a.put o.dst (.slice A 0 0)) W2):wpList P ops Q (o :: rest) a w :=
 wpList_plain hgd fun K hK=>wp_bs0 ho hr fun A W2 h2=>hK _ _ (h A W2 h2)
end
theorem run_bsDe0 (w:World):(Instr.buildSlice 27 0 #[]).run Tryz.prog w=.ok (.slice (some ⟨w.heap.size,0,none⟩) 0 0) (w.alloc (.cells #[] 34)):=by kernel_rfl
theorem run_bsIn0 (w:World):(Instr.buildSlice 38 0 #[]).run Tryz.prog w=.ok (.slice (some ⟨w.heap.size,0,none⟩) 0 0) (w.alloc (.cells #[] 3)):=by kernel_rfl
theorem run_bsLk0 (w:World):(Instr.buildSlice 41 0 #[]).run Tryz.prog w=.ok (.slice (some ⟨w.heap.size,0,none⟩) 0 0) (w.alloc (.cells #[] 94)):=by kernel_rfl
theorem run_bsNm0 (w:World):(Instr.buildSlice 37 0 #[]).run Tryz.prog w=.ok (.slice (some ⟨w.heap.size,0,none⟩) 0 0) (w.alloc (.cells #[] 30)):=by kernel_rfl
theorem rCopy_any (s:StR) (w:World) (h:s.ok w) (hn:s.n1≤1000000∧s.n2≤1000000∧s.n3≤1000000∧s.n4≤1000000):Calls Tryz.prog 57 #[.agg (ssA s)] w (StOut w s.V):=by
 have HP:=zh (show Blk ((w.alloc (.cells (ssA s) 44)).alloc (.cells (ssA ss0) 44)).drew w.heap.size 44 (ssA s) from ((Blk.new w 44 (ssA s)).alloc _).drew)
 have HZ:=zh (show Blk ((w.alloc (.cells (ssA s) 44)).alloc (.cells (ssA ss0) 44)).drew (w.heap.size+1) 44 (ssA ss0) from Blk.drew (Blk.newAt _ _ _ _ (by simp)))
 have HEW:=zh (show Ext w ((w.alloc (.cells (ssA s) 44)).alloc (.cells (ssA ss0) 44)).drew from (((Ext.refl w).alloc' _).alloc' _).drew')
 have HO:=zh h
 have HNN:=zh hn
 clear h hn
 go_enter Tryz.func57,Tryz.ntmps57
 go_wp2_with fail
 refine wp_region_held_drew (S:=fun W=>Blk W w.heap.size 44 (ssA s)∧(∃ z,Blk W (w.heap.size+1) 44 (ssA z))∧Ext w W) (by kernel_rfl) (⟨HP.out,⟨ss0,HZ.out⟩,HEW.out⟩) (fun jj=>?_)
 refine zz0 [1,2,5,6,9,10,13,14,16,17] ?_;repeat first | refine zz1 ?_ (hy:=by intro W jS;obtain ⟨c0,c1,c2,c3,c4⟩:=sF jS.1;go_simp <;> with_reducible rfl) | refine zz2 ?_ | refine zz9 ?_
 refine zzj (VV 0 (fun v W=>∃ A,v=.slice A 0 0∧W.ownsRow w.heap.size 34 11 (.slice A 0 0) 0 []) (VV 3 (fun v W=>∃ A c,v=.slice A s.n1 c∧W.ownsRow w.heap.size 34 11 (.slice A s.n1 c) s.n1 (gcs s.C)) (VV 4 (fun v W=>∃ A,v=.slice A 0 0∧W.ownsRow w.heap.size 3 1 (.slice A 0 0) 0 []) (VV 7 (fun v W=>∃ A c,v=.slice A s.n2 c∧W.ownsRow w.heap.size 3 1 (.slice A s.n2 c) s.n2 (gcs s.Q)) (VV 8 (fun v W=>∃ A,v=.slice A 0 0∧W.ownsRow w.heap.size 94 19 (.slice A 0 0) 0 []) (VV 11 (fun v W=>∃ A c,v=.slice A s.n3 c∧W.ownsRow w.heap.size 94 19 (.slice A s.n3 c) s.n3 (gcs s.K)) (VV 12 (fun v W=>∃ A,v=.slice A 0 0∧W.ownsRow w.heap.size 30 8 (.slice A 0 0) 0 []) (VV 15 (fun v W=>∃ A c,v=.slice A s.n4 c∧W.ownsRow w.heap.size 30 8 (.slice A s.n4 c) s.n4 (gcs s.P)) VN)))))))) [(0,some 3),(3,some 6),(4,some 7),(7,some 10),(8,some 11),(11,some 14),(12,some 15),(15,some 18)] 2 (fun W W' h e=>⟨h.1.ext e,(by obtain ⟨z,hz⟩:=h.2.1;exact ⟨z,hz.ext e⟩),h.2.2.trans e⟩) (VV.ext (fun v w w' ⟨A,h1,h2⟩ e=>⟨A,h1,own_ext h2 e⟩) (VV.ext (fun v w w' ⟨A,c,h1,h2⟩ e=>⟨A,c,h1,own_ext h2 e⟩) (VV.ext (fun v w w' ⟨A,h1,h2⟩ e=>⟨A,h1,own_ext h2 e⟩) (VV.ext (fun v w w' ⟨A,c,h1,h2⟩ e=>⟨A,c,h1,own_ext h2 e⟩) (VV.ext (fun v w w' ⟨A,h1,h2⟩ e=>⟨A,h1,own_ext h2 e⟩) (VV.ext (fun v w w' ⟨A,c,h1,h2⟩ e=>⟨A,c,h1,own_ext h2 e⟩) (VV.ext (fun v w w' ⟨A,h1,h2⟩ e=>⟨A,h1,own_ext h2 e⟩) (VV.ext (fun v w w' ⟨A,c,h1,h2⟩ e=>⟨A,c,h1,own_ext h2 e⟩) VN.ext)))))))) (zzc ?_ (zzc ?_ (zzc ?_ (zzc ?_ (zzc ?_ (zzc ?_ (zzc ?_ (zzc ?_ zzn)))))))) ?_
 ·refine zzp fun W hE hS K hK => ?_
  refine wp_bs0 (size:=11) rfl run_bsDe0 ?_
  intro A5 W5 h5
  exact zzK (hK.out (.slice A5 0 0) _ (h5.out.2) (⟨A5,rfl,own_mono h5.out.1 hS.2.2.size⟩))
 ·refine zm [(0, some 3)] fun env W hE hS hD K hK => ?_
  obtain ⟨h0,-⟩:=zzV hD
  clear hD
  simp only [layj] at hK ⊢
  generalize env 0=x0 at h0 hK ⊢
  obtain ⟨A7,rfl,ho7⟩:=h0
  have hs7:=(HO.out.ext hS.2.2).s1
  have hl7:(gcs s.C).length=s.n1 * 11:=by rw [gL,hs7.len];rfl
  refine wp_app0 deE (.tmp 3) (.tmp 5) rfl w.heap.size A7 rfl ho7 s.A1 s.n1 s.c1 (gcs s.C) rfl hs7.rd hl7 (gcs_cell _) (by have:=HNN.out;omega) (by have:=HNN.out;omega) hS.2.2.size ?_
  intro A5 c5 w5 ho5 he5
  exact zzK (hK.out (.slice A5 s.n1 c5) _ (he5) (⟨A5,c5,rfl,ho5⟩))
 ·refine zzp fun W hE hS K hK => ?_
  refine wp_bs0 (size:=1) rfl run_bsIn0 ?_
  intro A5 W5 h5
  exact zzK (hK.out (.slice A5 0 0) _ (h5.out.2) (⟨A5,rfl,own_mono h5.out.1 hS.2.2.size⟩))
 ·refine zm [(4, some 7)] fun env W hE hS hD K hK => ?_
  obtain ⟨h4,-⟩:=zzV hD
  clear hD
  simp only [layj] at hK ⊢
  generalize env 4=x4 at h4 hK ⊢
  obtain ⟨A7,rfl,ho7⟩:=h4
  have hs7:=(HO.out.ext hS.2.2).s2
  have hl7:(gcs s.Q).length=s.n2 * 1:=by rw [gL,hs7.len];rfl
  refine wp_app0 inE (.tmp 7) (.tmp 9) rfl w.heap.size A7 rfl ho7 s.A2 s.n2 s.c2 (gcs s.Q) rfl hs7.rd hl7 (gcs_cell _) (by have:=HNN.out;omega) (by have:=HNN.out;omega) hS.2.2.size ?_
  intro A5 c5 w5 ho5 he5
  exact zzK (hK.out (.slice A5 s.n2 c5) _ (he5) (⟨A5,c5,rfl,ho5⟩))
 ·refine zzp fun W hE hS K hK => ?_
  refine wp_bs0 (size:=19) rfl run_bsLk0 ?_
  intro A5 W5 h5
  exact zzK (hK.out (.slice A5 0 0) _ (h5.out.2) (⟨A5,rfl,own_mono h5.out.1 hS.2.2.size⟩))
 ·refine zm [(8, some 11)] fun env W hE hS hD K hK => ?_
  obtain ⟨h8,-⟩:=zzV hD
  clear hD
  simp only [layj] at hK ⊢
  generalize env 8=x8 at h8 hK ⊢
  obtain ⟨A7,rfl,ho7⟩:=h8
  have hs7:=(HO.out.ext hS.2.2).s3
  have hl7:(gcs s.K).length=s.n3 * 19:=by rw [gL,hs7.len];rfl
  refine wp_app0 lkE (.tmp 11) (.tmp 13) rfl w.heap.size A7 rfl ho7 s.A3 s.n3 s.c3 (gcs s.K) rfl hs7.rd hl7 (gcs_cell _) (by have:=HNN.out;omega) (by have:=HNN.out;omega) hS.2.2.size ?_
  intro A5 c5 w5 ho5 he5
  exact zzK (hK.out (.slice A5 s.n3 c5) _ (he5) (⟨A5,c5,rfl,ho5⟩))
 ·refine zzp fun W hE hS K hK => ?_
  refine wp_bs0 (size:=8) rfl run_bsNm0 ?_
  intro A5 W5 h5
  exact zzK (hK.out (.slice A5 0 0) _ (h5.out.2) (⟨A5,rfl,own_mono h5.out.1 hS.2.2.size⟩))
 ·refine zm [(12, some 15)] fun env W hE hS hD K hK => ?_
  obtain ⟨h12,-⟩:=zzV hD
  clear hD
  simp only [layj] at hK ⊢
  generalize env 12=x12 at h12 hK ⊢
  obtain ⟨A7,rfl,ho7⟩:=h12
  have hs7:=(HO.out.ext hS.2.2).s4
  have hl7:(gcs s.P).length=s.n4 * 8:=by rw [gL,hs7.len];rfl
  refine wp_app0 namesE (.tmp 15) (.tmp 17) rfl w.heap.size A7 rfl ho7 s.A4 s.n4 s.c4 (gcs s.P) rfl hs7.rd hl7 (gcs_cell _) (by have:=HNN.out;omega) (by have:=HNN.out;omega) hS.2.2.size ?_
  intro A5 c5 w5 ho5 he5
  exact zzK (hK.out (.slice A5 s.n4 c5) _ (he5) (⟨A5,c5,rfl,ho5⟩))
 intro env W hE hS hV
 obtain ⟨h0,h3,h4,h7,h8,h11,h12,h15,-⟩:=zzV hV
 clear hV
 simp only [layj]
 generalize env 0=x0 at h0 ⊢
 generalize env 3=x3 at h3 ⊢
 generalize env 4=x4 at h4 ⊢
 generalize env 7=x7 at h7 ⊢
 generalize env 8=x8 at h8 ⊢
 generalize env 11=x11 at h11 ⊢
 generalize env 12=x12 at h12 ⊢
 generalize env 15=x15 at h15 ⊢
 obtain ⟨B1,rfl,-⟩:=h0
 obtain ⟨B2,rfl,-⟩:=h4
 obtain ⟨B3,rfl,-⟩:=h8
 obtain ⟨B4,rfl,-⟩:=h12
 obtain ⟨A1,c1,rfl,k1⟩:=h3
 obtain ⟨A2,c2,rfl,k2⟩:=h7
 obtain ⟨A3,c3,rfl,k3⟩:=h11
 obtain ⟨A4,c4,rfl,k4⟩:=h15
 have HK1:=zh k1
 have HK2:=zh k2
 have HK3:=zh k3
 have HK4:=zh k4
 clear k1 k2 k3 k4
 have jj:=hS
 refine zt 18 jj ?_
 refine za 19 (fun K hK=>?_)
 (obtain ⟨z6,hz6⟩:=jj.2.1;refine step_storeSs rfl (.tmp 2) (.tmp 21) (by rfl) (w.heap.size+1) (.agg (ssA ⟨A1,s.n1,c1,s.C,A2,s.n2,c2,s.Q,A3,s.n3,c3,s.K,A4,s.n4,c4,s.P,s.G⟩)) ⟨A1,s.n1,c1,s.C,A2,s.n2,c2,s.Q,A3,s.n3,c3,s.K,A4,s.n4,c4,s.P,s.G⟩ rfl (by rfl) (by rfl) hz6 ?_;intro W6 h6)
 refine hK.out _ _ (⟨by rw [← h6.out.1];exact jj.1.grown (gS _ _ _ _) (fun e=>by injection e;omega),⟨_,h6.out.2⟩,by rw [← h6.out.1];exact Below.setCells' jj.2.2 (by omega) _ _⟩) (fun jj=>?_)
 clear hK K
 try simp only [lays]
 refine wpAnyH_done (by kernel_rfl) ?_ _
 have hst:=h6.out.2
 have HOW:=zh (show OwnS W6 w.heap.size ⟨A1,s.n1,c1,s.C,A2,s.n2,c2,s.Q,A3,s.n3,c3,s.K,A4,s.n4,c4,s.P,s.G⟩ from by
  refine OwnS.kept (X:=w.heap.size+1) ⟨HK1.out,HK2.out,HK3.out,HK4.out,HO.out.s1.ok,HO.out.s2.ok,HO.out.s3.ok,HO.out.g⟩ (by rw [← h6.out.1];exact gS _ _ _ _) hz6 (by decide) (by decide) (by decide) (by decide))
 have HX:=zh jj.2.2
 clear h6 hz6 hS hE jj
 go_wp2_with fail
 exact bodyPost_ret (v:=.agg (ssA ⟨A1,s.n1,c1,s.C,A2,s.n2,c2,s.Q,A3,s.n3,c3,s.K,A4,s.n4,c4,s.P,s.G⟩)) (retC rfl _ _ (w.heap.size+1) _ rfl (run_loadVar_row _ _ _ _ _ (0,0) _ hst Tryz.underlying44 rfl (by kernel_rfl))) rfl ⟨_,rfl,HOW.out,rfl,HX.out⟩
end
end Go.Proofs.YtohmmcahpakokaaGreat
