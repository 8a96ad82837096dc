/- state.Compare: its world, by draws and new blocks alone (as the kit's sort asks it of a comparison). -/
import Derived.Test.YtohmmcahpakokaaGreatJ03
import Derived.Test.YtohmmcahpakokaaGreatJ21
set_option maxRecDepth 100000
set_option maxHeartbeats 8000000
set_option linter.unusedVariables false
set_option linter.unusedSimpArgs false
namespace Go.Proofs.YtohmmcahpakokaaGreat
section
open Go.RowKit
instance:RowB CeR where
 ow w b c:=ceW c
 ok _ _ _ h:=h
 ext _ _ _ _ h _:=h
 kept _ _ _ _ _ _ _ _ _ _ _ h _ _ _:=h
 mono _ _ _ _ h _:=h
namespace GW
attribute [local go_sem ↓] Go.wp_at_zero Go.wp_at_succ
instance {w w':World}:Coe (Grw w w') (Ext w w'):=⟨fun h=>h.1⟩
section
variable {P:Program} {ops:Array Oper} {Q:Exit→Act→World→Prop} {md:Region.Mode} {S:World→Prop}
def Member (P:Program) (md:Region.Mode) (ops:Array Oper) (S:World→Prop) (V:Nat→Value→World→Prop) (J:List (Nat × Option Tmp)) (a0:Act) (w0:World) (j:Nat):Prop :=
 ∃ (o:Oper) (D:List (Nat × Option Tmp)),ops[j]?=some o∧kE md ops J D o=true ∧
  ∀ env w,Grw w0 w→S w→(∀ p ∈ D,V p.1 (env p.1) w) →
   (Region.wanted o (yielded ops (bD a0 D env).tmps)=true→∀ K:Act→World→Prop,Shut (∀ u w',Grw w w'→V j u w'→K ((bD a0 D env).put o.dst u) w')→o.wp P (bD a0 D env) w K (fun _ _ _=>False)) ∧
   (Region.wanted o (yielded ops (bD a0 D env).tmps)=false→V j undef w)
structure JI (md:Region.Mode) (ops:Array Oper) (S:World→Prop) (V:Nat→Value→World→Prop) (J:List (Nat × Option Tmp)) (a0:Act) (l0:Array Bool) (w0:World) (env:Nat→Value) (l:Array Bool) (a:Act) (w:World):Prop where
 ext:Grw w0 w
 s:S w
 lsz:l.size=l0.size
 lout:∀ i,(∀ p ∈ J,p.1 ≠ i)→l[i]?=l0[i]?
 dfr:a.defers=a0.defers
 tsz:a.tmps.size=a0.tmps.size
 val:∀ p ∈ J,l.getD p.1 true=true→V p.1 (env p.1) w
 hit:∀ p ∈ J,l.getD p.1 true=true→∀ t,p.2=some t→a.tmps.getD t undef=env p.1
 miss:∀ t,(∀ p ∈ J,l.getD p.1 true=true→p.2 ≠ some t)→a.tmps.getD t undef=a0.tmps.getD t undef
 cl:∀ p ∈ J,l.getD p.1 true=true→∀ q ∈ J,depB md ops p.1 q.1=true→l.getD q.1 true=true
theorem aAN {a b:Act} (hd:a.defers=b.defers) (hz:a.tmps.size=b.tmps.size) (h:∀ t,a.tmps.getD t undef=b.tmps.getD t undef):a=b:=by
 obtain ⟨ta,da⟩:=a
 obtain ⟨tb,db⟩:=b
 simp only at hd hz h
 subst hd
 have:ta=tb:=by
  apply Array.ext hz
  intro i h1 h2
  have:=h i
  simpa [h1,h2] using this
 rw [this]
section
variable {V:Nat→Value→World→Prop} {J:List (Nat × Option Tmp)} {a0:Act} {l0:Array Bool} {w0:World}
theorem JI.eqL {env:Nat→Value} {l:Array Bool} {a:Act} {w:World} {n:Nat} (hB:fT md ops l0 n J=true) (h:JI md ops S V J a0 l0 w0 env l a w) :
  l=eV l0 (J.filter fun p=>l.getD p.1 true):=by
 obtain ⟨b1,b2,b3⟩:=dR hB
 apply Array.ext_getElem?
 intro i
 by_cases hi:i < l0.size
 ·rw [tQ _ _ _ hi]
  by_cases hJ:∃ p ∈ J,p.1=i
  ·obtain ⟨p, hp, rfl⟩ := hJ
   have hl:p.1 < l.size:=by rw [h.lsz];exact hi
   cases hv:l.getD p.1 true with
   | true =>
    rw [if_pos (List.any_eq_true.2 ⟨p,List.mem_filter.2 ⟨hp,hv⟩,by simp⟩)]
    simp [hl] at hv ⊢;exact hv
   | false =>
    rw [if_neg (by
     simp only [List.any_eq_true,List.mem_filter,beq_iff_eq,not_exists,not_and]
     rintro q ⟨hq,hq1⟩ e
     rw [e,hv] at hq1;cases hq1)]
    have:=(b1 p hp).2.1
    simp [hl,hi] at hv this ⊢;rw [hv,this]
  have hne:∀ p ∈ J,p.1 ≠ i:=fun p hp e=>hJ ⟨p,hp,e⟩
  rw [if_neg (by
   simp only [List.any_eq_true,List.mem_filter,beq_iff_eq,not_exists,not_and]
   rintro q ⟨hq,_⟩ e
   exact hne q hq e)]
  exact h.lout i hne
 rw [Array.getElem?_eq_none (by rw [h.lsz];omega),Array.getElem?_eq_none (by rw [rR];omega)]
theorem JI.full {env:Nat→Value} {l:Array Bool} {a:Act} {w:World} (hB:fT md ops l0 a0.tmps.size J=true) (h:JI md ops S V J a0 l0 w0 env l a w) (hf:∀ p ∈ J,l.getD p.1 true=true) :
  l=eV l0 J∧a=bD a0 J env:=by
 obtain ⟨b1,b2,b3⟩:=dR hB
 refine ⟨(h.eqL hB).trans (by rw [List.filter_eq_self.2 hf]),?_⟩
 refine aAN (by rw [h.dfr,nU]) (by rw [h.tsz,kB]) (fun t=>?_)
 by_cases ht:∃ p ∈ J,p.2=some t
 ·obtain ⟨p, hp, e⟩ := ht
  rw [h.hit p hp (hf p hp) t e,jL env t p.1 J a0 ((b1 p hp).2.2.2 t e) (by rw [← e];exact hp) (fun q hq e2=>Classical.byContradiction fun hne=>b2 p hp q hq (Ne.symm hne) t e e2)]
 rw [h.miss t (fun p hp _ e=>ht ⟨p,hp,e⟩),fY env t J a0 (fun p hp e=>ht ⟨p,hp,e⟩)]
theorem JI.comes {env:Nat→Value} {l:Array Bool} {a:Act} {w:World} (hs:Region.noSelect ops=true) (hB:fT md ops l0 a0.tmps.size J=true) (hM:∀ p ∈ J,Member P md ops S V J a0 w0 p.1)
  (h:JI md ops S V J a0 l0 w0 env l a w) {p:Nat × Option Tmp} (hp:p ∈ J) (hr:p.1 ∈ Region.ready md ops l) :
  ∃ o,ops[p.1]?=some o∧o.dst=p.2∧(Region.wanted o (yielded ops a.tmps)=true→sJ P o a w fun u w'=>∃ v,(o.dst ≠ none→v=u)∧Grw w w'∧V p.1 v w')∧(Region.wanted o (yielded ops a.tmps)=false→V p.1 undef w):=by
 obtain ⟨b1,b2,b3⟩:=dR hB
 obtain ⟨o,D,ho,hm,hstep⟩:=hM p hp
 obtain ⟨m1,m2⟩:=rX hm
 obtain ⟨hun,o',ho',hall⟩:=mem_ready.1 hr
 rw [ho] at ho';cases ho'
 have hds:o.dst=p.2:=by have:=(b1 p hp).2.2.1;unfold zA at this;rw [ho] at this;exact this
 have hdone:∀ q ∈ D,l.getD q.1 true=true:=fun q hq=>by
  obtain ⟨hqJ,t,ht,e⟩:=m2 q hq
  obtain ⟨_,ed,hed,hb,heq⟩:=m1 t ht q hqJ e
  have h1:=hall ed hed hb
  rw [heq] at h1
  have hl:q.1 < l.size:=by rw [h.lsz];exact (b1 q hqJ).1
  simp only [Array.getD_eq_getD_getElem?] at h1 ⊢
  rw [Array.getElem?_eq_getElem hl] at h1 ⊢
  exact h1
 have hag:∀ t ∈ o.looksAt ops,a.tmps.getD t undef=(bD a0 D env).tmps.getD t undef:=fun t ht=>by
  by_cases hq:∃ q ∈ J,q.2=some t
  ·obtain ⟨q, hqJ, e⟩ := hq
   have hqD:=(m1 t ht q hqJ e).1
   rw [h.hit q hqJ (hdone q hqD) t e,jL env t q.1 D a0 ((b1 q hqJ).2.2.2 t e) (by rw [← e];exact hqD) (fun r hr' e2=>Classical.byContradiction fun hne=>b2 q hqJ r (m2 r hr').1 (Ne.symm hne) t e e2)]
  rw [h.miss t (fun q hq1 _ e=>hq ⟨q,hq1,e⟩),fY env t D a0 (fun q hq1 e=>hq ⟨q,(m2 q hq1).1,e⟩)]
 obtain ⟨e1,e2⟩:=yH (ops:=ops) (fun cs z=>Region.noSelect_spec hs p.1 o cs z ho) hag
 obtain ⟨s1,s2⟩:=hstep env w h.ext h.s (fun q hq=>h.val q (m2 q hq).1 (hdone q hq))
 refine ⟨o,ho,hds,fun hw=>?_,fun hw=>s2 (by rw [← e2];exact hw)⟩
 have:=sG (R:=fun u w'=>Grw w w'∧V p.1 u w') (by rw [kB];intro d hd;exact (b1 p hp).2.2.2 d (by rw [← hds];exact hd)) (fun K hK=>s1 (by rw [← e2];exact hw) K (fun u w' h1 h2=>hK.out u w' ⟨h1,h2⟩))
 unfold sJ at this ⊢
 rw [e1];exact this
theorem kL (hs:Region.noSelect ops=true) (hB:fT md ops l0 a0.tmps.size J=true)
  (hSE:∀ w w',S w→Grw w w'→S w') (hVE:∀ j v w w',V j v w→Grw w w'→V j v w') (hM:∀ p ∈ J,Member P md ops S V J a0 w0 p.1) {fuel:Nat}
  (hE:∀ env w,Grw w0 w→S w→(∀ p ∈ J,V p.1 (env p.1) w)→wpAnyH P md ops Q S fuel (eV l0 J) (bD a0 J env) w) :
  ∀ (m:Nat) (env:Nat→Value) (l:Array Bool) (a:Act) (w:World),JI md ops S V J a0 l0 w0 env l a w→(J.filter fun p=>!l.getD p.1 true).length=m→wpAnyH P md ops Q S (fuel+m) l a w:=by
 obtain ⟨b1,b2,b3⟩:=dR hB
 intro m
 induction m with
 | zero =>
  intro env l a w h hm
  have hf:∀ p ∈ J,l.getD p.1 true=true:=fun p hp=>by
   have:=List.length_eq_zero_iff.1 hm
   rw [List.filter_eq_nil_iff] at this
   simpa using this p hp
  obtain ⟨rfl,rfl⟩:=h.full hB hf
  exact hE env w h.ext h.s (fun p hp=>h.val p hp (hf p hp))
 | succ m ih =>
  intro env l a w h hm
  have hlen:(J.filter fun p=>l.getD p.1 true).length ≠ J.length:=fun e=>by
   have h2:=List.length_filter_eq_length_iff.1 e
   have:(J.filter fun p=>!l.getD p.1 true)=[]:=List.filter_eq_nil_iff.2 (fun p hp=>by simp [h2 p hp])
   rw [this] at hm;cases hm
  obtain ⟨r1,r2⟩:=b3 _ (kH (fun p=>l.getD p.1 true) J) hlen (fun p hp q hq hd=>List.mem_filter.2 ⟨hq,h.cl p (List.mem_filter.1 hp).1 (List.mem_filter.1 hp).2 q hq hd⟩)
  rw [← h.eqL hB] at r1 r2
  refine ⟨fun e=>absurd e r1,fun i hi=>?_⟩
  obtain ⟨p,hp,rfl⟩:=r2 i hi
  obtain ⟨o,ho,hds,c1,c2⟩:=h.comes hs hB hM hp hi
  have hun:=(mem_ready.1 hi).1
  have hpl:p.1 < l.size:=by rw [h.lsz];exact (b1 p hp).1
  have key:∀ v u w',(o.dst ≠ none→v=u)→Grw w w'→V p.1 v w'→S w'∧wpAnyH P md ops Q S (fuel+m) (l.setIfInBounds p.1 true) (a.put o.dst u) w':=by
   intro v u w' hvu he hv
   refine ⟨hSE _ _ h.s he,ih (fun i=>if i=p.1 then v else env i) _ _ _ ?_ ?_⟩
   ·have hg:∀ q,q ∈ J→(l.setIfInBounds p.1 true).getD q.1 true=true→q.1=p.1 ∨ (q.1 ≠ p.1∧l.getD q.1 true=true):=fun q hq hh=>by
     by_cases e:q.1=p.1
     ·exact .inl e
     rw [getD_set_ne true (Ne.symm e)] at hh;exact .inr ⟨e,hh⟩
    have hsame:∀ q,q ∈ J→q.1=p.1→q.2=p.2:=fun q hq e=>by rw [← (b1 q hq).2.2.1,e,(b1 p hp).2.2.1]
    refine ⟨h.ext.trans he,hSE _ _ h.s he,by rw [Array.size_setIfInBounds];exact h.lsz,fun i hi'=>?_,by rw [lL];exact h.dfr,by rw [pM];exact h.tsz,fun q hq hh=>?_,fun q hq hh t ht=>?_,fun t ht=>?_,fun q hq hh r hr hd=>?_⟩
    ·rw [Array.getElem?_setIfInBounds_ne (hi' p hp)];exact h.lout i hi'
    ·rcases hg q hq hh with e | ⟨e, h2⟩
     ·simp only [e,if_true];exact hv
     simp only [e,if_false];exact hVE _ _ _ _ (h.val q hq h2) he
    ·rw [kT]
     rcases hg q hq hh with e | ⟨e,h2⟩
     ·have h3 := hsame q hq e
      rw [if_pos ⟨by rw [hds,← h3];exact ht,by rw [h.tsz];exact (b1 q hq).2.2.2 t ht⟩]
      simp only [e,if_true]
      exact (hvu (by rw [hds,← h3,ht];simp)).symm
     rw [if_neg (fun hh=>b2 q hq p hp e t ht (by rw [← hds];exact hh.1)),h.hit q hq h2 t ht]
     simp only [e,if_false]
    ·rw [kT, if_neg (fun hh => ht p hp (by simp [hpl]) (by rw [← hds]; exact hh.1))]
     refine h.miss t (fun q hq h2=>ht q hq ?_)
     by_cases e:q.1=p.1
     ·rw [e];simp [hpl]
     rw [getD_set_ne true (Ne.symm e)];exact h2
    have hlr:l.getD r.1 true=true:=by
     rcases hg q hq hh with e | ⟨e,h2⟩
     ·rw [e] at hd
      unfold depB at hd
      rw [ho] at hd
      simp only [List.any_eq_true,Bool.and_eq_true,beq_iff_eq,Array.mem_toList_iff] at hd
      obtain ⟨ed,hed,hb,heq⟩:=hd
      obtain ⟨_,o',ho',hall⟩:=mem_ready.1 hi
      rw [ho] at ho';cases ho'
      have h3:=hall ed hed hb
      rw [heq] at h3
      have hrl:r.1 < l.size:=by rw [h.lsz];exact (b1 r hr).1
      simp only [Array.getD_eq_getD_getElem?] at h3 ⊢
      rw [Array.getElem?_eq_getElem hrl] at h3 ⊢
      exact h3
     exact h.cl q hq h2 r hr hd
    by_cases e:r.1=p.1
    ·rw [e];simp [hpl]
    rw [getD_set_ne true (Ne.symm e)];exact hlr
   have hc:(J.filter fun q=>!(l.setIfInBounds p.1 true).getD q.1 true)=J.filter fun q=>!(if q.1=p.1 then true else l.getD q.1 true):=by
    apply List.filter_congr
    intro q hq
    by_cases e:q.1=p.1
    ·rw [e];simp [hpl]
    rw [getD_set_ne true (Ne.symm e),if_neg e]
   rw [hc]
   have:=rH (fun i=>l.getD i true) p.1 J (yA hB) ⟨p,hp,rfl⟩ hun
   omega
  unfold wpOp
  rw [ho]
  simp only
  split
  ·rename_i hw
   exact .inl (rL (c1 hw) (fun u w' hR=>by obtain ⟨v,h1,h2,h3⟩:=hR;exact key v u w' h1 h2 h3))
  rename_i hw
  exact key undef undef w (fun _=>rfl) (Grw.refl w) (c2 (by simpa using hw))
theorem VN.ext:∀ j v w w',VN j v w→Grw w w'→VN j v w':=fun _ _ _ _ _ _=>trivial
theorem VV.ext {j0:Nat} {A:Value→World→Prop} {R:Nat→Value→World→Prop} (hA:∀ v w w',A v w→Grw w w'→A v w') (hR:∀ j v w w',R j v w→Grw w w'→R j v w'):∀ j v w w',VV j0 A R j v w→Grw w w'→VV j0 A R j v w':=fun j v w w' h e=>by
 unfold VV at *
 split at h
 ·rename_i hj;rw [if_pos hj];exact hA _ _ _ h e
 rename_i hj;rw [if_neg hj];exact hR _ _ _ _ h e
theorem Member.mk' {j:Nat} (o:Oper) (D:List (Nat × Option Tmp)) (ho:ops[j]?=some o) (hg:o.guard=none) (hm:kE md ops J D o=true)
  (h:∀ env w,Grw w0 w→S w→(∀ p ∈ D,V p.1 (env p.1) w)→∀ K:Act→World→Prop,Shut (∀ u w',Grw w w'→V j u w'→K ((bD a0 D env).put o.dst u) w')→o.wp P (bD a0 D env) w K (fun _ _ _=>False)):Member P md ops S V J a0 w0 j :=
 ⟨o,D,ho,hm,fun env w h1 h2 h3=>⟨fun _ K hK=>h env w h1 h2 h3 K hK,fun hw=>by simp [Region.wanted,hg] at hw⟩⟩
theorem cJ (V:Nat→Value→World→Prop) (J:List (Nat × Option Tmp)) (hs:Region.noSelect ops=true) (hB:fT md ops l0 a0.tmps.size J=true)
  (hSE:∀ w w',S w→Grw w w'→S w') (hVE:∀ j v w w',V j v w→Grw w w'→V j v w') (h0:S w0) (hM:∀ p ∈ J,Member P md ops S V J a0 w0 p.1) {fuel m:Nat} (hm:m=fuel+J.length)
  (hE:∀ env w,Grw w0 w→S w→(∀ p ∈ J,V p.1 (env p.1) w)→wpAnyH P md ops Q S fuel (eV l0 J) (bD a0 J env) w):wpAnyH P md ops Q S m l0 a0 w0:=by
 obtain ⟨b1,b2,b3⟩:=dR hB
 subst hm
 refine kL hs hB hSE hVE hM hE J.length (fun _=>undef) l0 a0 w0 ⟨Grw.refl _,h0,rfl,fun _ _=>rfl,rfl,rfl,fun p hp h=>?_,fun p hp h=>?_,fun _ _=>rfl,fun p hp h=>?_⟩ ?_
 ·rw [(b1 p hp).2.1] at h;cases h
 ·rw [(b1 p hp).2.1] at h;cases h
 ·rw [(b1 p hp).2.1] at h;cases h
 congr 1
 exact List.filter_eq_self.2 (fun p hp=>by rw [(b1 p hp).2.1];rfl)
end
end
theorem lM (x:UInt64) (w:World) :
  Calls Tryz.prog 167 #[.agg (nmc x)] w fun e w'=>e=.returned (.int .u64 (un x))∧Grw w w':=by
 have hs:=cP x
 have hl:=aG x
 go_enter Tryz.func167,Tryz.ntmps167
 go_wp2_with (refine wpList_load_row rfl 30 _ rfl _ rfl 30 _ (0,0) _ (heap_alloc_new w _) Tryz.underlying30 rfl (eI x) ?_)
 go_loop [3,7] (fun v i=>∃ k:Nat,k≤8∧i=.int .i64 k∧v=.int .u64 (bH ((nmb x).take k))) (fun _ i=>8 - (intOf i).toNat)
 case atStart=>exact ⟨0,by omega,rfl,rfl⟩
 case round =>
  obtain ⟨k,hk,rfl,rfl⟩:=hrel
  by_cases hlt:k < 8
  ·have hix := jJ x k hlt
   have hb:=lC ((nmb x).take k)
   rw [List.length_take,hl,Nat.min_eq_left (by omega)] at hb
   have hb7:bH ((nmb x).take k) < 72057594037927936:=Nat.lt_of_lt_of_le hb (Nat.pow_le_pow_right (n:=256) (j:=7) (by omega) (by omega))
   have hor:=sW _ ((nmb x).getD k 0) hb7
   have HS:=zh (show bH ((nmb x).take (k+1))=bH ((nmb x).take k) * 256+((nmb x).getD k 0).toNat by rw [mG _ _ (by omega),fV])
   clear hb hb7 hl hs
   generalize bH ((nmb x).take k)=a at *
   generalize (nmb x).getD k 0=c at *
   go_wp2
   go_round
   case rel=>exact ⟨k+1,by omega,by go_num,by rw [HS.out];go_num⟩
   case measure=>simp [intOf];omega
  have HS:=zh (show (bH ((nmb x).take k):Int)=un x by rw [List.take_of_length_le (by omega),nM];rfl)
  clear hl hs
  generalize bH ((nmb x).take k)=a at *
  go_wp2
  go_ret
  exact ⟨by rw [← HS.out];rfl,(Grw.refl w).alloc _⟩
theorem compareNames_any (a b:UInt64) (w:World):Calls Tryz.prog 108 #[.agg (nmc a),.agg (nmc b)] w fun e w'=>e=.returned (.int .i64 (jT a b))∧Grw w w':=by
 have HA:=zh (show Blk ((w.alloc (.cells (nmc a) 30)).alloc (.cells (nmc b) 30)).drew w.heap.size 30 (nmc a) from ((Blk.new w 30 (nmc a)).alloc _).drew)
 have HB:=zh (show Blk ((w.alloc (.cells (nmc a) 30)).alloc (.cells (nmc b) 30)).drew (w.heap.size+1) 30 (nmc b) from Blk.drew (Blk.newAt _ _ _ _ (by simp)))
 have HE:=zh (show Grw w ((w.alloc (.cells (nmc a) 30)).alloc (.cells (nmc b) 30)).drew from (((Grw.refl w).alloc _).alloc _).drew)
 go_enter Tryz.func108,Tryz.ntmps108
 go_wp2_with fail
 refine wp_region_held_drew (S:=fun W=>Blk W w.heap.size 30 (nmc a)∧Blk W (w.heap.size+1) 30 (nmc b)) (by kernel_rfl) (⟨HA.out,HB.out⟩) (fun aA=>?_)
 refine zu 0 (v:=.agg (nmc a)) aA ?_ (hy:=by exact aF nmP (by rfl) (.tmp 2) rfl (w.heap.size) 0 rfl a _ rfl (fun W h=>bM h.1))
 refine zu 2 (v:=.agg (nmc b)) aA ?_ (hy:=by exact aF nmP (by rfl) (.tmp 3) rfl (w.heap.size+1) 0 rfl b _ rfl (fun W h=>bM h.2))
 refine cJ (VV 1 (fun v W=>v=.int .u64 (un a)) (VV 3 (fun v W=>v=.int .u64 (un b)) (VV 4 (fun v W=>v=.int .i64 (jT a b)) (VN)))) [(1,some 6),(3,some 8),(4,some 9)] (fuel:=1) (by kernel_rfl) (by kernel_rfl) (fun W W' h e=>⟨h.1.ext e,h.2.ext e⟩) (VV.ext (fun v w w' h e=>h) (VV.ext (fun v w w' h e=>h) (VV.ext (fun v w w' h e=>h) (VN.ext)))) aA ?hm1 rfl ?hr1
 case hm1 =>
  refine Members.cons ?mm1_1 (Members.cons ?mm1_3 (Members.cons ?mm1_4 (Members.nil _)))
  case mm1_1 =>
   refine Member.mk' ({ dst:=some 6,op:=Op.call { callee:=Callee.value (Operand.func 167),args:=#[Operand.tmp 5],argTypes:=#[30] },type:=148,pos:="state.go:26",after:=#[{ on:=0,ground:=Ground.data }],guard:=none }) [] rfl rfl (by kernel_rfl) (fun env W hE hS hD K hK=>?_)
   clear hD
   try simp only [bD,List.foldl_cons,List.foldl_nil,Act.put,List.setIfInBounds_toArray,List.set_cons_zero,List.set_cons_succ]
   go_simp
   go_at_call 167
   refine (lM a _).mono ?_
   rintro e w5 ⟨rfl,he5⟩
   have hk:=hK.out (.int .u64 (un a)) _ (he5) (rfl)
   try simp only [bD,List.foldl_cons,List.foldl_nil,Act.put,List.setIfInBounds_toArray,List.set_cons_zero,List.set_cons_succ] at hk
   exact hk
  case mm1_3 =>
   refine Member.mk' ({ dst:=some 8,op:=Op.call { callee:=Callee.value (Operand.func 167),args:=#[Operand.tmp 7],argTypes:=#[30] },type:=148,pos:="state.go:26",after:=#[{ on:=2,ground:=Ground.data },{ on:=1,ground:=Ground.chain }],guard:=none }) [] rfl rfl (by kernel_rfl) (fun env W hE hS hD K hK=>?_)
   clear hD
   try simp only [bD,List.foldl_cons,List.foldl_nil,Act.put,List.setIfInBounds_toArray,List.set_cons_zero,List.set_cons_succ]
   go_simp
   go_at_call 167
   refine (lM b _).mono ?_
   rintro e w5 ⟨rfl,he5⟩
   have hk:=hK.out (.int .u64 (un b)) _ (he5) (rfl)
   try simp only [bD,List.foldl_cons,List.foldl_nil,Act.put,List.setIfInBounds_toArray,List.set_cons_zero,List.set_cons_succ] at hk
   exact hk
  case mm1_4 =>
   refine Member.mk' ({ dst:=some 9,op:=Op.call { callee:=Callee.value (Operand.func 166),args:=#[Operand.tmp 6,Operand.tmp 8],argTypes:=#[148,148] },type:=3,pos:="state.go:26",after:=#[{ on:=1,ground:=Ground.data },{ on:=3,ground:=Ground.data },{ on:=3,ground:=Ground.chain }],guard:=none }) [(1,some 6),(3,some 8)] rfl rfl (by kernel_rfl) (fun env W hE hS hD K hK=>?_)
   have h1:(fun v W=>v=.int .u64 (un a)) (env 1) W:=hD (1,some 6) (by simp)
   have h3:(fun v W=>v=.int .u64 (un b)) (env 3) W:=hD (3,some 8) (by simp)
   clear hD
   try simp only [bD,List.foldl_cons,List.foldl_nil,Act.put,List.setIfInBounds_toArray,List.set_cons_zero,List.set_cons_succ] at hK ⊢
   generalize env 1=x1 at h1 hK ⊢
   generalize env 3=x3 at h3 hK ⊢
   subst h1
   subst h3
   go_simp
   go_at_call 166
   refine (aAE _ _ _).mono ?_
   rintro e w5 ⟨rfl,rfl⟩
   have hk:=hK.out (.int .i64 (jT a b)) _ (Grw.refl _) (rfl)
   try simp only [bD,List.foldl_cons,List.foldl_nil,Act.put,List.setIfInBounds_toArray,List.set_cons_zero,List.set_cons_succ] at hk
   exact hk
 case hr1 =>
  intro env W hE hS hV
  have h1:(fun v W=>v=.int .u64 (un a)) (env 1) W:=hV (1,some 6) (by simp)
  have h3:(fun v W=>v=.int .u64 (un b)) (env 3) W:=hV (3,some 8) (by simp)
  have h4:(fun v W=>v=.int .i64 (jT a b)) (env 4) W:=hV (4,some 9) (by simp)
  clear hV
  try simp only [bD,List.foldl_cons,List.foldl_nil,Act.put,List.setIfInBounds_toArray,List.set_cons_zero,List.set_cons_succ]
  generalize env 1=x1 at h1 ⊢
  generalize env 3=x3 at h3 ⊢
  generalize env 4=x4 at h4 ⊢
  subst h1
  subst h3
  subst h4
  have aA:=hS
  refine zt 5 aA ?_
  refine wpAnyH_done (by kernel_rfl) ?_ _
  have HX:=zh (HE.out.trans hE)
  go_wp2_with fail
  go_ret
  exact ⟨rfl,HX.out⟩
theorem compareC_any (a b:CeR) (w:World):Calls Tryz.prog 65 #[.agg (ceA a),.agg (ceA b)] w fun e w'=>e=.returned (.int .i64 (jC a b))∧Grw w w':=by
 have HA:=zh (show Blk ((w.alloc (.cells (ceA a) 32)).alloc (.cells (ceA b) 32)).drew w.heap.size 32 (ceA a) from ((Blk.new w 32 (ceA a)).alloc _).drew)
 have HB:=zh (show Blk ((w.alloc (.cells (ceA a) 32)).alloc (.cells (ceA b) 32)).drew (w.heap.size+1) 32 (ceA b) from Blk.drew (Blk.newAt _ _ _ _ (by simp)))
 have HE:=zh (show Grw w ((w.alloc (.cells (ceA a) 32)).alloc (.cells (ceA b) 32)).drew from (((Grw.refl w).alloc _).alloc _).drew)
 go_enter Tryz.func65,Tryz.ntmps65
 go_wp2_with fail
 refine wp_region_held_drew (S:=fun W=>Blk W w.heap.size 32 (ceA a)∧Blk W (w.heap.size+1) 32 (ceA b)) (by kernel_rfl) (⟨HA.out,HB.out⟩) (fun aA=>?_)
 refine zz0 [0,1,2,3,5,6,7,8,10] ?_;repeat first | refine zz1 ?_ (hy:=by intro W aM;have c0:=aM.1.cell 0;have c1:=aM.1.cell 1;have d0:=aM.2.cell 0;have d1:=aM.2.cell 1;go_simp <;> with_reducible rfl) | refine zz2 ?_ | refine zz9 ?_
 refine zu 11 (v:=.agg (nmc a.lk)) aA ?_ (hy:=by exact aF nmP (by rfl) (.tmp 15) rfl (w.heap.size) 2 rfl a.lk _ rfl (fun W h=>nL h.1))
 refine zt 12 aA ?_
 refine zu 13 (v:=.agg (nmc b.lk)) aA ?_ (hy:=by exact aF nmP (by rfl) (.tmp 17) rfl (w.heap.size+1) 2 rfl b.lk _ rfl (fun W h=>nL h.2))
 refine cJ (VV 4 (fun v W=>v=.int .i64 (gL a.k b.k)) (VV 9 (fun v W=>v=.int .i64 (gL a.id b.id)) (VV 14 (fun v W=>v=.int .i64 (jT a.lk b.lk)) (VV 15 (fun v W=>∃ g,v=.slice (some ⟨g,0,none⟩) 3 3∧Blk W g 3 #[.int .i64 (gL a.k b.k),.int .i64 (gL a.id b.id),.int .i64 (jT a.lk b.lk)]) (VV 16 (fun v W=>v=.int .i64 (jC a b)) (VN)))))) [(4,some 9),(9,some 14),(14,some 19),(15,some 20),(16,some 21)] (fuel:=1) (by kernel_rfl) (by kernel_rfl) (fun W W' h e=>⟨h.1.ext e,h.2.ext e⟩) (VV.ext (fun v w w' h e=>h) (VV.ext (fun v w w' h e=>h) (VV.ext (fun v w w' h e=>h) (VV.ext (fun v w w' ⟨g,h1,h2⟩ e=>⟨g,h1,h2.ext e⟩) (VV.ext (fun v w w' h e=>h) (VN.ext)))))) aA ?hm2 rfl ?hr2
 case hm2 =>
  refine Members.cons ?mm2_4 (Members.cons ?mm2_9 (Members.cons ?mm2_14 (Members.cons ?mm2_15 (Members.cons ?mm2_16 (Members.nil _)))))
  case mm2_4 =>
   refine Member.mk' ({ dst:=some 9,op:=Op.call { callee:=Callee.value (Operand.func 127),args:=#[Operand.tmp 6,Operand.tmp 8],argTypes:=#[3,3] },type:=3,pos:="state.go:30",after:=#[{ on:=1,ground:=Ground.data },{ on:=3,ground:=Ground.data }],guard:=none }) [] rfl rfl (by kernel_rfl) (fun env W hE hS hD K hK=>?_)
   clear hD
   try simp only [bD,List.foldl_cons,List.foldl_nil,Act.put,List.setIfInBounds_toArray,List.set_cons_zero,List.set_cons_succ]
   go_simp
   go_at_call 127
   refine (qJ _ _ _).mono ?_
   rintro e w5 ⟨rfl,rfl⟩
   have hk:=hK.out (.int .i64 (gL a.k b.k)) _ (Grw.refl _) (rfl)
   try simp only [bD,List.foldl_cons,List.foldl_nil,Act.put,List.setIfInBounds_toArray,List.set_cons_zero,List.set_cons_succ] at hk
   exact hk
  case mm2_9 =>
   refine Member.mk' ({ dst:=some 14,op:=Op.call { callee:=Callee.value (Operand.func 127),args:=#[Operand.tmp 11,Operand.tmp 13],argTypes:=#[3,3] },type:=3,pos:="state.go:30",after:=#[{ on:=6,ground:=Ground.data },{ on:=8,ground:=Ground.data },{ on:=4,ground:=Ground.chain }],guard:=none }) [] rfl rfl (by kernel_rfl) (fun env W hE hS hD K hK=>?_)
   clear hD
   try simp only [bD,List.foldl_cons,List.foldl_nil,Act.put,List.setIfInBounds_toArray,List.set_cons_zero,List.set_cons_succ]
   go_simp
   go_at_call 127
   refine (qJ _ _ _).mono ?_
   rintro e w5 ⟨rfl,rfl⟩
   have hk:=hK.out (.int .i64 (gL a.id b.id)) _ (Grw.refl _) (rfl)
   try simp only [bD,List.foldl_cons,List.foldl_nil,Act.put,List.setIfInBounds_toArray,List.set_cons_zero,List.set_cons_succ] at hk
   exact hk
  case mm2_14 =>
   refine Member.mk' ({ dst:=some 19,op:=Op.call { callee:=Callee.value (Operand.func 108),args:=#[Operand.tmp 16,Operand.tmp 18],argTypes:=#[30,30] },type:=3,pos:="state.go:30",after:=#[{ on:=11,ground:=Ground.data },{ on:=13,ground:=Ground.data },{ on:=9,ground:=Ground.chain }],guard:=none }) [] rfl rfl (by kernel_rfl) (fun env W hE hS hD K hK=>?_)
   clear hD
   try simp only [bD,List.foldl_cons,List.foldl_nil,Act.put,List.setIfInBounds_toArray,List.set_cons_zero,List.set_cons_succ]
   go_simp
   go_at_call 108
   refine (compareNames_any a.lk b.lk _).mono ?_
   rintro e w5 ⟨rfl,he5⟩
   have hk:=hK.out (.int .i64 (jT a.lk b.lk)) _ (he5) (rfl)
   try simp only [bD,List.foldl_cons,List.foldl_nil,Act.put,List.setIfInBounds_toArray,List.set_cons_zero,List.set_cons_succ] at hk
   exact hk
  case mm2_15 =>
   refine Member.mk' ({ dst:=some 20,op:=Op.buildSlice 38 3 #[(0,Operand.tmp 9),(1,Operand.tmp 14),(2,Operand.tmp 19)],type:=38,pos:="state.go:30",after:=#[{ on:=4,ground:=Ground.data },{ on:=9,ground:=Ground.data },{ on:=14,ground:=Ground.data }],guard:=none }) [(4,some 9),(9,some 14),(14,some 19)] rfl rfl (by kernel_rfl) (fun env W hE hS hD K hK=>?_)
   have h4:(fun v W=>v=.int .i64 (gL a.k b.k)) (env 4) W:=hD (4,some 9) (by simp)
   have h9:(fun v W=>v=.int .i64 (gL a.id b.id)) (env 9) W:=hD (9,some 14) (by simp)
   have h14:(fun v W=>v=.int .i64 (jT a.lk b.lk)) (env 14) W:=hD (14,some 19) (by simp)
   clear hD
   try simp only [bD,List.foldl_cons,List.foldl_nil,Act.put,List.setIfInBounds_toArray,List.set_cons_zero,List.set_cons_succ] at hK ⊢
   generalize env 4=x4 at h4 hK ⊢
   generalize env 9=x9 at h9 hK ⊢
   generalize env 14=x14 at h14 hK ⊢
   subst h4
   subst h9
   subst h14
   refine aEE (.tmp 9) (.tmp 14) (.tmp 19) rfl rfl rfl rfl (aBl _ _ _ W) ?_
   have hk:=hK.out (.slice (some ⟨W.heap.size,0,none⟩) 3 3) _ ((Grw.refl _).alloc _) (⟨_,rfl,Blk.new _ _ _⟩)
   try simp only [bD,List.foldl_cons,List.foldl_nil,Act.put,List.setIfInBounds_toArray,List.set_cons_zero,List.set_cons_succ] at hk
   exact hk
  case mm2_16 =>
   refine Member.mk' ({ dst:=some 21,op:=Op.call { callee:=Callee.value (Operand.func 126),args:=#[Operand.tmp 20],argTypes:=#[38] },type:=3,pos:="state.go:30",after:=#[{ on:=15,ground:=Ground.data },{ on:=14,ground:=Ground.chain }],guard:=none }) [(15,some 20)] rfl rfl (by kernel_rfl) (fun env W hE hS hD K hK=>?_)
   have h15:(fun v W=>∃ g,v=.slice (some ⟨g,0,none⟩) 3 3∧Blk W g 3 #[.int .i64 (gL a.k b.k),.int .i64 (gL a.id b.id),.int .i64 (jT a.lk b.lk)]) (env 15) W:=hD (15,some 20) (by simp)
   clear hD
   try simp only [bD,List.foldl_cons,List.foldl_nil,Act.put,List.setIfInBounds_toArray,List.set_cons_zero,List.set_cons_succ] at hK ⊢
   generalize env 15=x15 at h15 hK ⊢
   obtain ⟨g,rfl,hb⟩:=h15
   go_simp
   go_at_call 126
   refine (aHY _ _ _ g _ hb).mono ?_
   rintro e w5 ⟨rfl,rfl⟩
   have hk:=hK.out (.int .i64 (jC a b)) _ (Grw.refl _) (rfl)
   try simp only [bD,List.foldl_cons,List.foldl_nil,Act.put,List.setIfInBounds_toArray,List.set_cons_zero,List.set_cons_succ] at hk
   exact hk
 case hr2 =>
  intro env W hE hS hV
  have h4:(fun v W=>v=.int .i64 (gL a.k b.k)) (env 4) W:=hV (4,some 9) (by simp)
  have h9:(fun v W=>v=.int .i64 (gL a.id b.id)) (env 9) W:=hV (9,some 14) (by simp)
  have h14:(fun v W=>v=.int .i64 (jT a.lk b.lk)) (env 14) W:=hV (14,some 19) (by simp)
  have h15:(fun v W=>∃ g,v=.slice (some ⟨g,0,none⟩) 3 3∧Blk W g 3 #[.int .i64 (gL a.k b.k),.int .i64 (gL a.id b.id),.int .i64 (jT a.lk b.lk)]) (env 15) W:=hV (15,some 20) (by simp)
  have h16:(fun v W=>v=.int .i64 (jC a b)) (env 16) W:=hV (16,some 21) (by simp)
  clear hV
  try simp only [bD,List.foldl_cons,List.foldl_nil,Act.put,List.setIfInBounds_toArray,List.set_cons_zero,List.set_cons_succ]
  generalize env 4=x4 at h4 ⊢
  generalize env 9=x9 at h9 ⊢
  generalize env 14=x14 at h14 ⊢
  generalize env 15=x15 at h15 ⊢
  generalize env 16=x16 at h16 ⊢
  subst h4
  subst h9
  subst h14
  subst h16
  obtain ⟨g,rfl,hb⟩:=h15
  have aA:=hS
  refine zt 17 aA ?_
  refine wpAnyH_done (by kernel_rfl) ?_ _
  have HX:=zh (HE.out.trans hE)
  go_wp2_with fail
  go_ret
  exact ⟨rfl,HX.out⟩
end GW
theorem compareNames_any (a b:UInt64) (w:World):Calls Tryz.prog 108 #[.agg (nmc a),.agg (nmc b)] w fun e w'=>e=.returned (.int .i64 (jT a b))∧Ext w w':=(GW.compareNames_any a b w).mono fun _ _ h=>⟨h.1,h.2.1⟩
theorem compareC_any (a b:CeR) (w:World):Calls Tryz.prog 65 #[.agg (ceA a),.agg (ceA b)] w fun e w'=>e=.returned (.int .i64 (jC a b))∧Ext w w':=(GW.compareC_any a b w).mono fun _ _ h=>⟨h.1,h.2.1⟩
section
attribute [local go_sem ↓] Go.wp_at_zero Go.wp_at_succ
theorem aCg {w:World} {g:Nat} {t:TypeId} {x:DeR} (h:Blk w g t (deA x)):w.rangeAt g 0 (RowT.enc x.c):=by
 have:=aU (k:=10) (aD h)
 exact this
theorem aAG (a b:DeR) (w:World):Calls Tryz.prog 105 #[.agg (deA a),.agg (deA b)] w fun e w'=>e=.returned (.int .i64 (jC a.c b.c))∧Ext w w':=by
 have HA:=zh (show Blk ((w.alloc (.cells (deA a) 34)).alloc (.cells (deA b) 34)) w.heap.size 34 (deA a) from (Blk.new w 34 (deA a)).alloc _)
 have HB:=zh (show Blk ((w.alloc (.cells (deA a) 34)).alloc (.cells (deA b) 34)) (w.heap.size+1) 34 (deA b) from Blk.newAt _ _ _ _ (by simp))
 have HE:=zh (show Ext w ((w.alloc (.cells (deA a) 34)).alloc (.cells (deA b) 34)) from ((Ext.refl w).alloc' _).alloc' _)
 have r0:((w.alloc (.cells (deA a) 34)).alloc (.cells (deA b) 34)).rangeAt w.heap.size 0 (RowT.enc a.c):=aCg HA.out
 have r1:((w.alloc (.cells (deA a) 34)).alloc (.cells (deA b) 34)).rangeAt (w.heap.size+1) 0 (RowT.enc b.c):=aCg HB.out
 go_enter Tryz.func105,Tryz.ntmps105
 go_wp2_with (first | (with_reducible refine aB ceP rfl (.tmp 5) rfl w.heap.size 0 rfl a.c _ rfl r0 ?_) | (with_reducible refine aB ceP rfl (.tmp 7) rfl (w.heap.size+1) 0 rfl b.c _ rfl r1 ?_))
 refine (compareC_any a.c b.c _).mono ?_
 rintro e w5 ⟨rfl,he5⟩
 have HX:=zh (HE.out.trans he5)
 clear he5 r0 r1
 go_wp2_with fail
 go_ret
 exact ⟨rfl,HX.out⟩
theorem aAf {w:World} {g:Nat} {t:TypeId} {x:LkR} (h:Blk w g t (lkA x)):w.rangeAt g 0 (RowT.enc x.nm):=by
 have:=aU (k:=8) (aD h)
 rw [show (lkA x).toList=lkL x from rfl,aJq,List.take_append_of_le_length (by rw [aJ,aG];exact Nat.le_refl _),List.take_of_length_le (by rw [aJ,aG];exact Nat.le_refl _)] at this;exact this
theorem aAF (a b:LkR) (w:World):Calls Tryz.prog 155 #[.agg (lkA a),.agg (lkA b)] w fun e w'=>e=.returned (.int .i64 (jT a.nm b.nm))∧Ext w w':=by
 have HA:=zh (show Blk ((w.alloc (.cells (lkA a) 94)).alloc (.cells (lkA b) 94)) w.heap.size 94 (lkA a) from (Blk.new w 94 (lkA a)).alloc _)
 have HB:=zh (show Blk ((w.alloc (.cells (lkA a) 94)).alloc (.cells (lkA b) 94)) (w.heap.size+1) 94 (lkA b) from Blk.newAt _ _ _ _ (by simp))
 have HE:=zh (show Ext w ((w.alloc (.cells (lkA a) 94)).alloc (.cells (lkA b) 94)) from ((Ext.refl w).alloc' _).alloc' _)
 have r0:((w.alloc (.cells (lkA a) 94)).alloc (.cells (lkA b) 94)).rangeAt w.heap.size 0 (RowT.enc a.nm):=aAf HA.out
 have r1:((w.alloc (.cells (lkA a) 94)).alloc (.cells (lkA b) 94)).rangeAt (w.heap.size+1) 0 (RowT.enc b.nm):=aAf HB.out
 go_enter Tryz.func155,Tryz.ntmps155
 go_wp2_with (first | (with_reducible refine aB nmP rfl (.tmp 5) rfl w.heap.size 0 rfl a.nm _ rfl r0 ?_) | (with_reducible refine aB nmP rfl (.tmp 7) rfl (w.heap.size+1) 0 rfl b.nm _ rfl r1 ?_))
 refine (compareNames_any a.nm b.nm _).mono ?_
 rintro e w5 ⟨rfl,he5⟩
 have HX:=zh (HE.out.trans he5)
 clear he5 r0 r1
 go_wp2_with fail
 go_ret
 exact ⟨rfl,HX.out⟩
end
end
end Go.Proofs.YtohmmcahpakokaaGreat
