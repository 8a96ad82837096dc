import Derived.Test.YtgmnmjeccfnmbaaGreatE09
set_option maxRecDepth 100000
set_option maxHeartbeats 8000000
set_option linter.unusedSectionVars false
set_option linter.unusedVariables false
set_option linter.unusedSimpArgs false
namespace Go.Proofs.YtgmnmjeccfnmbaaGreat
open Go.Proofs.Tryz
section
open Go.RowKit
theorem aHJ (v:UInt64) (c p:Int) (a b:Nat):cS (cS v c p a) c (p+a) b=cS v c p (a+b):=by
 induction b with
 | zero=>rfl
 | succ b ih =>
  show dY 33 (nmb (cS (cS v c p a) c (p+a) b) ++ [toB c,toB (p+a+b)])=dY 33 (nmb (cS v c p (a+b)) ++ [toB c,toB (p+((a+b:Nat):Int))])
  rw [ih,show p+(a:Int)+(b:Int)=p+((a+b:Nat):Int) from aa]
theorem aIR (F:Nat→UInt64) (n c:Nat) (h:c < n):dO ((List.range n).map F) c=F c:=by
 unfold dO;simp [List.getD,h]
theorem aKc (seed m:UInt64):aO m (gQ seed m)=xG seed:=by
 unfold aO xG
 have key:(List.range 18).map (pM m (gQ seed m))=(List.range 18).map (aBz seed):=?_
 ·rw [key]
 refine List.map_congr_left fun c hc=>?_
 have hc:c < 18:=List.mem_range.1 hc
 have hd:=aBZ m c hc
 unfold pM gQ aBz
 rw [aIR _ _ _ hc]
 unfold qG
 have h:=aHJ (qE seed c) (c:Int) 0 (dig m c).toNat (15 - dig m c).toNat
 rw [show (0:Int)+((dig m c).toNat:Int)=dig m c from aa,show (dig m c).toNat+(15 - dig m c).toNat=15 from aa] at h
 exact h
theorem yB (ns:List UInt64):(ns.flatMap nmb).length=8 * ns.length:=by
 induction ns with
 | nil=>rfl
 | cons x r ih=>rw [List.flatMap_cons,List.length_append,aK,ih,List.length_cons];omega
theorem aHj (pre rest:List UInt8) (ns:List UInt64) (k at_:Nat) (hp:pre.length=at_) (hk:k < ns.length):kK (pre ++ (ns.flatMap nmb ++ rest)) at_ k=dO ns k:=by
 have hs:ns=ns.take k ++ (dO ns k :: ns.drop (k+1)):=by
  conv=>lhs;rw [← List.take_append_drop k ns]
  rw [List.drop_eq_getElem_cons hk];simp [dO,List.getD,hk]
 have e:(pre ++ (ns.flatMap nmb ++ rest)).drop (at_+k * 8)=nmb (dO ns k) ++ ((ns.drop (k+1)).flatMap nmb ++ rest):=by
  conv=>lhs;rw [hs]
  rw [List.flatMap_append,List.flatMap_cons]
  have hl:(pre ++ (ns.take k).flatMap nmb).length=at_+k * 8:=by
   rw [List.length_append,yB,List.length_take,hp,Nat.min_eq_left aa];omega
  rw [show pre ++ ((ns.take k).flatMap nmb ++ (nmb (dO ns k) ++ (ns.drop (k+1)).flatMap nmb) ++ rest)=(pre ++ (ns.take k).flatMap nmb) ++ (nmb (dO ns k) ++ ((ns.drop (k+1)).flatMap nmb ++ rest)) from by simp only [List.append_assoc]]
  rw [← hl,List.drop_left]
 unfold kK
 rw [e]
 have hl8:=aK (dO ns k)
 rw [show (8:Nat)=(nmb (dO ns k)).length from hl8.symm,List.take_left,xH]
theorem xL (pre rest:List UInt8) (ns:List UInt64) (at_ n:Nat) (hp:pre.length=at_) (hn:ns.length=n):aF (pre ++ (ns.flatMap nmb ++ rest)) at_ n=ns:=by
 subst hn
 refine List.ext_getElem (by simp [aF]) fun k h1 h2=>?_
 simp only [aF,List.getElem_map,List.getElem_range]
 rw [aHj pre rest ns k at_ hp h2]
 simp [dO,List.getD,h2]
theorem qX (pre rest:List UInt8) (seed m:UInt64) (a t:Int) (j at_:Nat) (hp:pre.length=at_) (hj:j < 32):eH (pre ++ ((lT seed a t j m).flatMap nmb ++ rest)) at_ j m=dS (cJ seed a t):=by
 have hl:=oS seed a t
 have h1:(gQ (vJ seed a t (j:Int)) m).length=18:=by simp [gQ]
 have h2:(gP (cJ seed a t) j).length=5:=by rw [rZ,hl,sO j hj]
 unfold eH lT
 rw [List.flatMap_append,List.append_assoc,xL pre _ _ at_ 18 hp h1,aKc]
 rw [show pre ++ ((gQ (vJ seed a t (j:Int)) m).flatMap nmb ++ ((gP (cJ seed a t) j).flatMap nmb ++ rest))=(pre ++ (gQ (vJ seed a t (j:Int)) m).flatMap nmb) ++ ((gP (cJ seed a t) j).flatMap nmb ++ rest) from by simp only [List.append_assoc]]
 rw [xL _ _ _ (at_+144) 5 (by rw [List.length_append,yB,h1,hp]) h2]
 have h:=aDR (cJ seed a t) j aa
 rw [hl] at h
 rw [← h]
 congr 1
 simp [cJ,lX,List.getD,hj]
theorem sB (leaf:Nat) (h:leaf < 1024) (rest:List UInt8):aZ ([toB ((leaf:Int) / 256),toB (leaf:Int)] ++ rest) 0 2=leaf:=by
 have e1:=bM ((leaf:Int) / 256)
 have e2:=bM (leaf:Int)
 simp only [aZ,List.drop_zero,List.cons_append,List.nil_append,List.take_succ_cons,List.take_zero,bT,List.length_cons,List.length_nil]
 omega
theorem aGN (seed m:UInt64) (lv:Int) (leaf:Nat) (h:(lv=1∧leaf < 32) ∨ (lv=2∧leaf < 1024)):∃ s,oI seed lv leaf m=some s∧(s.length:Int)=eT lv∧aZ s 0 2=leaf∧gS (mB seed lv) lv m s=true∧gS (mB seed lv) (3 - lv) m s=false:=by
 have hp1:∀ (a t:Int) (j:Nat) (m:UInt64),j < 32→((lT seed a t j m).flatMap nmb).length=184:=fun a t j m hj=>by rw [yB,aBA _ _ _ _ _ hj]
 rcases h with ⟨rfl,hl⟩ | ⟨rfl,hl⟩
 ·have e := aIm seed m leaf 0 leaf aa hl
  refine ⟨_,e,?_,?_,?_,?_⟩
  ·rw [List.length_append,hp1 _ _ _ _ hl];rfl
  ·exact sB leaf aa _
  ·unfold gS
   rw [if_pos rfl,sB leaf aa _,Nat.mod_eq_of_lt hl]
   have hc:=qX [toB ((leaf:Int) / 256),toB (leaf:Int)] [] seed m 1 ((0:Nat):Int) leaf 2 rfl hl
   rw [List.append_nil] at hc
   rw [hc,List.length_append,hp1 _ _ _ _ hl]
   have hpv:mB seed 1=dS (cJ seed 1 ((0:Nat):Int)):=by unfold mB;rw [if_pos aa];rfl
   rw [hpv]
   simp [hl]
  refine mX _ _ _ _ ?_
  rw [List.length_append,hp1 _ _ _ _ hl,show [toB ((leaf:Int) / 256),toB (leaf:Int)].length=2 from rfl];decide
 have e:=aIl seed m leaf (leaf / 32) (leaf % 32) aa aa hl
 have hr:leaf % 32 < 32:=aa
 have ht:leaf / 32 < 32:=aa
 refine ⟨_,e,?_,?_,?_,?_⟩
 ·rw [List.length_append,List.length_append,hp1 _ _ _ _ hr,hp1 _ _ _ _ ht];rfl
 ·rw [List.append_assoc];exact sB leaf aa _
 ·unfold gS
  rw [if_neg aa,if_pos rfl]
  have hn:=sB leaf hl ((lT seed 1 ((leaf / 32:Nat):Int) (leaf % 32) m).flatMap nmb ++ (lT seed 2 0 (leaf / 32) (dS (cJ seed 1 ((leaf / 32:Nat):Int)))).flatMap nmb)
  rw [← List.append_assoc] at hn
  rw [hn]
  have hc:=qX [toB ((leaf:Int) / 256),toB (leaf:Int)] ((lT seed 2 0 (leaf / 32) (dS (cJ seed 1 ((leaf / 32:Nat):Int)))).flatMap nmb) seed m 1 ((leaf / 32:Nat):Int) (leaf % 32) 2 rfl hr
  rw [← List.append_assoc] at hc
  have hc2:=qX ([toB ((leaf:Int) / 256),toB (leaf:Int)] ++ (lT seed 1 ((leaf / 32:Nat):Int) (leaf % 32) m).flatMap nmb) [] seed (dS (cJ seed 1 ((leaf / 32:Nat):Int))) 2 0 (leaf / 32) 186 (by rw [List.length_append,hp1 _ _ _ _ hr];rfl) ht
  rw [List.append_nil] at hc2
  rw [hc,hc2,List.length_append,List.length_append,hp1 _ _ _ _ hr,hp1 _ _ _ _ ht]
  have hpv:mB seed 2=dS (cJ seed 2 0):=by unfold mB;rw [if_pos aa];rfl
  rw [hpv]
  simp [hl]
 refine mX _ _ _ _ ?_
 rw [List.length_append,List.length_append,hp1 _ _ _ _ hr,hp1 _ _ _ _ ht,show [toB ((leaf:Int) / 256),toB (leaf:Int)].length=2 from rfl];decide
def cP (ac sq:Int) (L:List OpR) (i:Nat):List DeR :=
 if (bR L i).k=1 then dF (aV ac) (aV (bR L i).tO) (bR L i).am
 else if (bR L i).k=2 then dF (aV ac) (bZ (bI ac sq L (i:Int))) (bR L i).am
 else if (bR L i).k=3 ∨ (bR L i).k=4 then dF (bZ (bR L i).lk) (aV (bR L i).tO) (bR L i).am
 else if (bR L i).k=5 then dF (aV ac) (bY (bR L i).va) (bR L i).am
 else []
def jD (ac sq:Int) (L:List OpR) (n:Nat):List DeR:=(List.range n).flatMap (cP ac sq L)
def iO (ac sq:Int) (L:List OpR):List DeR:=if vTx ac sq L=true then jD ac sq L L.length else []
theorem eL (ac sq:Int) (L:List OpR) (n:Nat):jD ac sq L (n+1)=jD ac sq L n ++ cP ac sq L n:=by
 unfold jD;rw [List.range_succ,List.flatMap_append,List.flatMap_cons,List.flatMap_nil,List.append_nil]
theorem sum_append (l m:List DeR):aJY (l ++ m)=aJY l+aJY m:=by unfold aJY;rw [List.map_append,List.sum_append]
def vI (L:List OpR) (n:Nat):Int:=wr ((L.take n).map OpR.am).sum
def gH (ac sq:Int) (L:List OpR):Int:=if vTx ac sq L=true then vI L L.length else 0
def mV (S:StV) (l:List DeR):StV:=⟨addL S.C l,S.Q,S.K,S.P,S.G⟩
def oV (g:Int) (S:StV) (i:Nat):StV :=
 if fA g i=true∧fA S.G i=false then ⟨addL S.C (dF (bY (i:Int)) cA (cX S.C (bY (i:Int)))),S.Q,S.K,S.P,nN S.G i⟩ else S
def expN (g:Int) (S:StV) (n:Nat):StV:=(List.range n).foldl (oV g) S
def yE (g:Int) (S:StV):StV:=expN g S 10
theorem gM (g:Int) (S:StV) (n:Nat):expN g S (n+1)=oV g (expN g S n) n:=by
 unfold expN;rw [List.range_succ,List.foldl_append];rfl
def gY (ac sq:Int) (L:List OpR) (S:StV) (i:Nat):StV :=
 if (bR L i).k=2 then ⟨S.C,S.Q,fL S.K ⟨bI ac sq L (i:Int),(bR L i).hs,ac,(bR L i).tO,(bR L i).ul⟩,S.P,S.G⟩
 else if (bR L i).k=3 ∨ (bR L i).k=4 then ⟨S.C,S.Q,fC (bR L i).lk S.K,S.P,S.G⟩
 else if (bR L i).k=6 then yE (2 ^ (bR L i).va.toNat) S
 else S
def doO (ac sq:Int) (L:List OpR) (S:StV) (i:Nat):StV:=gY ac sq L (mV S (cP ac sq L i)) i
def doN (ac sq:Int) (L:List OpR) (S:StV) (n:Nat):StV:=(List.range n).foldl (doO ac sq L) S
theorem oW (ac sq:Int) (L:List OpR) (S:StV) (n:Nat):doN ac sq L S (n+1)=doO ac sq L (doN ac sq L S n) n:=by
 unfold doN;rw [List.range_succ,List.foldl_append];rfl
theorem sL (g:Int) (S:StV) (n:Nat):(expN g S n).Q=S.Q∧(expN g S n).P=S.P:=by
 induction n with
 | zero=>exact ⟨rfl,rfl⟩
 | succ n ih =>
  rw [gM];unfold oV;split
  ·exact ih
  exact ih
theorem aMn (ac sq:Int) (L:List OpR) (S:StV) (i:Nat):(gY ac sq L S i).Q=S.Q∧(gY ac sq L S i).P=S.P:=by
 unfold gY
 split
 ·exact ⟨rfl,rfl⟩
 split
 ·exact ⟨rfl,rfl⟩
 split
 ·exact sL _ _ _
 exact ⟨rfl,rfl⟩
theorem oX (ac sq:Int) (L:List OpR) (S:StV) (n:Nat):(doN ac sq L S n).Q=S.Q∧(doN ac sq L S n).P=S.P:=by
 induction n with
 | zero=>exact ⟨rfl,rfl⟩
 | succ n ih =>
  rw [oW]
  have:=aMn ac sq L (mV (doN ac sq L S n) (cP ac sq L n)) n
  exact ⟨this.1.trans ih.1,this.2.trans ih.2⟩
def aDl (Q:List Int) (ac sq:Int):List Int:=if ac < (Q.length:Int) then Q.set ac.toNat (max (Q.getD ac.toNat 0) (sq+1)) else Q
def pL (S:StV) (ac sq:Int) (L:List OpR):StV :=
 if vTx ac sq L=false ∨ cG ac sq L ∈ S.P then S
 else ⟨(doN ac sq L S L.length).C,aDl (doN ac sq L S L.length).Q ac sq,(doN ac sq L S L.length).K,dW (doN ac sq L S L.length).P (cG ac sq L),(doN ac sq L S L.length).G⟩
end
section
open Go.RowKit
attribute [local go_sem ↓] Go.wp_at_zero Go.wp_at_succ
theorem aFR (seed m:UInt64) {sq:Int} (h0:0≤sq) (h1:sq≤31):oI seed 1 sq m=some (yW seed sq.toNat m):=by
 unfold oI
 rw [if_pos ⟨rfl,h0,aa⟩]
theorem SlB.grown {w w':World} {A:Option Addr} {n c X:Nat} {l:List UInt8} {ac sq:Int} {A1 A2:Option Addr} {n1 c1 n2 c2:Nat} {t:TypeId} (h:SlB w A n c l) (hg:w.grownBy w' (some X)) (hb:Blk w X t (stA ac sq A1 n1 c1 A2 n2 c2)):SlB w' A n c l:=by
 refine ⟨h.len,h.le,h.cap,?_⟩
 by_cases hx:bcs l=[]
 ·exact .inl hx
 obtain ⟨b,o,e,hr,hlt⟩:=h.rd.at hx
 refine .inr ⟨b,o,e,aY hr (hg.block b hlt ?_)⟩
 intro e2
 injection e2 with e2
 subst e2
 cases l with
 | nil=>exact hx rfl
 | cons x r =>
  have h0:=hr 0 (bv x) rfl
  rw [Nat.add_zero,hb.cell o] at h0
  match o,h0 with
  | 0,h0=>simp [bv] at h0
  | 1,h0=>simp [bv] at h0
  | 2,h0=>simp [bv] at h0
  | 3,h0=>simp [bv] at h0
  | o+4,h0=>simp at h0
def aNU (w:World) (seed:UInt64) (ac sq:Int) (L:List OpR) (e:Ending) (w':World):Prop :=
 Ext w w'∧((vTx ac sq L=false∧e=.returned (.tuple #[.agg nO,.int .i64 1])) ∨ (vTx ac sq L=true∧∃ T:TxR,e=.returned (.tuple #[.agg (tA T),.int .i64 0])∧T.ok w'∧T.v=(ac,sq,L.map OpR.v,yW seed sq.toNat (cG ac sq L))))
end
section
open Go.RowKit
def dG (na nv:Nat) (ht:Int) (H:List UInt8→UInt64) (ev:OpR→Bool) (ac:Int) (R:OpR) (S:StV):Int :=
 if R.k=3 then match fdK S.K R.lk with
  | none=>6
  | some l=>if R.tO ≠ l.tO ∨ R.am ≠ cX S.C (bZ R.lk) then 7 else if H R.pre ≠ l.hs then 12 else if l.ul≤ht then 102 else 0
 else if R.k=4 then match fdK S.K R.lk with
  | none=>6
  | some l=>if R.tO ≠ l.ow ∨ R.am ≠ cX S.C (bZ R.lk) then 7 else if ht < l.ul then 102 else 0
 else if R.k=6 then (if (nv:Int)≤R.va then 1 else if fA S.G R.va.toNat=true then 7 else if ev R=true then 0 else 12)
 else if R.k=5∧(nv:Int)≤R.va then 1
 else if R.k=5∧fA S.G R.va.toNat=true then 7
 else if R.k ≠ 5∧(na:Int)≤R.tO then 1
 else if R.k=2∧R.ul≤ht then 102
 else if cX S.C (aV ac) < R.am then 100 else 0
def errN (chk:OpR→StV→Int) (ac sq:Int) (L:List OpR) (S:StV):Nat→Int
 | 0=>0
 | n+1=>if errN chk ac sq L S n ≠ 0 then errN chk ac sq L S n else chk (bR L n) (doN ac sq L S n)
theorem aHB {chk:OpR→StV→Int} {ac sq:Int} {L:List OpR} {S:StV} {k:Nat} (h:errN chk ac sq L S k ≠ 0):∀ n,k≤n→errN chk ac sq L S n=errN chk ac sq L S k:=by
  intro n
  induction n with
  | zero => intro hk; have : k = 0 := by omega
            subst this;rfl
  | succ n ih =>
    intro hk
    by_cases e:k=n+1
    · subst e;rfl
    have e1:=ih aa
    show (if _ then _ else _)=_
    rw [if_pos (by rw [e1];exact h),e1]
end
section
open Go.RowKit
attribute [local go_sem ↓] Go.wp_at_zero Go.wp_at_succ
section
variable {α β:Type} [RowT α] [DecidableEq β] {V:α→β} {d dk:Array α} {k j:Nat}
theorem nL (hj:1≤j) (hn:j < d.size):compO ((d.toList.take (j+1)).map V)=if V d[j]! = V d[j - 1]! then compO ((d.toList.take j).map V) else compO ((d.toList.take j).map V) ++ [V d[j]!]:=by
 obtain ⟨i,rfl⟩:∃ i,j=i+1:=⟨j - 1,aa⟩
 have e1:=iI (L:=d.toList) (k:=i+1) (by simpa using hn)
 have e2:=iI (L:=d.toList) (k:=i) gj
 rw [e1,e2,List.map_append,List.map_append,List.map_cons,List.map_nil,List.map_cons,List.map_nil,List.append_assoc,sV,sV]
 simp only [Nat.add_sub_cancel,List.cons_append,List.nil_append]
 exact aFs _ _ _
structure Cm1 (V:α→β) (d:Array α) (k:Nat):Prop where
 pos:1≤k
 le:k≤d.size
 val:compO ((d.toList.take k).map V)=(d.toList.take k).map V
structure Cmp (V:α→β) (d dk:Array α) (k j:Nat):Prop where
 size:dk.size=d.size
 pos:1≤k
 kj:k < j
 jn:j≤d.size
 rest:∀ i,k≤i→dk[i]! = d[i]!
 val:(dk.toList.take k).map V=compO ((d.toList.take j).map V)
theorem Cm1.start (h:1≤d.size):Cm1 V d 1:=⟨Nat.le_refl _,h,by
 have e:=iI (L:=d.toList) (k:=0) (by simp;omega)
 rw [e];rfl⟩
theorem Cm1.next (h:Cm1 V d k) (hk:k < d.size) (hv:V d[k]! ≠ V d[k - 1]!):Cm1 V d (k+1):=⟨by omega,hk,by
 rw [nL h.pos hk,if_neg hv,h.val,iI (L:=d.toList) (k:=k) (by simpa using hk),List.map_append,sV];rfl⟩
theorem Cm1.dup (h:Cm1 V d k) (hk:k < d.size) (hv:V d[k]! = V d[k - 1]!):Cmp V d d k (k+1):=⟨rfl,h.pos,by omega,hk,fun _ _=>rfl,by rw [nL h.pos hk,if_pos hv,h.val]⟩
theorem Cm1.all (h:Cm1 V d k) (hk:d.size≤k):d.toList.map V=compO (d.toList.map V):=by
 have:=h.val
 rw [List.take_of_length_le (by simpa using hk)] at this
 exact this.symm
theorem Cmp.dup (h:Cmp V d dk k j) (hj:j < d.size) (hv:V d[j]! = V d[j - 1]!):Cmp V d dk k (j+1):=⟨h.size,h.pos,by have:=h.kj;omega,hj,h.rest,by rw [nL (by have:=h.kj;omega) hj,if_pos hv];exact h.val⟩
theorem Cmp.keep (h:Cmp V d dk k j) (hj:j < d.size) (hv:V d[j]! ≠ V d[j - 1]!):Cmp V d (dk.setIfInBounds k d[j]!) (k+1) (j+1):=by
 have hkj:=h.kj
 have hk:k < dk.size:=by rw [h.size];omega
 refine ⟨by rw [Array.size_setIfInBounds];exact h.size,aa,aa,hj,fun i hi=>?_,?_⟩
 ·rw [← h.rest i aa]
  by_cases hs:i < dk.size
  ·rw [getElem!_pos _ i (by simpa using hs),getElem!_pos dk i hs,Array.getElem_setIfInBounds (by simpa using hs),if_neg aa]
  rw [getElem!_neg _ i (by simpa using hs),getElem!_neg dk i hs]
 rw [nL aa hj,if_neg hv,← h.val,Array.toList_setIfInBounds,iI (k:=k) (by simpa using hk),List.take_set_of_le (Nat.le_refl _),List.map_append]
 congr 1
 rw [show aS (dk.toList.set k d[j]!) k=d[j]! from by simp [aS,hk]];rfl
theorem Cmp.all (h:Cmp V d dk k j) (hj:d.size≤j):(dk.toList.take k).map V=compO (d.toList.map V):=by
 have:=h.val
 rw [List.take_of_length_le (show (d.toList).length≤j by simpa using hj)] at this
 exact this
end
theorem aEG {P:Program} {t e:TypeId} {z:Value} {size bytes:Nat} (E:Elem P t e z size bytes) (hz1:∀ v ∈ z.cells,v.oneCell'=true) (w:World) (ty:TypeId) (g o n c:Nat) (hn:0 < n) (hc:∀ j,j < n * size→(w.cell? ⟨g,o+j,none⟩).isSome=true) (hf:∀ j,j < n * size→w.frozen? ⟨g,o+j,none⟩=false) :
  (Builtin.clear_ #[t] ty #[.slice (some ⟨g,o,none⟩) n c]).run P w=.ok (.tuple #[]) (w.setCells g o (Builtin.zeroCells z.cells n).toList):=by
 exact ug
section
variable {α:Type} [RowT α] [RowB α] {w0 w:World} {base n c:Nat} {e:TypeId} {A:Option Addr} {d:Array α}
theorem RowS.cutClear (h:RowS w0 w base e A n c d) {g:Nat} (hA:A=some ⟨g,0,none⟩) {k:Nat} (hk:k≤n) (ys:List Value):RowS w0 (w.setCells g (k * RowT.sz α) ys) base e A k c (d.toList.take k).toArray:=by
 have ho:=h.own
 subst hA
 obtain ⟨xs',k1,k2,k3⟩:=xC ys (k * RowT.sz α) w (gcs d.toList) ho
 have h2:=vQ k1 hk dr
 rw [k2,iV] at h2
 exact ⟨h2,fun x hx=>RowB.kept _ _ _ _ _ _ _ _ _ _ _ (h.ow x (List.mem_of_mem_take hx)) ho h.ne k3,Grown.trans h.gr k3,h.ne⟩
theorem RowS.clearOk (h:RowS w0 w base e A n c d) {g:Nat} (hA:A=some ⟨g,0,none⟩) {k:Nat} (hk:k≤n):(∀ j,j < (n - k) * RowT.sz α→(w.cell? ⟨g,k * RowT.sz α+j,none⟩).isSome=true)∧∀ j,j < (n - k) * RowT.sz α→w.frozen? ⟨g,k * RowT.sz α+j,none⟩=false:=by
 have hl:=h.own.1
 have ho:=h.own
 have he:k * RowT.sz α+(n - k) * RowT.sz α=n * RowT.sz α:=dx
 subst hA
 exact ⟨fun j hj=>by rw [ho.cellAt (k * RowT.sz α+j) aa,List.getElem?_eq_getElem aa];rfl,fun j hj=>ho.frozenAt _⟩
end
theorem aBd (s:StR):(ssA s).all (·.oneCell')=true:=by simp [Value.oneCell']
section
variable {ops:Array Oper} {o:Oper} {a:Act} {w:World} {K:Act→World→Prop} {Q:Exit→Act→World→Prop} {X:Prop}
theorem bQ (hgd:o.guard=none) (x y:Operand) (ho:o.op=.store 30 x y) (g:Nat) (v:Value) (s:StR) (hv:Value.agg (ssA s)=v) (hx:a.eval x=.pointer (some ⟨g,0,none⟩)) (hy:a.eval y=v) {z:StR} (hb:Blk w g 30 (ssA z))
  (h:∀ W,Hid (w.setCells g 0 (ssA s).toList=W∧Blk W g 30 (ssA s))→K (a.put o.dst undef) W):if Region.wanted o (yielded ops a.tmps)=true then Oper.wp prog o a w K Q else X:=by
 have hw:Region.wanted o (yielded ops a.tmps)=true:=di
 rw [if_pos hw]
 exact wp_store_mid (P:=prog) (Q:=Q) (op:=o) (K:=K) 30 x y ho g 0 (ssA s) hx (by rw [hy,hv]) (show w.there g 0 (ssA z).size from aI hb) ab (aBd s) (h _ (zh ⟨rfl,aN (ds:=ssA s) hb rfl⟩))
end
theorem dH (s:StR) (w:World) (h:s.ok w) (hn:s.n1≤1000000∧s.n2≤1000000∧s.n3≤1000000∧s.n4≤1000000):Calls prog 25 #[.agg (ssA s)] w (jB w s.V):=by
 have HP:=zh (show Blk ((w.alloc (.cells (ssA s) 30)).alloc (.cells (ssA ss0) 30)).drew w.heap.size 30 (ssA s) from ((Blk.new w 30 (ssA s)).alloc _).drew)
 have HZ:=zh (show Blk ((w.alloc (.cells (ssA s) 30)).alloc (.cells (ssA ss0) 30)).drew (w.heap.size+1) 30 (ssA ss0) from Blk.drew (Blk.newAt _ _ _ _ dr))
 have HEW:=zh (show Ext w ((w.alloc (.cells (ssA s) 30)).alloc (.cells (ssA ss0) 30)).drew from (((Ext.refl w).alloc' _).alloc' _).drew')
 have HS:=zh (h.ext HEW.out)
 have HW:=zh HEW.out.size
 have HO:=zh h
 have hn1:s.n1≤1000000000:=aa
 have hn2:s.n2≤1000000000:=aa
 have hn3:s.n3≤1000000000:=aa
 have hn4:s.n4≤1000000000:=aa
 clear h hn
 go_enter func25,ntmps25
 go_wp2_with fail
 refine wp_region_held_drew (S:=fun W=>Blk W w.heap.size 30 (ssA s)∧(∃ z,Blk W (w.heap.size+1) 30 (ssA z))∧Ext w W) ab (⟨HP.out,⟨ss0,HZ.out⟩,HEW.out⟩) (fun aA=>?_)
 refine zz0 [0,1,3,4,6,7,9,10,12,13] ?_;repeat first | refine zz1 ?_ (hy:=k8) | refine zz2 ?_ | refine zz9 ?_
 refine zzj (VV 2 (fun v W=>∃ A c,v=.slice A s.n1 c∧W.ownsRow w.heap.size 92 11 (.slice A s.n1 c) s.n1 (gcs s.C)) (VV 5 (fun v W=>∃ A c,v=.slice A s.n2 c∧W.ownsRow w.heap.size 3 1 (.slice A s.n2 c) s.n2 (gcs s.Q)) (VV 8 (fun v W=>∃ A c,v=.slice A s.n3 c∧W.ownsRow w.heap.size 81 19 (.slice A s.n3 c) s.n3 (gcs s.K)) (VV 11 (fun v W=>∃ A c,v=.slice A s.n4 c∧W.ownsRow w.heap.size 50 8 (.slice A s.n4 c) s.n4 (gcs s.P)) VN)))) [(2,some 5),(5,some 8),(8,some 11),(11,some 14)] 2 (fun W W' h e=>⟨h.1.ext e,qd,h.2.2.trans e⟩) (VV.ext (fun v w w' ⟨A,c,h1,h2⟩ e=>⟨A,c,h1,bC h2 e⟩) (VV.ext (fun v w w' ⟨A,c,h1,h2⟩ e=>⟨A,c,h1,bC h2 e⟩) (VV.ext (fun v w w' ⟨A,c,h1,h2⟩ e=>⟨A,c,h1,bC h2 e⟩) (VV.ext (fun v w w' ⟨A,c,h1,h2⟩ e=>⟨A,c,h1,bC h2 e⟩) VN.ext)))) (zzc ?_ (zzc ?_ (zzc ?_ (zzc ?_ zzn)))) ?_
 ·refine zzp fun W hE hS K hK => ?_
  go_simp
  go_at_call 62
  refine (aDY s.A1 s.n1 s.c1 s.C _ (HO.out.ext hS.2.2).s1 hn1).mono ?_
  rintro e w5 ⟨A5,c5,rfl,ho5,he5⟩
  exact zzK (hK.out (.slice A5 s.n1 c5) _ (he5) (⟨A5,c5,rfl,bA ho5 (Nat.le_trans HW.out hE.size)⟩))
 ·refine zzp fun W hE hS K hK => ?_
  go_simp
  go_at_call 63
  refine (aDX s.A2 s.n2 s.c2 s.Q _ (HO.out.ext hS.2.2).s2 hn2).mono ?_
  rintro e w5 ⟨A5,c5,rfl,ho5,he5⟩
  exact zzK (hK.out (.slice A5 s.n2 c5) _ (he5) (⟨A5,c5,rfl,bA ho5 (Nat.le_trans HW.out hE.size)⟩))
 ·refine zzp fun W hE hS K hK => ?_
  go_simp
  go_at_call 64
  refine (aDW s.A3 s.n3 s.c3 s.K _ (HO.out.ext hS.2.2).s3 hn3).mono ?_
  rintro e w5 ⟨A5,c5,rfl,ho5,he5⟩
  exact zzK (hK.out (.slice A5 s.n3 c5) _ (he5) (⟨A5,c5,rfl,bA ho5 (Nat.le_trans HW.out hE.size)⟩))
 ·refine zzp fun W hE hS K hK => ?_
  go_simp
  go_at_call 65
  refine (aDV s.A4 s.n4 s.c4 s.P _ (HO.out.ext hS.2.2).s4 hn4).mono ?_
  rintro e w5 ⟨A5,c5,rfl,ho5,he5⟩
  exact zzK (hK.out (.slice A5 s.n4 c5) _ (he5) (⟨A5,c5,rfl,bA ho5 (Nat.le_trans HW.out hE.size)⟩))
 intro env W hE hS hV
 obtain ⟨h2,h5,h8,h11,-⟩:=zzV hV
 clear hV
 simp only [aR]
 generalize env 2=x2 at h2 ⊢
 generalize env 5=x5 at h5 ⊢
 generalize env 8=x8 at h8 ⊢
 generalize env 11=x11 at h11 ⊢
 obtain ⟨A1,c1,rfl,k1⟩:=h2
 obtain ⟨A2,c2,rfl,k2⟩:=h5
 obtain ⟨A3,c3,rfl,k3⟩:=h8
 obtain ⟨A4,c4,rfl,k4⟩:=h11
 have HK1:=zh k1
 have HK2:=zh k2
 have HK3:=zh k3
 have HK4:=zh k4
 clear k1 k2 k3 k4
 have aA:=hS
 refine zt 14 aA ?_
 refine za 15 (fun K hK=>?_)
 (obtain ⟨z6,hz6⟩:=aA.2.1;refine bQ rfl (.tmp 2) (.tmp 17) dp (w.heap.size+1) (.agg (ssA ⟨A1,s.n1,c1,s.C,A2,s.n2,c2,s.Q,A3,s.n3,c3,s.K,A4,s.n4,c4,s.P,s.G⟩)) ⟨A1,s.n1,c1,s.C,A2,s.n2,c2,s.Q,A3,s.n3,c3,s.K,A4,s.n4,c4,s.P,s.G⟩ rfl dp dp hz6 ?_;intro W6 h6)
 refine hK.out _ _ (⟨aA.1.grown al (fun e=>dq),⟨_,h6.out.2⟩,by rw [← h6.out.1];exact Below.setCells' aA.2.2 (Nat.le_succ _) _ _⟩) (fun aA=>?_)
 exact uk
end
section
open Go.RowKit
instance:RowB CeR where
 ow w b c:=ceW c
 ok _ _ _ h:=h
 ext _ _ _ _ h _:=h
 kept _ _ _ _ _ _ _ _ _ _ _ h _ _ _:=h
 mono _ _ _ _ h _:=h
namespace GW
attribute [local go_sem ↓] Go.wp_at_zero Go.wp_at_succ
instance {w w':World}:Coe (Grw w w') (Ext w w'):=⟨fun h=>h.1⟩
section
variable {P:Program} {ops:Array Oper} {Q:Exit→Act→World→Prop} {md:Region.Mode} {S:World→Prop}
def Member (P:Program) (md:Region.Mode) (ops:Array Oper) (S:World→Prop) (V:Nat→Value→World→Prop) (J:List (Nat × Option Tmp)) (a0:Act) (w0:World) (j:Nat):Prop :=
 ∃ (o:Oper) (D:List (Nat × Option Tmp)),ops[j]?=some o∧lV md ops J D o=true ∧
  ∀ env w,Grw w0 w→S w→(∀ p ∈ D,V p.1 (env p.1) w) →
   (Region.wanted o (yielded ops (bV a0 D env).tmps)=true→∀ K:Act→World→Prop,Shut (∀ u w',Grw w w'→V j u w'→K ((bV a0 D env).put o.dst u) w')→o.wp P (bV a0 D env) w K (fun _ _ _=>False)) ∧
   (Region.wanted o (yielded ops (bV a0 D env).tmps)=false→V j undef w)
structure JI (md:Region.Mode) (ops:Array Oper) (S:World→Prop) (V:Nat→Value→World→Prop) (J:List (Nat × Option Tmp)) (a0:Act) (l0:Array Bool) (w0:World) (env:Nat→Value) (l:Array Bool) (a:Act) (w:World):Prop where
 ext:Grw w0 w
 s:S w
 lsz:l.size=l0.size
 lout:∀ i,(∀ p ∈ J,p.1 ≠ i)→l[i]?=l0[i]?
 dfr:a.defers=a0.defers
 tsz:a.tmps.size=a0.tmps.size
 val:∀ p ∈ J,l.getD p.1 true=true→V p.1 (env p.1) w
 hit:∀ p ∈ J,l.getD p.1 true=true→∀ t,p.2=some t→a.tmps.getD t undef=env p.1
 miss:∀ t,(∀ p ∈ J,l.getD p.1 true=true→p.2 ≠ some t)→a.tmps.getD t undef=a0.tmps.getD t undef
 cl:∀ p ∈ J,l.getD p.1 true=true→∀ q ∈ J,depB md ops p.1 q.1=true→l.getD q.1 true=true
theorem aCk {a b:Act} (hd:a.defers=b.defers) (hz:a.tmps.size=b.tmps.size) (h:∀ t,a.tmps.getD t undef=b.tmps.getD t undef):a=b:=by
 exact xq
section
variable {V:Nat→Value→World→Prop} {J:List (Nat × Option Tmp)} {a0:Act} {l0:Array Bool} {w0:World}
theorem JI.eqL {env:Nat→Value} {l:Array Bool} {a:Act} {w:World} {n:Nat} (hB:iF md ops l0 n J=true) (h:JI md ops S V J a0 l0 w0 env l a w) :
  l=fY l0 (J.filter fun p=>l.getD p.1 true):=by
 exact uf
theorem JI.full {env:Nat→Value} {l:Array Bool} {a:Act} {w:World} (hB:iF md ops l0 a0.tmps.size J=true) (h:JI md ops S V J a0 l0 w0 env l a w) (hf:∀ p ∈ J,l.getD p.1 true=true) :
  l=fY l0 J∧a=bV a0 J env:=by
 exact ux
theorem JI.comes {env:Nat→Value} {l:Array Bool} {a:Act} {w:World} (hs:Region.noSelect ops=true) (hB:iF md ops l0 a0.tmps.size J=true) (hM:∀ p ∈ J,Member P md ops S V J a0 w0 p.1)
  (h:JI md ops S V J a0 l0 w0 env l a w) {p:Nat × Option Tmp} (hp:p ∈ J) (hr:p.1 ∈ Region.ready md ops l) :
  ∃ o,ops[p.1]?=some o∧o.dst=p.2∧(Region.wanted o (yielded ops a.tmps)=true→vA P o a w fun u w'=>∃ v,(o.dst ≠ none→v=u)∧Grw w w'∧V p.1 v w')∧(Region.wanted o (yielded ops a.tmps)=false→V p.1 undef w):=by
 obtain ⟨b1,b2,b3⟩:=eR hB
 obtain ⟨o,D,ho,hm,hstep⟩:=hM p hp
 obtain ⟨m1,m2⟩:=uS hm
 obtain ⟨hun,o',ho',hall⟩:=mem_ready.1 hr
 rw [ho] at ho';cases ho'
 have hds:o.dst=p.2:=mh
 have hdone:∀ q ∈ D,l.getD q.1 true=true:=fun q hq=>by
  exact Ax
 have hag:∀ t ∈ o.looksAt ops,a.tmps.getD t undef=(bV a0 D env).tmps.getD t undef:=fun t ht=>by
  exact vm
 obtain ⟨e1,e2⟩:=aAO (ops:=ops) (fun cs z=>Region.noSelect_spec hs p.1 o cs z ho) hag
 obtain ⟨s1,s2⟩:=hstep env w h.ext h.s (fun q hq=>h.val q (m2 q hq).1 (hdone q hq))
 refine ⟨o,ho,hds,fun hw=>?_,fun hw=>s2 mw⟩
 have:=uV (R:=fun u w'=>Grw w w'∧V p.1 u w') l5 (fun K hK=>s1 mw K (fun u w' h1 h2=>hK.out u w' ⟨h1,h2⟩))
 unfold vA at this ⊢
 rw [e1];exact this
theorem mD (hs:Region.noSelect ops=true) (hB:iF md ops l0 a0.tmps.size J=true)
  (hSE:∀ w w',S w→Grw w w'→S w') (hVE:∀ j v w w',V j v w→Grw w w'→V j v w') (hM:∀ p ∈ J,Member P md ops S V J a0 w0 p.1) {fuel:Nat}
  (hE:∀ env w,Grw w0 w→S w→(∀ p ∈ J,V p.1 (env p.1) w)→wpAnyH P md ops Q S fuel (fY l0 J) (bV a0 J env) w) :
  ∀ (m:Nat) (env:Nat→Value) (l:Array Bool) (a:Act) (w:World),JI md ops S V J a0 l0 w0 env l a w→(J.filter fun p=>!l.getD p.1 true).length=m→wpAnyH P md ops Q S (fuel+m) l a w:=by
 obtain ⟨b1,b2,b3⟩:=eR hB
 intro m
 induction m with
 | zero =>
  exact Ay
 | succ m ih =>
  intro env l a w h hm
  have hlen:(J.filter fun p=>l.getD p.1 true).length ≠ J.length:=fun e=>by
   exact Bv
  obtain ⟨r1,r2⟩:=b3 _ (lY (fun p=>l.getD p.1 true) J) hlen (fun p hp q hq hd=>List.mem_filter.2 ⟨hq,h.cl p (List.mem_filter.1 hp).1 (List.mem_filter.1 hp).2 q hq hd⟩)
  rw [← h.eqL hB] at r1 r2
  refine ⟨fun e=>absurd e r1,fun i hi=>?_⟩
  obtain ⟨p,hp,rfl⟩:=r2 i hi
  obtain ⟨o,ho,hds,c1,c2⟩:=h.comes hs hB hM hp hi
  have hun:=(mem_ready.1 hi).1
  have hpl:p.1 < l.size:=by rw [h.lsz];exact (b1 p hp).1
  have key:∀ v u w',(o.dst ≠ none→v=u)→Grw w w'→V p.1 v w'→S w'∧wpAnyH P md ops Q S (fuel+m) (l.setIfInBounds p.1 true) (a.put o.dst u) w':=by
   exact tn
  unfold wpOp
  rw [ho]
  simp only
  split
  ·rename_i hw
   exact .inl (uE (c1 hw) (fun u w' hR=>oo))
  rename_i hw
  exact key undef undef w (fun _=>rfl) (Grw.refl w) (c2 (by simpa using hw))
theorem VN.ext:∀ j v w w',VN j v w→Grw w w'→VN j v w':=fun _ _ _ _ _ _=>trivial
theorem VV.ext {j0:Nat} {A:Value→World→Prop} {R:Nat→Value→World→Prop} (hA:∀ v w w',A v w→Grw w w'→A v w') (hR:∀ j v w w',R j v w→Grw w w'→R j v w'):∀ j v w w',VV j0 A R j v w→Grw w w'→VV j0 A R j v w':=fun j v w w' h e=>by
 unfold VV at *
 split at h
 ·rename_i hj;rw [if_pos hj];exact hA _ _ _ h e
 rename_i hj;rw [if_neg hj];exact hR _ _ _ _ h e
theorem Member.mk' {j:Nat} (o:Oper) (D:List (Nat × Option Tmp)) (ho:ops[j]?=some o) (hg:o.guard=none) (hm:lV md ops J D o=true)
  (h:∀ env w,Grw w0 w→S w→(∀ p ∈ D,V p.1 (env p.1) w)→∀ K:Act→World→Prop,Shut (∀ u w',Grw w w'→V j u w'→K ((bV a0 D env).put o.dst u) w')→o.wp P (bV a0 D env) w K (fun _ _ _=>False)):Member P md ops S V J a0 w0 j :=
 ⟨o,D,ho,hm,fun env w h1 h2 h3=>⟨fun _ K hK=>h env w h1 h2 h3 K hK,fun hw=>by simp [Region.wanted,hg] at hw⟩⟩
theorem cC (V:Nat→Value→World→Prop) (J:List (Nat × Option Tmp)) (hs:Region.noSelect ops=true) (hB:iF md ops l0 a0.tmps.size J=true)
  (hSE:∀ w w',S w→Grw w w'→S w') (hVE:∀ j v w w',V j v w→Grw w w'→V j v w') (h0:S w0) (hM:∀ p ∈ J,Member P md ops S V J a0 w0 p.1) {fuel m:Nat} (hm:m=fuel+J.length)
  (hE:∀ env w,Grw w0 w→S w→(∀ p ∈ J,V p.1 (env p.1) w)→wpAnyH P md ops Q S fuel (fY l0 J) (bV a0 J env) w):wpAnyH P md ops Q S m l0 a0 w0:=by
 obtain ⟨b1,b2,b3⟩:=eR hB
 subst hm
 refine mD hs hB hSE hVE hM hE J.length (fun _=>undef) l0 a0 w0 ⟨Grw.refl _,h0,rfl,fun _ _=>rfl,rfl,rfl,fun p hp h=>?_,fun p hp h=>?_,fun _ _=>rfl,fun p hp h=>?_⟩ ?_
 ·rw [(b1 p hp).2.1] at h;cases h
 ·rw [(b1 p hp).2.1] at h;cases h
 ·rw [(b1 p hp).2.1] at h;cases h
 congr 1
 exact List.filter_eq_self.2 (fun p hp=>by rw [(b1 p hp).2.1];rfl)
end
end
theorem jM (x:UInt64) (w:World) :
  Calls prog 144 #[.agg (nmc x)] w fun e w'=>e=.returned (.int .u64 (un x))∧Grw w w':=by
 have hs:=dD x
 have hl:=aK x
 go_enter func144,ntmps144
 go_wp2_with (refine wpList_load_row rfl 50 _ rfl _ rfl 50 _ (0,0) _ (heap_alloc_new w _) underlying50 rfl (fJ x) ?_)
 go_loop [3,7] (fun v i=>∃ k:Nat,k≤8∧i=.int .i64 k∧v=.int .u64 (bT ((nmb x).take k))) (fun _ i=>8 - (intOf i).toNat)
 case atStart=>exact ⟨0,aa,rfl,rfl⟩
 case round =>
  obtain ⟨k,hk,rfl,rfl⟩:=hrel
  by_cases hlt:k < 8
  ·exact ur
  have HS:=zh (show (bT ((nmb x).take k):Int)=un x by rw [List.take_of_length_le aa,mU];rfl)
  clear hl hs
  generalize bT ((nmb x).take k)=a at *
  go_wp2
  go_ret
  exact ⟨m8,(Grw.refl w).alloc _⟩
theorem compareNames_any (a b:UInt64) (w:World):Calls prog 83 #[.agg (nmc a),.agg (nmc b)] w fun e w'=>e=.returned (.int .i64 (lK a b))∧Grw w w':=by
 have HA:=zh (show Blk ((w.alloc (.cells (nmc a) 50)).alloc (.cells (nmc b) 50)).drew w.heap.size 50 (nmc a) from ((Blk.new w 50 (nmc a)).alloc _).drew)
 have HB:=zh (show Blk ((w.alloc (.cells (nmc a) 50)).alloc (.cells (nmc b) 50)).drew (w.heap.size+1) 50 (nmc b) from Blk.drew (Blk.newAt _ _ _ _ dr))
 have HE:=zh (show Grw w ((w.alloc (.cells (nmc a) 50)).alloc (.cells (nmc b) 50)).drew from (((Grw.refl w).alloc _).alloc _).drew)
 go_enter func83,ntmps83
 go_wp2_with fail
 refine wp_region_held_drew (S:=fun W=>Blk W w.heap.size 50 (nmc a)∧Blk W (w.heap.size+1) 50 (nmc b)) ab (⟨HA.out,HB.out⟩) (fun aA=>?_)
 refine zu 0 (v:=.agg (nmc a)) aA ?_ (hy:=by exact aG nmP dp (.tmp 2) rfl (w.heap.size) 0 rfl a _ rfl (fun W h=>bS h.1))
 refine zu 2 (v:=.agg (nmc b)) aA ?_ (hy:=by exact aG nmP dp (.tmp 3) rfl (w.heap.size+1) 0 rfl b _ rfl (fun W h=>bS h.2))
 refine cC (VV 1 (fun v W=>v=.int .u64 (un a)) (VV 3 (fun v W=>v=.int .u64 (un b)) (VV 4 (fun v W=>v=.int .i64 (lK a b)) (VN)))) [(1,some 6),(3,some 8),(4,some 9)] (fuel:=1) ab ab (fun W W' h e=>⟨h.1.ext e,h.2.ext e⟩) (VV.ext (fun v w w' h e=>h) (VV.ext (fun v w w' h e=>h) (VV.ext (fun v w w' h e=>h) (VN.ext)))) aA ?hm1 rfl ?hr1
 case hm1 =>
  refine Members.cons ?mm1_1 (Members.cons ?mm1_3 (Members.cons ?mm1_4 (Members.nil _)))
  case mm1_1 =>
   refine Member.mk' ({ dst:=some 6,op:=Op.call { callee:=Callee.value (Operand.func 144),args:=#[Operand.tmp 5],argTypes:=#[50] },type:=165,pos:="state.go:26",after:=#[{ on:=0,ground:=Ground.data }],guard:=none }) [] rfl rfl ab (fun env W hE hS hD K hK=>?_)
   clear hD
   try simp only [bV,List.foldl_cons,List.foldl_nil,Act.put,List.setIfInBounds_toArray,List.set_cons_zero,List.set_cons_succ]
   go_simp
   go_at_call 144
   refine zcl (jM a _) fun w5 he5=>?_
   have hk:=hK.out (.int .u64 (un a)) _ (he5) (rfl)
   exact yg
  case mm1_3 =>
   refine Member.mk' ({ dst:=some 8,op:=Op.call { callee:=Callee.value (Operand.func 144),args:=#[Operand.tmp 7],argTypes:=#[50] },type:=165,pos:="state.go:26",after:=#[{ on:=2,ground:=Ground.data },{ on:=1,ground:=Ground.chain }],guard:=none }) [] rfl rfl ab (fun env W hE hS hD K hK=>?_)
   clear hD
   try simp only [bV,List.foldl_cons,List.foldl_nil,Act.put,List.setIfInBounds_toArray,List.set_cons_zero,List.set_cons_succ]
   go_simp
   go_at_call 144
   refine zcl (jM b _) fun w5 he5=>?_
   have hk:=hK.out (.int .u64 (un b)) _ (he5) (rfl)
   exact yg
  case mm1_4 =>
   refine Member.mk' ({ dst:=some 9,op:=Op.call { callee:=Callee.value (Operand.func 143),args:=#[Operand.tmp 6,Operand.tmp 8],argTypes:=#[165,165] },type:=3,pos:="state.go:26",after:=#[{ on:=1,ground:=Ground.data },{ on:=3,ground:=Ground.data },{ on:=3,ground:=Ground.chain }],guard:=none }) [(1,some 6),(3,some 8)] rfl rfl ab (fun env W hE hS hD K hK=>?_)
   have h1:(fun v W=>v=.int .u64 (un a)) (env 1) W:=hD (1,some 6) dr
   have h3:(fun v W=>v=.int .u64 (un b)) (env 3) W:=hD (3,some 8) dr
   clear hD
   try simp only [bV,List.foldl_cons,List.foldl_nil,Act.put,List.setIfInBounds_toArray,List.set_cons_zero,List.set_cons_succ] at hK ⊢
   generalize env 1=x1 at h1 hK ⊢
   generalize env 3=x3 at h3 hK ⊢
   subst h1
   subst h3
   go_simp
   go_at_call 143
   refine (aCc _ _ _).mono ?_
   rintro e w5 ⟨rfl,rfl⟩
   have hk:=hK.out (.int .i64 (lK a b)) _ (Grw.refl _) (rfl)
   exact yg
 case hr1 =>
  intro env W hE hS hV
  have h1:(fun v W=>v=.int .u64 (un a)) (env 1) W:=hV (1,some 6) dr
  have h3:(fun v W=>v=.int .u64 (un b)) (env 3) W:=hV (3,some 8) dr
  have h4:(fun v W=>v=.int .i64 (lK a b)) (env 4) W:=hV (4,some 9) dr
  clear hV
  try simp only [bV,List.foldl_cons,List.foldl_nil,Act.put,List.setIfInBounds_toArray,List.set_cons_zero,List.set_cons_succ]
  generalize env 1=x1 at h1 ⊢
  generalize env 3=x3 at h3 ⊢
  generalize env 4=x4 at h4 ⊢
  subst h1
  subst h3
  subst h4
  have aA:=hS
  refine zt 5 aA ?_
  exact Be
theorem compareC_any (a b:CeR) (w:World):Calls prog 52 #[.agg (ceA a),.agg (ceA b)] w fun e w'=>e=.returned (.int .i64 (lJ a b))∧Grw w w':=by
 have HA:=zh (show Blk ((w.alloc (.cells (ceA a) 61)).alloc (.cells (ceA b) 61)).drew w.heap.size 61 (ceA a) from ((Blk.new w 61 (ceA a)).alloc _).drew)
 have HB:=zh (show Blk ((w.alloc (.cells (ceA a) 61)).alloc (.cells (ceA b) 61)).drew (w.heap.size+1) 61 (ceA b) from Blk.drew (Blk.newAt _ _ _ _ dr))
 have HE:=zh (show Grw w ((w.alloc (.cells (ceA a) 61)).alloc (.cells (ceA b) 61)).drew from (((Grw.refl w).alloc _).alloc _).drew)
 go_enter func52,ntmps52
 go_wp2_with fail
 refine wp_region_held_drew (S:=fun W=>Blk W w.heap.size 61 (ceA a)∧Blk W (w.heap.size+1) 61 (ceA b)) ab (⟨HA.out,HB.out⟩) (fun aA=>?_)
 refine zz0 [0,1,2,3,5,6,7,8,10] ?_;repeat first | refine zz1 ?_ (hy:=by intro W aP;have c0:=aP.1.cell 0;have c1:=aP.1.cell 1;have d0:=aP.2.cell 0;have d1:=aP.2.cell 1;go_simp <;> with_reducible rfl) | refine zz2 ?_ | refine zz9 ?_
 refine zu 11 (v:=.agg (nmc a.lk)) aA ?_ (hy:=by exact aG nmP dp (.tmp 15) rfl (w.heap.size) 2 rfl a.lk _ rfl (fun W h=>pK h.1))
 refine zt 12 aA ?_
 refine zu 13 (v:=.agg (nmc b.lk)) aA ?_ (hy:=by exact aG nmP dp (.tmp 17) rfl (w.heap.size+1) 2 rfl b.lk _ rfl (fun W h=>pK h.2))
 refine cC (VV 4 (fun v W=>v=.int .i64 (iZ a.k b.k)) (VV 9 (fun v W=>v=.int .i64 (iZ a.id b.id)) (VV 14 (fun v W=>v=.int .i64 (lK a.lk b.lk)) (VV 15 (fun v W=>∃ g,v=.slice (some ⟨g,0,none⟩) 3 3∧Blk W g 3 #[.int .i64 (iZ a.k b.k),.int .i64 (iZ a.id b.id),.int .i64 (lK a.lk b.lk)]) (VV 16 (fun v W=>v=.int .i64 (lJ a b)) (VN)))))) [(4,some 9),(9,some 14),(14,some 19),(15,some 20),(16,some 21)] (fuel:=1) ab ab (fun W W' h e=>⟨h.1.ext e,h.2.ext e⟩) (VV.ext (fun v w w' h e=>h) (VV.ext (fun v w w' h e=>h) (VV.ext (fun v w w' h e=>h) (VV.ext (fun v w w' ⟨g,h1,h2⟩ e=>⟨g,h1,h2.ext e⟩) (VV.ext (fun v w w' h e=>h) (VN.ext)))))) aA ?hm2 rfl ?hr2
 case hm2 =>
  refine Members.cons ?mm2_4 (Members.cons ?mm2_9 (Members.cons ?mm2_14 (Members.cons ?mm2_15 (Members.cons ?mm2_16 (Members.nil _)))))
  case mm2_4 =>
   refine Member.mk' ({ dst:=some 9,op:=Op.call { callee:=Callee.value (Operand.func 118),args:=#[Operand.tmp 6,Operand.tmp 8],argTypes:=#[3,3] },type:=3,pos:="state.go:30",after:=#[{ on:=1,ground:=Ground.data },{ on:=3,ground:=Ground.data }],guard:=none }) [] rfl rfl ab (fun env W hE hS hD K hK=>?_)
   clear hD
   try simp only [bV,List.foldl_cons,List.foldl_nil,Act.put,List.setIfInBounds_toArray,List.set_cons_zero,List.set_cons_succ]
   go_simp
   go_at_call 118
   refine (sQ _ _ _).mono ?_
   rintro e w5 ⟨rfl,rfl⟩
   have hk:=hK.out (.int .i64 (iZ a.k b.k)) _ (Grw.refl _) (rfl)
   exact yg
  case mm2_9 =>
   refine Member.mk' ({ dst:=some 14,op:=Op.call { callee:=Callee.value (Operand.func 118),args:=#[Operand.tmp 11,Operand.tmp 13],argTypes:=#[3,3] },type:=3,pos:="state.go:30",after:=#[{ on:=6,ground:=Ground.data },{ on:=8,ground:=Ground.data },{ on:=4,ground:=Ground.chain }],guard:=none }) [] rfl rfl ab (fun env W hE hS hD K hK=>?_)
   clear hD
   try simp only [bV,List.foldl_cons,List.foldl_nil,Act.put,List.setIfInBounds_toArray,List.set_cons_zero,List.set_cons_succ]
   go_simp
   go_at_call 118
   refine (sQ _ _ _).mono ?_
   rintro e w5 ⟨rfl,rfl⟩
   have hk:=hK.out (.int .i64 (iZ a.id b.id)) _ (Grw.refl _) (rfl)
   exact yg
  case mm2_14 =>
   refine Member.mk' ({ dst:=some 19,op:=Op.call { callee:=Callee.value (Operand.func 83),args:=#[Operand.tmp 16,Operand.tmp 18],argTypes:=#[50,50] },type:=3,pos:="state.go:30",after:=#[{ on:=11,ground:=Ground.data },{ on:=13,ground:=Ground.data },{ on:=9,ground:=Ground.chain }],guard:=none }) [] rfl rfl ab (fun env W hE hS hD K hK=>?_)
   clear hD
   try simp only [bV,List.foldl_cons,List.foldl_nil,Act.put,List.setIfInBounds_toArray,List.set_cons_zero,List.set_cons_succ]
   go_simp
   go_at_call 83
   refine zcl (compareNames_any a.lk b.lk _) fun w5 he5=>?_
   have hk:=hK.out (.int .i64 (lK a.lk b.lk)) _ (he5) (rfl)
   exact yg
  case mm2_15 =>
   refine Member.mk' ({ dst:=some 20,op:=Op.buildSlice 23 3 #[(0,Operand.tmp 9),(1,Operand.tmp 14),(2,Operand.tmp 19)],type:=23,pos:="state.go:30",after:=#[{ on:=4,ground:=Ground.data },{ on:=9,ground:=Ground.data },{ on:=14,ground:=Ground.data }],guard:=none }) [(4,some 9),(9,some 14),(14,some 19)] rfl rfl ab (fun env W hE hS hD K hK=>?_)
   have h4:(fun v W=>v=.int .i64 (iZ a.k b.k)) (env 4) W:=hD (4,some 9) dr
   have h9:(fun v W=>v=.int .i64 (iZ a.id b.id)) (env 9) W:=hD (9,some 14) dr
   have h14:(fun v W=>v=.int .i64 (lK a.lk b.lk)) (env 14) W:=hD (14,some 19) dr
   clear hD
   try simp only [bV,List.foldl_cons,List.foldl_nil,Act.put,List.setIfInBounds_toArray,List.set_cons_zero,List.set_cons_succ] at hK ⊢
   generalize env 4=x4 at h4 hK ⊢
   generalize env 9=x9 at h9 hK ⊢
   generalize env 14=x14 at h14 hK ⊢
   subst h4
   subst h9
   subst h14
   refine aGB (.tmp 9) (.tmp 14) (.tmp 19) rfl rfl rfl rfl (aCP _ _ _ W) ?_
   have hk:=hK.out (.slice (some ⟨W.heap.size,0,none⟩) 3 3) _ ((Grw.refl _).alloc _) (⟨_,rfl,Blk.new _ _ _⟩)
   exact yg
  case mm2_16 =>
   refine Member.mk' ({ dst:=some 21,op:=Op.call { callee:=Callee.value (Operand.func 117),args:=#[Operand.tmp 20],argTypes:=#[23] },type:=3,pos:="state.go:30",after:=#[{ on:=15,ground:=Ground.data },{ on:=14,ground:=Ground.chain }],guard:=none }) [(15,some 20)] rfl rfl ab (fun env W hE hS hD K hK=>?_)
   have h15:(fun v W=>∃ g,v=.slice (some ⟨g,0,none⟩) 3 3∧Blk W g 3 #[.int .i64 (iZ a.k b.k),.int .i64 (iZ a.id b.id),.int .i64 (lK a.lk b.lk)]) (env 15) W:=hD (15,some 20) dr
   clear hD
   try simp only [bV,List.foldl_cons,List.foldl_nil,Act.put,List.setIfInBounds_toArray,List.set_cons_zero,List.set_cons_succ] at hK ⊢
   generalize env 15=x15 at h15 hK ⊢
   obtain ⟨g,rfl,hb⟩:=h15
   go_simp
   go_at_call 117
   refine (aKf _ _ _ g _ hb).mono ?_
   rintro e w5 ⟨rfl,rfl⟩
   have hk:=hK.out (.int .i64 (lJ a b)) _ (Grw.refl _) (rfl)
   exact yg
 case hr2 =>
  intro env W hE hS hV
  have h4:(fun v W=>v=.int .i64 (iZ a.k b.k)) (env 4) W:=hV (4,some 9) dr
  have h9:(fun v W=>v=.int .i64 (iZ a.id b.id)) (env 9) W:=hV (9,some 14) dr
  have h14:(fun v W=>v=.int .i64 (lK a.lk b.lk)) (env 14) W:=hV (14,some 19) dr
  have h15:(fun v W=>∃ g,v=.slice (some ⟨g,0,none⟩) 3 3∧Blk W g 3 #[.int .i64 (iZ a.k b.k),.int .i64 (iZ a.id b.id),.int .i64 (lK a.lk b.lk)]) (env 15) W:=hV (15,some 20) dr
  have h16:(fun v W=>v=.int .i64 (lJ a b)) (env 16) W:=hV (16,some 21) dr
  clear hV
  try simp only [bV,List.foldl_cons,List.foldl_nil,Act.put,List.setIfInBounds_toArray,List.set_cons_zero,List.set_cons_succ]
  generalize env 4=x4 at h4 ⊢
  generalize env 9=x9 at h9 ⊢
  generalize env 14=x14 at h14 ⊢
  generalize env 15=x15 at h15 ⊢
  generalize env 16=x16 at h16 ⊢
  subst h4
  subst h9
  subst h14
  subst h16
  obtain ⟨g,rfl,hb⟩:=h15
  have aA:=hS
  refine zt 17 aA ?_
  exact Be
end GW
theorem compareNames_any (a b:UInt64) (w:World):Calls prog 83 #[.agg (nmc a),.agg (nmc b)] w fun e w'=>e=.returned (.int .i64 (lK a b))∧Ext w w':=(GW.compareNames_any a b w).mono fun _ _ h=>⟨h.1,h.2.1⟩
theorem compareC_any (a b:CeR) (w:World):Calls prog 52 #[.agg (ceA a),.agg (ceA b)] w fun e w'=>e=.returned (.int .i64 (lJ a b))∧Ext w w':=(GW.compareC_any a b w).mono fun _ _ h=>⟨h.1,h.2.1⟩
section
attribute [local go_sem ↓] Go.wp_at_zero Go.wp_at_succ
theorem aDP {w:World} {g:Nat} {t:TypeId} {x:DeR} (h:Blk w g t (deA x)):w.rangeAt g 0 (RowT.enc x.c):=by
 have:=aQ (k:=10) (aC h)
 exact this
theorem aCe (a b:DeR) (w:World):Calls prog 78 #[.agg (deA a),.agg (deA b)] w fun e w'=>e=.returned (.int .i64 (lJ a.c b.c))∧Ext w w':=by
 have HA:=zh (show Blk ((w.alloc (.cells (deA a) 92)).alloc (.cells (deA b) 92)) w.heap.size 92 (deA a) from (Blk.new w 92 (deA a)).alloc _)
 have HB:=zh (show Blk ((w.alloc (.cells (deA a) 92)).alloc (.cells (deA b) 92)) (w.heap.size+1) 92 (deA b) from Blk.newAt _ _ _ _ dr)
 have HE:=zh (show Ext w ((w.alloc (.cells (deA a) 92)).alloc (.cells (deA b) 92)) from ((Ext.refl w).alloc' _).alloc' _)
 have r0:((w.alloc (.cells (deA a) 92)).alloc (.cells (deA b) 92)).rangeAt w.heap.size 0 (RowT.enc a.c):=aDP HA.out
 have r1:((w.alloc (.cells (deA a) 92)).alloc (.cells (deA b) 92)).rangeAt (w.heap.size+1) 0 (RowT.enc b.c):=aDP HB.out
 go_enter func78,ntmps78
 go_wp2_with (first | (with_reducible refine aD ceP rfl (.tmp 5) rfl w.heap.size 0 rfl a.c _ rfl r0 ?_) | (with_reducible refine aD ceP rfl (.tmp 7) rfl (w.heap.size+1) 0 rfl b.c _ rfl r1 ?_))
 refine zcl (compareC_any a.c b.c _) fun w5 he5=>?_
 exact zc
theorem aBE {w:World} {g:Nat} {t:TypeId} {x:LkR} (h:Blk w g t (lkA x)):w.rangeAt g 0 (RowT.enc x.nm):=by
 have:=aQ (k:=8) (aC h)
 rw [show (lkA x).toList=lkL x from rfl,aLr,List.take_append_of_le_length fp,List.take_of_length_le fp] at this;exact this
theorem aCd (a b:LkR) (w:World):Calls prog 132 #[.agg (lkA a),.agg (lkA b)] w fun e w'=>e=.returned (.int .i64 (lK a.nm b.nm))∧Ext w w':=by
 have HA:=zh (show Blk ((w.alloc (.cells (lkA a) 81)).alloc (.cells (lkA b) 81)) w.heap.size 81 (lkA a) from (Blk.new w 81 (lkA a)).alloc _)
 have HB:=zh (show Blk ((w.alloc (.cells (lkA a) 81)).alloc (.cells (lkA b) 81)) (w.heap.size+1) 81 (lkA b) from Blk.newAt _ _ _ _ dr)
 have HE:=zh (show Ext w ((w.alloc (.cells (lkA a) 81)).alloc (.cells (lkA b) 81)) from ((Ext.refl w).alloc' _).alloc' _)
 have r0:((w.alloc (.cells (lkA a) 81)).alloc (.cells (lkA b) 81)).rangeAt w.heap.size 0 (RowT.enc a.nm):=aBE HA.out
 have r1:((w.alloc (.cells (lkA a) 81)).alloc (.cells (lkA b) 81)).rangeAt (w.heap.size+1) 0 (RowT.enc b.nm):=aBE HB.out
 go_enter func132,ntmps132
 go_wp2_with (first | (with_reducible refine aD nmP rfl (.tmp 5) rfl w.heap.size 0 rfl a.nm _ rfl r0 ?_) | (with_reducible refine aD nmP rfl (.tmp 7) rfl (w.heap.size+1) 0 rfl b.nm _ rfl r1 ?_))
 refine zcl (compareNames_any a.nm b.nm _) fun w5 he5=>?_
 exact zc
end
end
end Go.Proofs.YtgmnmjeccfnmbaaGreat
