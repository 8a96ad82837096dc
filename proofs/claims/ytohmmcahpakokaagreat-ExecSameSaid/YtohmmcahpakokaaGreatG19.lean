/- The plain law: a signature that Sign returns is one that Verify accepts. -/
import Derived.Deep.Cut
import Derived.ArgAppend
import Derived.Test.YtohmmcahpakokaaGreatG16
import Derived.Test.YtohmmcahpakokaaGreatG18
set_option maxRecDepth 100000
set_option maxHeartbeats 8000000
set_option linter.unusedVariables false
set_option linter.unusedSimpArgs false
namespace Go.Proofs.YtohmmcahpakokaaGreat
section
open Go.RowKit
theorem aGy (v:UInt64) (c p:Int) (a b:Nat):cJ (cJ v c p a) c (p+a) b=cJ v c p (a+b):=by
 induction b with
 | zero=>rfl
 | succ b ih =>
  show dW 33 (nmb (cJ (cJ v c p a) c (p+a) b) ++ [toB c,toB (p+a+b)])=dW 33 (nmb (cJ v c p (a+b)) ++ [toB c,toB (p+((a+b:Nat):Int))])
  rw [ih,show p+(a:Int)+(b:Int)=p+((a+b:Nat):Int) from by omega]
theorem aHN (F:Nat→UInt64) (n c:Nat) (h:c < n):gO ((List.range n).map F) c=F c:=by
 unfold gO;simp [List.getD,h]
theorem aIW (seed m:UInt64):cZ m (fO seed m)=vC seed:=by
 unfold cZ vC
 have key:(List.range 18).map (aAt m (fO seed m))=(List.range 18).map (aAv seed):=?_
 ·rw [key]
 refine List.map_congr_left fun c hc=>?_
 have hc:c < 18:=List.mem_range.1 hc
 have hd:=aEm m c hc
 unfold aAt fO aAv
 rw [aHN _ _ _ hc]
 unfold oL
 have h:=aGy (oJ seed c) (c:Int) 0 (dig m c).toNat (15 - dig m c).toNat
 rw [show (0:Int)+((dig m c).toNat:Int)=dig m c from by omega,show (dig m c).toNat+(15 - dig m c).toNat=15 from by omega] at h
 exact h
theorem wA (ns:List UInt64):(ns.flatMap nmb).length=8 * ns.length:=by
 induction ns with
 | nil=>rfl
 | cons x r ih=>rw [List.flatMap_cons,List.length_append,aG,ih,List.length_cons];omega
theorem aGa (pre rest:List UInt8) (ns:List UInt64) (k at_:Nat) (hp:pre.length=at_) (hk:k < ns.length):nN (pre ++ (ns.flatMap nmb ++ rest)) at_ k=gO ns k:=by
 have hs:ns=ns.take k ++ (gO ns k :: ns.drop (k+1)):=by
  conv=>lhs;rw [← List.take_append_drop k ns]
  rw [List.drop_eq_getElem_cons hk];simp [gO,List.getD,hk]
 have e:(pre ++ (ns.flatMap nmb ++ rest)).drop (at_+k * 8)=nmb (gO ns k) ++ ((ns.drop (k+1)).flatMap nmb ++ rest):=by
  conv=>lhs;rw [hs]
  rw [List.flatMap_append,List.flatMap_cons]
  have hl:(pre ++ (ns.take k).flatMap nmb).length=at_+k * 8:=by
   rw [List.length_append,wA,List.length_take,hp,Nat.min_eq_left (by omega)];omega
  rw [show pre ++ ((ns.take k).flatMap nmb ++ (nmb (gO ns k) ++ (ns.drop (k+1)).flatMap nmb) ++ rest)=(pre ++ (ns.take k).flatMap nmb) ++ (nmb (gO ns k) ++ ((ns.drop (k+1)).flatMap nmb ++ rest)) from by simp only [List.append_assoc]]
  rw [← hl,List.drop_left]
 unfold nN
 rw [e]
 have hl8:=aG (gO ns k)
 rw [show (8:Nat)=(nmb (gO ns k)).length from hl8.symm,List.take_left,vD]
theorem vJ (pre rest:List UInt8) (ns:List UInt64) (at_ n:Nat) (hp:pre.length=at_) (hn:ns.length=n):bQ (pre ++ (ns.flatMap nmb ++ rest)) at_ n=ns:=by
 subst hn
 refine List.ext_getElem (by simp [bQ]) fun k h1 h2=>?_
 simp only [bQ,List.getElem_map,List.getElem_range]
 rw [aGa pre rest ns k at_ hp h2]
 simp [gO,List.getD,h2]
theorem pA (pre rest:List UInt8) (seed m:UInt64) (a t:Int) (j at_:Nat) (hp:pre.length=at_) (hj:j < 32):fF (pre ++ ((kD seed a t j m).flatMap nmb ++ rest)) at_ j m=dJ (cA seed a t):=by
 have hl:=mW seed a t
 have h1:(fO (sY seed a t (j:Int)) m).length=18:=by simp [fO]
 have h2:(fL (cA seed a t) j).length=5:=by rw [pU,hl,zC j hj]
 unfold fF kD
 rw [List.flatMap_append,List.append_assoc,vJ pre _ _ at_ 18 hp h1,aIW]
 rw [show pre ++ ((fO (sY seed a t (j:Int)) m).flatMap nmb ++ ((fL (cA seed a t) j).flatMap nmb ++ rest))=(pre ++ (fO (sY seed a t (j:Int)) m).flatMap nmb) ++ ((fL (cA seed a t) j).flatMap nmb ++ rest) from by simp only [List.append_assoc]]
 rw [vJ _ _ _ (at_+144) 5 (by rw [List.length_append,wA,h1,hp]) h2]
 have h:=aCQ (cA seed a t) j (by omega)
 rw [hl] at h
 rw [← h]
 congr 1
 simp [cA,kH,List.getD,hj]
theorem pV (leaf:Nat) (h:leaf < 1024) (rest:List UInt8):bM ([toB ((leaf:Int) / 256),toB (leaf:Int)] ++ rest) 0 2=leaf:=by
 have e1:=bK ((leaf:Int) / 256)
 have e2:=bK (leaf:Int)
 simp only [bM,List.drop_zero,List.cons_append,List.nil_append,List.take_succ_cons,List.take_zero,bP,List.length_cons,List.length_nil]
 omega
theorem aFB (seed m:UInt64) (lv:Int) (leaf:Nat) (h:(lv=1∧leaf < 32) ∨ (lv=2∧leaf < 1024)):∃ s,mN seed lv leaf m=some s∧(s.length:Int)=jZ lv∧bM s 0 2=leaf∧kQ (kL seed lv) lv m s=true∧kQ (kL seed lv) (3 - lv) m s=false:=by
 have hp1:∀ (a t:Int) (j:Nat) (m:UInt64),j < 32→((kD seed a t j m).flatMap nmb).length=184:=fun a t j m hj=>by rw [wA,aAx _ _ _ _ _ hj]
 rcases h with ⟨rfl,hl⟩ | ⟨rfl,hl⟩
 ·have e := aHh seed m leaf 0 leaf (by omega) hl
  refine ⟨_,e,?_,?_,?_,?_⟩
  ·rw [List.length_append,hp1 _ _ _ _ hl];rfl
  ·exact pV leaf (by omega) _
  ·unfold kQ
   rw [if_pos rfl,pV leaf (by omega) _,Nat.mod_eq_of_lt hl]
   have hc:=pA [toB ((leaf:Int) / 256),toB (leaf:Int)] [] seed m 1 ((0:Nat):Int) leaf 2 rfl hl
   rw [List.append_nil] at hc
   rw [hc,List.length_append,hp1 _ _ _ _ hl]
   have hpv:kL seed 1=dJ (cA seed 1 ((0:Nat):Int)):=by unfold kL;rw [if_pos (by omega)];rfl
   rw [hpv]
   simp [hl]
  refine oG _ _ _ _ ?_
  rw [List.length_append,hp1 _ _ _ _ hl,show [toB ((leaf:Int) / 256),toB (leaf:Int)].length=2 from rfl];decide
 have e:=aHg seed m leaf (leaf / 32) (leaf % 32) (by omega) (by omega) hl
 have hr:leaf % 32 < 32:=by omega
 have ht:leaf / 32 < 32:=by omega
 refine ⟨_,e,?_,?_,?_,?_⟩
 ·rw [List.length_append,List.length_append,hp1 _ _ _ _ hr,hp1 _ _ _ _ ht];rfl
 ·rw [List.append_assoc];exact pV leaf (by omega) _
 ·unfold kQ
  rw [if_neg (by omega),if_pos rfl]
  have hn:=pV leaf hl ((kD seed 1 ((leaf / 32:Nat):Int) (leaf % 32) m).flatMap nmb ++ (kD seed 2 0 (leaf / 32) (dJ (cA seed 1 ((leaf / 32:Nat):Int)))).flatMap nmb)
  rw [← List.append_assoc] at hn
  rw [hn]
  have hc:=pA [toB ((leaf:Int) / 256),toB (leaf:Int)] ((kD seed 2 0 (leaf / 32) (dJ (cA seed 1 ((leaf / 32:Nat):Int)))).flatMap nmb) seed m 1 ((leaf / 32:Nat):Int) (leaf % 32) 2 rfl hr
  rw [← List.append_assoc] at hc
  have hc2:=pA ([toB ((leaf:Int) / 256),toB (leaf:Int)] ++ (kD seed 1 ((leaf / 32:Nat):Int) (leaf % 32) m).flatMap nmb) [] seed (dJ (cA seed 1 ((leaf / 32:Nat):Int))) 2 0 (leaf / 32) 186 (by rw [List.length_append,hp1 _ _ _ _ hr];rfl) ht
  rw [List.append_nil] at hc2
  rw [hc,hc2,List.length_append,List.length_append,hp1 _ _ _ _ hr,hp1 _ _ _ _ ht]
  have hpv:kL seed 2=dJ (cA seed 2 0):=by unfold kL;rw [if_pos (by omega)];rfl
  rw [hpv]
  simp [hl]
 refine oG _ _ _ _ ?_
 rw [List.length_append,List.length_append,hp1 _ _ _ _ hr,hp1 _ _ _ _ ht,show [toB ((leaf:Int) / 256),toB (leaf:Int)].length=2 from rfl];decide
def dA (na nv:Nat) (ht:Int) (H:List UInt8→UInt64) (ev:OpR→Bool) (ac:Int) (R:OpR) (S:StV):Int :=
 if R.k=3 then match fdK S.K R.lk with
  | none=>6
  | some l=>if R.tO ≠ l.tO ∨ R.am ≠ getC S.C (dQ R.lk) then 7 else if H R.pre ≠ l.hs then 12 else if l.ul≤ht then 102 else 0
 else if R.k=4 then match fdK S.K R.lk with
  | none=>6
  | some l=>if R.tO ≠ l.ow ∨ R.am ≠ getC S.C (dQ R.lk) then 7 else if ht < l.ul then 102 else 0
 else if R.k=6 then (if (nv:Int)≤R.va then 1 else if gE S.G R.va.toNat=true then 7 else if ev R=true then 0 else 12)
 else if R.k=5∧(nv:Int)≤R.va then 1
 else if R.k=5∧gE S.G R.va.toNat=true then 7
 else if R.k ≠ 5∧(na:Int)≤R.tO then 1
 else if R.k=2∧R.ul≤ht then 102
 else if getC S.C (aY ac) < R.am then 100 else 0
def errN (chk:OpR→StV→Int) (ac sq:Int) (L:List OpR) (S:StV):Nat→Int
 | 0=>0
 | n+1=>if errN chk ac sq L S n ≠ 0 then errN chk ac sq L S n else chk (bI L n) (doN ac sq L S n)
theorem rL {chk:OpR→StV→Int} {ac sq:Int} {L:List OpR} {S:StV} {k:Nat} (h:errN chk ac sq L S k ≠ 0):∀ n,k≤n→errN chk ac sq L S n=errN chk ac sq L S k:=by
  intro n
  induction n with
  | zero => intro hk; have : k = 0 := by omega
            subst this;rfl
  | succ n ih =>
    intro hk
    by_cases e:k=n+1
    · subst e;rfl
    have e1:=ih (by omega)
    show (if _ then _ else _)=_
    rw [if_pos (by rw [e1];exact h),e1]
theorem aIk {chk:OpR→StV→Int} {ac sq:Int} {L:List OpR} {S:StV} {n:Nat} (h:errN chk ac sq L S n=0):∀ k,k < n→chk (bI L k) (doN ac sq L S k)=0∧errN chk ac sq L S k=0:=by
 intro k hk
 have h0:errN chk ac sq L S k=0:=by
  refine Classical.byContradiction (fun hc=>?_)
  have:=rL hc n (by omega)
  rw [h] at this;exact hc this.symm
 have h1:errN chk ac sq L S (k+1)=0:=by
  refine Classical.byContradiction (fun hc=>?_)
  have:=rL hc n (by omega)
  rw [h] at this;exact hc this.symm
 refine ⟨?_,h0⟩
 have h2:errN chk ac sq L S (k+1)=chk (bI L k) (doN ac sq L S k):=if_neg (by rw [h0];simp)
 rw [← h2];exact h1
theorem aLk {C:List DeR} (h:AscC C) (hn:nzC C) {x y:CeR} {n B:Int} (h0:0≤n) (h1:n≤getC C x) (hB:∀ c,0≤getC C c∧getC C c≤B) (hb:B≤2305843009213693952) :
  (∀ c,0≤getC (addL C (dF x y n)) c∧getC (addL C (dF x y n)) c≤2 * B)∧∀ c,c ≠ x→getC C c≤getC (addL C (dF x y n)) c:=by
 have hx:=hB x
 have key:∀ c,getC (addL C (dF x y n)) c=getC C c+(if c=x then -n else 0)+(if c=y then n else 0):=by
  intro c
  have hc:=hB c
  show getC (dM (dM C x (wr (-n))) y n) c=_
  by_cases e1:c=x
  ·subst e1
   have e3:getC (dM C c (wr (-n))) c=getC C c - n:=by
    rw [lP h,aIH]
    refine (fR ?_).trans (by omega)
    unfold jS;omega
   rw [if_pos rfl]
   by_cases e2:c=y
   ·subst e2
    rw [if_pos rfl,lP (rS h _ _),e3]
    refine (fR ?_).trans (by omega)
    unfold jS;omega
   rw [if_neg e2,jB (Ne.symm e2),e3];omega
  rw [if_neg e1]
  by_cases e2:c=y
  ·subst e2
   rw [if_pos rfl,lP (rS h _ _),jB (Ne.symm e1)]
   refine (fR ?_).trans (by omega)
   unfold jS;omega
  rw [if_neg e2,jB (Ne.symm e2),jB (Ne.symm e1)];omega
 refine ⟨fun c=>?_,fun c hc=>?_⟩
 ·have hc := hB c
  rw [key c]
  by_cases e1:c=x
  ·subst e1;rw [if_pos rfl];split <;> omega
  rw [if_neg e1];split <;> omega
 rw [key c,if_neg hc];split <;> omega
theorem aIt (g:Int) {k:Nat} (hk:k≤9):(BitVec.ofInt 64 g).getLsbD k=gE g k:=by
 have h1:(BitVec.ofInt 64 g).toNat=(g % 2 ^ 64).toNat:=by simp [BitVec.toNat_ofInt]
 show (BitVec.ofInt 64 g).toNat.testBit k=_
 rw [Nat.testBit_eq_decide_div_mod_eq,h1]
 unfold gE
 have h2:(0:Int)≤g % 2 ^ 64:=Int.emod_nonneg _ (by decide)
 apply decide_eq_decide.2
 obtain rfl | rfl | rfl | rfl | rfl | rfl | rfl | rfl | rfl | rfl:k=0 ∨ k=1 ∨ k=2 ∨ k=3 ∨ k=4 ∨ k=5 ∨ k=6 ∨ k=7 ∨ k=8 ∨ k=9:=by omega
 all_goals omega
theorem aEo {k:Nat} (hk:k≤9):BitVec.ofInt 64 ((2:Int) ^ k)=BitVec.twoPow 64 k:=by
 obtain rfl | rfl | rfl | rfl | rfl | rfl | rfl | rfl | rfl | rfl:k=0 ∨ k=1 ∨ k=2 ∨ k=3 ∨ k=4 ∨ k=5 ∨ k=6 ∨ k=7 ∨ k=8 ∨ k=9:=by omega
 all_goals rfl
theorem lU (g:Int) {k:Nat} (hk:k≤9):bits .and .i64 g (2 ^ k)=if gE g k=true then 2 ^ k else 0:=by
 show IntKind.i64.wrap ((BitVec.ofInt 64 g &&& BitVec.ofInt 64 (2 ^ k)).toNat:Int)=_
 rw [aEo hk,BitVec.and_twoPow,aIt g hk]
 by_cases h:gE g k=true
 ·rw [if_pos h, if_pos h]
  obtain rfl | rfl | rfl | rfl | rfl | rfl | rfl | rfl | rfl | rfl:k=0 ∨ k=1 ∨ k=2 ∨ k=3 ∨ k=4 ∨ k=5 ∨ k=6 ∨ k=7 ∨ k=8 ∨ k=9:=by omega
  all_goals rfl
 rw [if_neg h,if_neg h];rfl
theorem aBo {G:Int} (h:wfI G) {k:Nat} (hk:k≤9):wfI (yD G k):=by
 unfold yD gE
 by_cases h1:G / 2 ^ k % 2=1
 ·rw [if_pos (by simpa using h1)];exact h
 rw [if_neg (by simpa using h1)]
 rw [fY] at *
 unfold jS at *
 obtain rfl | rfl | rfl | rfl | rfl | rfl | rfl | rfl | rfl | rfl:k=0 ∨ k=1 ∨ k=2 ∨ k=3 ∨ k=4 ∨ k=5 ∨ k=6 ∨ k=7 ∨ k=8 ∨ k=9:=by omega
 all_goals omega
theorem aDc {g:Int} (hg:wfI g) {k:Nat} (hk:k≤9):bits .or .i64 g (2 ^ k)=yD g k:=by
 have hw:∀ z:Int,wfI z→IntKind.i64.wrap (((BitVec.ofInt 64 z).toNat:Nat):Int)=z:=by
  intro z hz
  have h1:(((BitVec.ofInt 64 z).toNat:Nat):Int)=z % 2 ^ 64:=by
   rw [BitVec.toNat_ofInt]
   exact Int.toNat_of_nonneg (Int.emod_nonneg _ (by decide))
  rw [h1]
  rw [fY] at hz
  unfold jS at hz
  rw [IntKind.wrap_i64]
  omega
 show IntKind.i64.wrap ((BitVec.ofInt 64 g ||| BitVec.ofInt 64 (2 ^ k)).toNat:Int)=_
 have h0:=aIt g hk
 unfold yD
 by_cases h:gE g k=true
 ·rw [if_pos h]
  have:BitVec.ofInt 64 g ||| BitVec.ofInt 64 (2 ^ k)=BitVec.ofInt 64 g:=by
   rw [aEo hk]
   apply BitVec.eq_of_getLsbD_eq
   intro i hi
   rw [BitVec.getLsbD_or,BitVec.getLsbD_twoPow]
   by_cases e:k=i
   ·subst e;rw [h0,h];rfl
   simp [e]
  rw [this];exact hw g hg
 rw [if_neg h]
 have h2:gE g k=false:=by simpa using h
 have:BitVec.ofInt 64 g ||| BitVec.ofInt 64 (2 ^ k)=BitVec.ofInt 64 (g+2 ^ k):=by
  rw [BitVec.ofInt_add]
  refine (BitVec.add_eq_or_of_and_eq_zero _ _ ?_).symm
  rw [aEo hk,BitVec.and_twoPow,h0,h2];rfl
 rw [this]
 refine hw _ ?_
 have:=aBo hg hk
 unfold yD at this;rwa [if_neg h] at this
end
section
open Go.RowKit
attribute [local go_sem ↓] Go.wp_at_zero Go.wp_at_succ
theorem aGq (x:DeR) (c:CeR) (g:Nat) (w:World) (hx:deW x) (hc:ceW c) (hb:Blk w g 32 (ceA c)):Calls Tryz.prog 158 #[.agg (deA x),.pointer (some ⟨g,0,none⟩)] w fun e w'=>e=.returned (.bool (decide (x.c=c)))∧Ext w w':=by
 have HB:=zh (Blk.new w 34 (deA x))
 have HC:=zh (hb.alloc (.cells (deA x) 34))
 have HE:=zh ((Ext.refl w).alloc' (.cells (deA x) 34))
 have r0:(w.alloc (.cells (deA x) 34)).rangeAt w.heap.size 0 (RowT.enc x.c):=aCO HB.out
 have r1:(w.alloc (.cells (deA x) 34)).rangeAt g 0 (RowT.enc c):=aC HC.out
 have hq:=uL x.c c hx.1 hc (w.alloc (.cells (deA x) 34))
 have HC2:=zh (rfl:(deA x)=(deA x))
 clear hb hx hc
 have hg:=kZ .eql (.tmp 5) (.tmp 6) x.c c (w.alloc (.cells (deA x) 34))
 obtain ⟨v0,hv0⟩:∃ v,Value.agg (ceA x.c)=v:=⟨_,rfl⟩
 obtain ⟨v1,hv1⟩:∃ v,Value.agg (ceA c)=v:=⟨_,rfl⟩
 rw [hv0,hv1] at hq hg
 have HV0:=zh hv0
 have HV1:=zh hv1
 clear hv0 hv1
 obtain ⟨b,hb⟩:∃ b,decide (x.c=c)=b:=⟨_,rfl⟩
 rw [hb] at hq ⊢
 clear hb
 go_enter Tryz.func158,Tryz.ntmps158
 go_wp2_with (first | (with_reducible refine aB ceP rfl (.tmp 4) rfl w.heap.size 0 rfl x.c v0 HV0.out r0 ?_) | (with_reducible refine aB ceP rfl (.tmp 1) rfl g 0 rfl c v1 HV1.out r1 ?_))
 go_ret
 exact ⟨rfl,HE.out⟩
theorem aEh (c:CeR) (g:Nat) (w:World) (hc:ceW c) (hb:Blk w g 32 (ceA c)):Says deA 158 #[.pointer (some ⟨g,0,none⟩)] (fun x=>decide (x.c=c)) w :=
 ⟨fun _ _=>by kernel_rfl,fun x W hE hx=>aGq x c g W hx hc (hb.ext hE)⟩
theorem xU (x:LkR) (c:UInt64) (g:Nat) (w:World) (hx:lkW x)  (hb:Blk w g 30 (nmc c)):Calls Tryz.prog 213 #[.agg (lkA x),.pointer (some ⟨g,0,none⟩)] w fun e w'=>e=.returned (.bool (decide (x.nm=c)))∧Ext w w':=by
 have HB:=zh (Blk.new w 94 (lkA x))
 have HC:=zh (hb.alloc (.cells (lkA x) 94))
 have HE:=zh ((Ext.refl w).alloc' (.cells (lkA x) 94))
 have r0:(w.alloc (.cells (lkA x) 94)).rangeAt w.heap.size 0 (RowT.enc x.nm):=aAB HB.out
 have r1:(w.alloc (.cells (lkA x) 94)).rangeAt g 0 (RowT.enc c):=bZ HC.out
 have hq:=bX x.nm c (w.alloc (.cells (lkA x) 94))
 have HC2:=zh (rfl:(lkA x)=(lkA x))
 clear hb hx 
 have hg:=iV .eql (.tmp 5) (.tmp 6) x.nm c (w.alloc (.cells (lkA x) 94))
 obtain ⟨v0,hv0⟩:∃ v,Value.agg (nmc x.nm)=v:=⟨_,rfl⟩
 obtain ⟨v1,hv1⟩:∃ v,Value.agg (nmc c)=v:=⟨_,rfl⟩
 rw [hv0,hv1] at hq hg
 have HV0:=zh hv0
 have HV1:=zh hv1
 clear hv0 hv1
 obtain ⟨b,hb⟩:∃ b,decide (x.nm=c)=b:=⟨_,rfl⟩
 rw [hb] at hq ⊢
 clear hb
 go_enter Tryz.func213,Tryz.ntmps213
 go_wp2_with (first | (with_reducible refine aB nmP rfl (.tmp 4) rfl w.heap.size 0 rfl x.nm v0 HV0.out r0 ?_) | (with_reducible refine aB nmP rfl (.tmp 1) rfl g 0 rfl c v1 HV1.out r1 ?_))
 go_ret
 exact ⟨rfl,HE.out⟩
theorem wC (c:UInt64) (g:Nat) (w:World)  (hb:Blk w g 30 (nmc c)):Says lkA 213 #[.pointer (some ⟨g,0,none⟩)] (fun x=>decide (x.nm=c)) w :=
 ⟨fun _ _=>by kernel_rfl,fun x W hE hx=>xU x c g W hx (hb.ext hE)⟩
theorem wB (s:StR) (c:CeR) (w:World) (h:s.ok w) (hc:ceW c) (r:Int) (hr:IxIs (fun x=>decide (x.c=c)) s.C r):Calls Tryz.prog 101 #[.agg (ssA s),.agg (ceA c)] w fun e w'=>e=.returned (.int .i64 r)∧Ext w w':=by
 obtain ⟨W,hW⟩:∃ W,((w.alloc (.cells (ssA s) 44)).alloc (.cells (ceA c) 32))=W:=⟨_,rfl⟩
 have HB:=zh (show Blk W w.heap.size 44 (ssA s) from by rw [← hW];exact (Blk.new w 44 (ssA s)).alloc _)
 have HC:=zh (show Blk W (w.heap.size+1) 32 (ceA c) from by rw [← hW];exact Blk.newAt _ _ _ _ (by simp))
 have HE:=zh (show Ext w W from by rw [← hW];exact ((Ext.refl w).alloc' _).alloc' _)
 have c0:W.cell? ⟨w.heap.size,0,none⟩=some (.slice s.A1 s.n1 s.c1):=HB.out.cell 0
 have HF:=zh (aEh c _ _ hc HC.out)
 have HI:=zh (vV HF.out W s.A1 s.n1 s.c1 s.C (h.ext HE.out).s1 (Ext.refl _) r hr)
 clear h hr hc
 go_enter Tryz.func101,Tryz.ntmps101
 go_wp2_with fail
 refine HI.out.mono ?_
 rintro e w5 ⟨rfl,he5⟩
 have HX:=zh (HE.out.trans he5)
 clear he5 c0 HI HF
 go_wp2_with fail
 go_ret
 exact ⟨rfl,HX.out⟩
theorem fK (s:StR) (c:UInt64) (w:World) (h:s.ok w)  (r:Int) (hr:IxIs (fun x=>decide (x.nm=c)) s.K r):Calls Tryz.prog 152 #[.agg (ssA s),.agg (nmc c)] w fun e w'=>e=.returned (.int .i64 r)∧Ext w w':=by
 obtain ⟨W,hW⟩:∃ W,((w.alloc (.cells (ssA s) 44)).alloc (.cells (nmc c) 30))=W:=⟨_,rfl⟩
 have HB:=zh (show Blk W w.heap.size 44 (ssA s) from by rw [← hW];exact (Blk.new w 44 (ssA s)).alloc _)
 have HC:=zh (show Blk W (w.heap.size+1) 30 (nmc c) from by rw [← hW];exact Blk.newAt _ _ _ _ (by simp))
 have HE:=zh (show Ext w W from by rw [← hW];exact ((Ext.refl w).alloc' _).alloc' _)
 have c0:W.cell? ⟨w.heap.size,2,none⟩=some (.slice s.A3 s.n3 s.c3):=HB.out.cell 2
 have HF:=zh (wC c _ _ HC.out)
 have HI:=zh (vU HF.out W s.A3 s.n3 s.c3 s.K (h.ext HE.out).s3 (Ext.refl _) r hr)
 clear h hr 
 go_enter Tryz.func152,Tryz.ntmps152
 go_wp2_with fail
 refine HI.out.mono ?_
 rintro e w5 ⟨rfl,he5⟩
 have HX:=zh (HE.out.trans he5)
 clear he5 c0 HI HF
 go_wp2_with fail
 go_ret
 exact ⟨rfl,HX.out⟩
theorem yA (x y:DeR) (gf g:Nat) (w:World) (hf:Blk w gf 124 #[.func (.func 105) #[] #[]]) (hb:Blk w g 34 (deA x)):Calls Tryz.prog 161 #[.agg (deA y),.pointer (some ⟨gf,0,none⟩),.pointer (some ⟨g,0,none⟩)] w fun e w'=>e=.returned (.bool ((fun y=>eJ x.c y.c) y))∧Ext w w':=by
 have HB:=zh (Blk.new w 34 (deA y))
 have HC:=zh (hb.alloc (.cells (deA y) 34))
 have HE:=zh ((Ext.refl w).alloc' (.cells (deA y) 34))
 have c0:(w.alloc (.cells (deA y) 34)).cell? ⟨gf,0,none⟩=some (.func (.func 105) #[] #[]):=(hf.alloc _).cell 0
 have r0:(w.alloc (.cells (deA y) 34)).rangeAt w.heap.size 0 (RowT.enc y):=aC HB.out
 have r1:(w.alloc (.cells (deA y) 34)).rangeAt g 0 (RowT.enc x):=aC HC.out
 have HQ:=zh (wL y.c x.c)
 have HM:=zh (fun W=>aBc y x W)
 have eg:∀ args w,(callFunc 105 args).run Tryz.prog w=.ok (.enter 105 args) w:=fun _ _=>by kernel_rfl
 clear hb hf
 obtain ⟨v0,hv0⟩:∃ v,Value.agg (deA y)=v:=⟨_,rfl⟩
 obtain ⟨v1,hv1⟩:∃ v,Value.agg (deA x)=v:=⟨_,rfl⟩
 have HV0:=zh hv0
 have HV1:=zh hv1
 rw [hv0,hv1] at HM
 clear hv0 hv1
 go_enter Tryz.func161,Tryz.ntmps161
 go_wp2_with (first | (with_reducible refine aB deP rfl (.tmp 3) rfl w.heap.size 0 rfl y v0 HV0.out r0 ?_) | (with_reducible refine aB deP rfl (.tmp 2) rfl g 0 rfl x v1 HV1.out r1 ?_))
 refine (HM.out _).mono ?_
 rintro e w5 ⟨rfl,he5⟩
 have HX:=zh (HE.out.trans he5)
 clear he5 c0 r0 r1
 go_wp2_with fail
 go_ret
 exact ⟨by rw [← HQ.out];rfl,HX.out⟩
theorem aBg (A:Option Addr) (n c:Nat) (L:List DeR) (x:DeR) (w:World) (h:SlG w A n c L):Calls Tryz.prog 104 #[.slice A n c,.agg (deA x),.func (.func 105) #[] #[]] w fun e w'=>∃ k:Nat,e=.returned (.int .i64 (k:Int))∧k≤n∧eS (fun y=>eJ x.c y.c) x L=L.take k ++ x :: L.drop k∧Ext w w':=by
 obtain ⟨W,hW⟩:∃ W,((w.alloc (.cells (deA x) 34)).alloc (.cells #[.func (.func 105) #[] #[]] 124))=W:=⟨_,rfl⟩
 have HB:=zh (show Blk W w.heap.size 34 (deA x) from by rw [← hW];exact (Blk.new w 34 (deA x)).alloc _)
 have HC:=zh (show Blk W (w.heap.size+1) 124 #[.func (.func 105) #[] #[]] from by rw [← hW];exact Blk.newAt _ _ _ _ (by simp))
 have HE:=zh (show Ext w W from by rw [← hW];exact ((Ext.refl w).alloc' _).alloc' _)
 have HF:=zh (show Says deA 161 #[.pointer (some ⟨w.heap.size+1,0,none⟩),.pointer (some ⟨w.heap.size,0,none⟩)] (fun y=>eJ x.c y.c) W from ⟨fun _ _=>by kernel_rfl,fun y W2 hE2 _=>yA x y _ _ W2 (HC.out.ext hE2) (HB.out.ext hE2)⟩)
 have HLEN:=zh h.len
 have HS:=zh (h.ext HE.out)
 have hcap:=h.cap
 have hle:=h.le
 clear h
 have hcs:=iU (fun y=>eJ x.c y.c) L
 rw [HLEN.out] at hcs
 rcases hcs with hno | ⟨k,hk,h1,h2⟩
 ·have HI := zh (vV HF.out W A n c L HS.out (Ext.refl _) (-1) (.inl ⟨rfl, by rw [HLEN.out]; exact hno⟩))
  have HR:=zh (jA (fun y=>eJ x.c y.c) x L n (by rw [HLEN.out];exact Nat.le_refl _) (fun j hj hl=>by rw [cF hl];exact hno j hj) (fun hh=>absurd hh (by rw [HLEN.out];omega)))
  clear hno
  go_enter Tryz.func104,Tryz.ntmps104
  go_wp2_with fail
  refine HI.out.mono ?_
  rintro e w5 ⟨rfl,he5⟩
  have HX:=zh (HE.out.trans he5)
  clear he5 HI HF hW
  go_wp2_with fail
  go_ret
  exact ⟨n,rfl,Nat.le_refl _,HR.out,HX.out⟩
 have HI:=zh (vV HF.out W A n c L HS.out (Ext.refl _) (k:Int) (.inr ⟨k,rfl,by rw [HLEN.out];exact hk,h1,h2⟩))
 have HR:=zh (jA (fun y=>eJ x.c y.c) x L k (by rw [HLEN.out];omega) (fun j hj hl=>by rw [cF hl];exact h2 j hj) (fun hh=>by rw [cF hh];exact h1))
 clear h1 h2
 go_enter Tryz.func104,Tryz.ntmps104
 go_wp2_with fail
 refine HI.out.mono ?_
 rintro e w5 ⟨rfl,he5⟩
 have HX:=zh (HE.out.trans he5)
 clear he5 HI HF hW
 go_wp2_with fail
 go_ret
 exact ⟨k,rfl,Nat.le_of_lt hk,HR.out,HX.out⟩
theorem xZ (x y:LkR) (gf g:Nat) (w:World) (hf:Blk w gf 172 #[.func (.func 155) #[] #[]]) (hb:Blk w g 94 (lkA x)):Calls Tryz.prog 216 #[.agg (lkA y),.pointer (some ⟨gf,0,none⟩),.pointer (some ⟨g,0,none⟩)] w fun e w'=>e=.returned (.bool ((fun y=>decide (un x.nm < un y.nm)) y))∧Ext w w':=by
 have HB:=zh (Blk.new w 94 (lkA y))
 have HC:=zh (hb.alloc (.cells (lkA y) 94))
 have HE:=zh ((Ext.refl w).alloc' (.cells (lkA y) 94))
 have c0:(w.alloc (.cells (lkA y) 94)).cell? ⟨gf,0,none⟩=some (.func (.func 155) #[] #[]):=(hf.alloc _).cell 0
 have r0:(w.alloc (.cells (lkA y) 94)).rangeAt w.heap.size 0 (RowT.enc y):=aC HB.out
 have r1:(w.alloc (.cells (lkA y) 94)).rangeAt g 0 (RowT.enc x):=aC HC.out
 have HQ:=zh (wK y.nm x.nm)
 have HM:=zh (fun W=>aBb y x W)
 have eg:∀ args w,(callFunc 155 args).run Tryz.prog w=.ok (.enter 155 args) w:=fun _ _=>by kernel_rfl
 clear hb hf
 obtain ⟨v0,hv0⟩:∃ v,Value.agg (lkA y)=v:=⟨_,rfl⟩
 obtain ⟨v1,hv1⟩:∃ v,Value.agg (lkA x)=v:=⟨_,rfl⟩
 have HV0:=zh hv0
 have HV1:=zh hv1
 rw [hv0,hv1] at HM
 clear hv0 hv1
 go_enter Tryz.func216,Tryz.ntmps216
 go_wp2_with (first | (with_reducible refine aB lkP rfl (.tmp 3) rfl w.heap.size 0 rfl y v0 HV0.out r0 ?_) | (with_reducible refine aB lkP rfl (.tmp 2) rfl g 0 rfl x v1 HV1.out r1 ?_))
 refine (HM.out _).mono ?_
 rintro e w5 ⟨rfl,he5⟩
 have HX:=zh (HE.out.trans he5)
 clear he5 c0 r0 r1
 go_wp2_with fail
 go_ret
 exact ⟨by rw [← HQ.out];rfl,HX.out⟩
theorem aBf (A:Option Addr) (n c:Nat) (L:List LkR) (x:LkR) (w:World) (h:SlG w A n c L):Calls Tryz.prog 154 #[.slice A n c,.agg (lkA x),.func (.func 155) #[] #[]] w fun e w'=>∃ k:Nat,e=.returned (.int .i64 (k:Int))∧k≤n∧eS (fun y=>decide (un x.nm < un y.nm)) x L=L.take k ++ x :: L.drop k∧Ext w w':=by
 obtain ⟨W,hW⟩:∃ W,((w.alloc (.cells (lkA x) 94)).alloc (.cells #[.func (.func 155) #[] #[]] 172))=W:=⟨_,rfl⟩
 have HB:=zh (show Blk W w.heap.size 94 (lkA x) from by rw [← hW];exact (Blk.new w 94 (lkA x)).alloc _)
 have HC:=zh (show Blk W (w.heap.size+1) 172 #[.func (.func 155) #[] #[]] from by rw [← hW];exact Blk.newAt _ _ _ _ (by simp))
 have HE:=zh (show Ext w W from by rw [← hW];exact ((Ext.refl w).alloc' _).alloc' _)
 have HF:=zh (show Says lkA 216 #[.pointer (some ⟨w.heap.size+1,0,none⟩),.pointer (some ⟨w.heap.size,0,none⟩)] (fun y=>decide (un x.nm < un y.nm)) W from ⟨fun _ _=>by kernel_rfl,fun y W2 hE2 _=>xZ x y _ _ W2 (HC.out.ext hE2) (HB.out.ext hE2)⟩)
 have HLEN:=zh h.len
 have HS:=zh (h.ext HE.out)
 have hcap:=h.cap
 have hle:=h.le
 clear h
 have hcs:=iU (fun y=>decide (un x.nm < un y.nm)) L
 rw [HLEN.out] at hcs
 rcases hcs with hno | ⟨k,hk,h1,h2⟩
 ·have HI := zh (vU HF.out W A n c L HS.out (Ext.refl _) (-1) (.inl ⟨rfl, by rw [HLEN.out]; exact hno⟩))
  have HR:=zh (jA (fun y=>decide (un x.nm < un y.nm)) x L n (by rw [HLEN.out];exact Nat.le_refl _) (fun j hj hl=>by rw [cF hl];exact hno j hj) (fun hh=>absurd hh (by rw [HLEN.out];omega)))
  clear hno
  go_enter Tryz.func154,Tryz.ntmps154
  go_wp2_with fail
  refine HI.out.mono ?_
  rintro e w5 ⟨rfl,he5⟩
  have HX:=zh (HE.out.trans he5)
  clear he5 HI HF hW
  go_wp2_with fail
  go_ret
  exact ⟨n,rfl,Nat.le_refl _,HR.out,HX.out⟩
 have HI:=zh (vU HF.out W A n c L HS.out (Ext.refl _) (k:Int) (.inr ⟨k,rfl,by rw [HLEN.out];exact hk,h1,h2⟩))
 have HR:=zh (jA (fun y=>decide (un x.nm < un y.nm)) x L k (by rw [HLEN.out];omega) (fun j hj hl=>by rw [cF hl];exact h2 j hj) (fun hh=>by rw [cF hh];exact h1))
 clear h1 h2
 go_enter Tryz.func154,Tryz.ntmps154
 go_wp2_with fail
 refine HI.out.mono ?_
 rintro e w5 ⟨rfl,he5⟩
 have HX:=zh (HE.out.trans he5)
 clear he5 HI HF hW
 go_wp2_with fail
 go_ret
 exact ⟨k,rfl,Nat.le_of_lt hk,HR.out,HX.out⟩
theorem xY (x y:UInt64) (gf g:Nat) (w:World) (hf:Blk w gf 127 #[.func (.func 108) #[] #[]]) (hb:Blk w g 30 (nmc x)):Calls Tryz.prog 165 #[.agg (nmc y),.pointer (some ⟨gf,0,none⟩),.pointer (some ⟨g,0,none⟩)] w fun e w'=>e=.returned (.bool ((fun y=>decide (un x < un y)) y))∧Ext w w':=by
 have HB:=zh (Blk.new w 30 (nmc y))
 have HC:=zh (hb.alloc (.cells (nmc y) 30))
 have HE:=zh ((Ext.refl w).alloc' (.cells (nmc y) 30))
 have c0:(w.alloc (.cells (nmc y) 30)).cell? ⟨gf,0,none⟩=some (.func (.func 108) #[] #[]):=(hf.alloc _).cell 0
 have r0:(w.alloc (.cells (nmc y) 30)).rangeAt w.heap.size 0 (RowT.enc y):=bZ HB.out
 have r1:(w.alloc (.cells (nmc y) 30)).rangeAt g 0 (RowT.enc x):=bZ HC.out
 have HQ:=zh (wK y x)
 have HM:=zh (fun W=>compareNames_any y x W)
 have eg:∀ args w,(callFunc 108 args).run Tryz.prog w=.ok (.enter 108 args) w:=fun _ _=>by kernel_rfl
 clear hb hf
 obtain ⟨v0,hv0⟩:∃ v,Value.agg (nmc y)=v:=⟨_,rfl⟩
 obtain ⟨v1,hv1⟩:∃ v,Value.agg (nmc x)=v:=⟨_,rfl⟩
 have HV0:=zh hv0
 have HV1:=zh hv1
 rw [hv0,hv1] at HM
 clear hv0 hv1
 go_enter Tryz.func165,Tryz.ntmps165
 go_wp2_with (first | (with_reducible refine aB nmP rfl (.tmp 3) rfl w.heap.size 0 rfl y v0 HV0.out r0 ?_) | (with_reducible refine aB nmP rfl (.tmp 2) rfl g 0 rfl x v1 HV1.out r1 ?_))
 refine (HM.out _).mono ?_
 rintro e w5 ⟨rfl,he5⟩
 have HX:=zh (HE.out.trans he5)
 clear he5 c0 r0 r1
 go_wp2_with fail
 go_ret
 exact ⟨by rw [← HQ.out];rfl,HX.out⟩
theorem aBe (A:Option Addr) (n c:Nat) (L:List UInt64) (x:UInt64) (w:World) (h:SlG w A n c L):Calls Tryz.prog 107 #[.slice A n c,.agg (nmc x),.func (.func 108) #[] #[]] w fun e w'=>∃ k:Nat,e=.returned (.int .i64 (k:Int))∧k≤n∧eS (fun y=>decide (un x < un y)) x L=L.take k ++ x :: L.drop k∧Ext w w':=by
 obtain ⟨W,hW⟩:∃ W,((w.alloc (.cells (nmc x) 30)).alloc (.cells #[.func (.func 108) #[] #[]] 127))=W:=⟨_,rfl⟩
 have HB:=zh (show Blk W w.heap.size 30 (nmc x) from by rw [← hW];exact (Blk.new w 30 (nmc x)).alloc _)
 have HC:=zh (show Blk W (w.heap.size+1) 127 #[.func (.func 108) #[] #[]] from by rw [← hW];exact Blk.newAt _ _ _ _ (by simp))
 have HE:=zh (show Ext w W from by rw [← hW];exact ((Ext.refl w).alloc' _).alloc' _)
 have HF:=zh (show Says nmc 165 #[.pointer (some ⟨w.heap.size+1,0,none⟩),.pointer (some ⟨w.heap.size,0,none⟩)] (fun y=>decide (un x < un y)) W from ⟨fun _ _=>by kernel_rfl,fun y W2 hE2 _=>xY x y _ _ W2 (HC.out.ext hE2) (HB.out.ext hE2)⟩)
 have HLEN:=zh h.len
 have HS:=zh (h.ext HE.out)
 have hcap:=h.cap
 have hle:=h.le
 clear h
 have hcs:=iU (fun y=>decide (un x < un y)) L
 rw [HLEN.out] at hcs
 rcases hcs with hno | ⟨k,hk,h1,h2⟩
 ·have HI := zh (aCy HF.out W A n c L HS.out (Ext.refl _) (-1) (.inl ⟨rfl, by rw [HLEN.out]; exact hno⟩))
  have HR:=zh (jA (fun y=>decide (un x < un y)) x L n (by rw [HLEN.out];exact Nat.le_refl _) (fun j hj hl=>by rw [cF hl];exact hno j hj) (fun hh=>absurd hh (by rw [HLEN.out];omega)))
  clear hno
  go_enter Tryz.func107,Tryz.ntmps107
  go_wp2_with fail
  refine HI.out.mono ?_
  rintro e w5 ⟨rfl,he5⟩
  have HX:=zh (HE.out.trans he5)
  clear he5 HI HF hW
  go_wp2_with fail
  go_ret
  exact ⟨n,rfl,Nat.le_refl _,HR.out,HX.out⟩
 have HI:=zh (aCy HF.out W A n c L HS.out (Ext.refl _) (k:Int) (.inr ⟨k,rfl,by rw [HLEN.out];exact hk,h1,h2⟩))
 have HR:=zh (jA (fun y=>decide (un x < un y)) x L k (by rw [HLEN.out];omega) (fun j hj hl=>by rw [cF hl];exact h2 j hj) (fun hh=>by rw [cF hh];exact h1))
 clear h1 h2
 go_enter Tryz.func107,Tryz.ntmps107
 go_wp2_with fail
 refine HI.out.mono ?_
 rintro e w5 ⟨rfl,he5⟩
 have HX:=zh (HE.out.trans he5)
 clear he5 HI HF hW
 go_wp2_with fail
 go_ret
 exact ⟨k,rfl,Nat.le_of_lt hk,HR.out,HX.out⟩
end
end Go.Proofs.YtohmmcahpakokaaGreat
