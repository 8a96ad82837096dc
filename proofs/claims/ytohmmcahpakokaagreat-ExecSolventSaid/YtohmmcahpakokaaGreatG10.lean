/- Votes: which are valid, their bytes, their order. Plain: no program in sight. -/
import Derived.DeepKeys4
import Derived.Maps.Own
import Derived.Lib.LazyBuf
import Derived.Deep.DeepCutAuto
import Derived.Deep.CutBlock
import Derived.Test.YtohmmcahpakokaaGreatG09
set_option maxRecDepth 100000
set_option maxHeartbeats 8000000
set_option linter.unusedSectionVars false
set_option linter.unusedVariables false
set_option linter.unusedSimpArgs false
namespace Go.Proofs.YtohmmcahpakokaaGreat
section
open Go.RowKit
def zU (z:Int):Int:=bits .andNot .i64 z 1023
def inI (n lo hi:Int):Bool:=decide (lo≤n∧n≤hi)
def chV (v:VtR):Bool:=decide (v.ch=1 ↔ v.va ≠ 0)
def yO (v:VtR):Bool :=
 if v.k=3 then inI v.sl 0 9 && (inI v.ro 1 12 && (inI v.ch 0 1 && (decide (v.ro ≠ 1) || (decide (v.ch ≠ 0) || decide (v.su=0)))))
 else if v.k=4 then inI v.sl 0 9 && (inI v.ro 1 12 && inI v.ch 0 2)
 else inI v.sl 0 (if v.k≤2 then 9 else 0) && (decide (v.ro=0∧v.su=0) && decide (v.ch=1))
def cI (v:VtR):Bool:=(inI v.k 1 7 && inI v.si 0 9) && ((chV v && decide (zU v.su=0)) && yO v)
def wG (v:VtR):List UInt8:=[toB v.k,toB v.sl,toB v.ro,toB v.ch,toB v.si] ++ (beI 2 v.su ++ (nmb v.pa ++ nmb v.va))
def byt (l:List UInt8) (i:Nat):UInt8:=l.getD i 0
def eT (l:List UInt8):VtR:=⟨(byt l 0).toNat,(byt l 1).toNat,(byt l 2).toNat,(byt l 3).toNat,(byt l 4).toNat,bM l 5 2,rG ((l.drop 7).take 8),rG ((l.drop 15).take 8)⟩
theorem mJ {z:Int} (h1:-9223372036854775808≤z) (h2:z≤9223372036854775807):wfI z:=by
 unfold wfI
 simp [Lit.wf,IntKind.min,IntKind.max,IntKind.bits,IntKind.signed]
 omega
theorem aIp (l:List UInt8):(eT l).wf:=by
 have hb:∀ c:UInt8,wfI (c.toNat:Int):=fun c=>by have:=c.toNat_lt;exact mJ (by omega) (by omega)
 refine ⟨hb _,hb _,hb _,hb _,hb _,?_⟩
 have h1:=iY ((l.drop 5).take 2)
 have h2:((l.drop 5).take 2).length≤2:=List.length_take_le _ _
 have h3:256 ^ ((l.drop 5).take 2).length≤256 ^ 2:=Nat.pow_le_pow_right (by omega) h2
 refine mJ ?_ ?_
 ·show _≤((bM l 5 2:Nat):Int);omega
 show ((bM l 5 2:Nat):Int)≤_;unfold bM;omega
def eX:List Int→List Int→Bool
 | x :: r,y :: s=>if x=y then eX r s else decide (x < y)
 | _,_=>false
theorem aCu (l:List Int):eX l l=false:=by
 induction l with
 | nil=>rfl
 | cons x r ih=>simp [eX,ih]
theorem vR:∀ (a b c:List Int),eX a b=true→eX b c=true→eX a c=true
 | [],_,_,h,_=>by simp [eX] at h
 | _ :: _,[],_,h,_=>by simp [eX] at h
 | _ :: _,_ :: _,[],_,h=>by simp [eX] at h
 | x :: r,y :: s,z :: t,h1,h2=>by
  unfold eX at h1 h2 ⊢
  have ih:=vR r s t
  by_cases c1:x=y
  ·subst c1
   rw [if_pos rfl] at h1
   by_cases c2:x=z
   ·subst c2;rw [if_pos rfl] at h2 ⊢;exact ih h1 h2
   rw [if_neg c2] at h2 ⊢;exact h2
  rw [if_neg c1] at h1
  have h1':=of_decide_eq_true h1
  by_cases c2:y=z
  ·subst c2;rw [if_neg c1];exact h1
  rw [if_neg c2] at h2
  have h2':=of_decide_eq_true h2
  rw [if_neg (by omega)];exact decide_eq_true (by omega)
theorem vS:∀ (a b:List Int),a.length=b.length→eX a b=false→eX b a=false→a=b
 | [],[],_,_,_=>rfl
 | [],_ :: _,h,_,_=>by simp at h
 | _ :: _,[],h,_,_=>by simp at h
 | x :: r,y :: s,h,h1,h2=>by
  unfold eX at h1 h2
  have ih:=vS r s (by simpa using h)
  by_cases e:x=y
  ·subst e;simp at h1 h2;rw [ih h1 h2]
  rw [if_neg e] at h1;rw [if_neg (fun h=>e h.symm)] at h2;simp at h1 h2;omega
def yF (v:VtR):List Int:=[un v.pa,v.sl,v.ro,v.k,v.si,v.ch,un v.va,v.su]
def vQ (a b:VtR):Bool:=eX (yF a) (yF b)
def kD (seed:UInt64) (a t:Int) (j:Nat) (m:UInt64):List UInt64:=fO (sY seed a t (j:Int)) m ++ fL (cA seed a t) j
theorem aAx (seed:UInt64) (a t:Int) (j:Nat) (m:UInt64) (h:j < 32):(kD seed a t j m).length=23:=by
 have h1:=zC j h
 simp only [kD,fO,List.length_append,List.length_map,List.length_range,pU,mW,h1]
@[go_sem] theorem aLq (n:UInt64):Array.foldl (fun (cs:Array Value) (x:Value × Nat)=>cs.setIfInBounds x.snd x.fst) #[.int .u8 0,.int .u8 0,.int .u8 0,.int .u8 0,.int .u8 0,.int .u8 0,.int .u8 0,.int .u8 0,.int .i64 0,.map none] (nmc n).zipIdx 0 8=#[.int .u8 (nb8 n 0),.int .u8 (nb8 n 1),.int .u8 (nb8 n 2),.int .u8 (nb8 n 3),.int .u8 (nb8 n 4),.int .u8 (nb8 n 5),.int .u8 (nb8 n 6),.int .u8 (nb8 n 7),.int .i64 0,.map none]:=by
 rw [← fJ n]
 kernel_rfl
theorem aHh (seed m:UInt64) (leaf t r:Nat) (h:leaf=32 * t+r) (hl:leaf < 32):mN seed 1 (leaf:Int) m=some ([toB ((leaf:Int) / 256),toB (leaf:Int)] ++ (kD seed 1 (t:Int) r m).flatMap nmb):=by
 obtain rfl:t=0:=by omega
 obtain rfl:leaf=r:=by omega
 unfold mN
 rw [if_pos ⟨rfl,by omega,by omega⟩,Int.toNat_natCast]
 congr 1
 simp only [wY,kD,List.flatMap_append,List.append_assoc]
 rw [show (leaf:Int) / 256=0 from by omega]
 rfl
theorem aHg (seed m:UInt64) (leaf t r:Nat) (h:leaf=32 * t+r) (hr:r < 32) (hl:leaf < 1024):mN seed 2 (leaf:Int) m=some ([toB ((leaf:Int) / 256),toB (leaf:Int)] ++ (kD seed 1 (t:Int) r m).flatMap nmb ++ (kD seed 2 0 t (dJ (cA seed 1 (t:Int)))).flatMap nmb):=by
 unfold mN
 rw [if_neg (by omega),if_pos ⟨rfl,by omega,by omega⟩,Int.toNat_natCast,← aEM seed m leaf t r hr h]
 have e3:(leaf:Int).tmod 32=(r:Int):=by
  rw [Int.tmod_eq_emod_of_nonneg (by omega)];omega
 rw [e3]
 simp only [kD,List.flatMap_append,List.append_assoc]
section
variable {β:Type} [DecidableEq β]
structure STO (lt:β→β→Bool):Prop where
 irrefl:∀ x,lt x x=false
 trans:∀ x y z,lt x y=true→lt y z=true→lt x z=true
 total:∀ x y,lt x y=false→lt y x=false→x=y
variable {lt:β→β→Bool}
theorem STO.asymm (h:STO lt) {x y:β} (hxy:lt x y=true):lt y x=false:=by
 cases hyx:lt y x with
 | false=>rfl
 | true=>have:=h.trans x y x hxy hyx;rw [h.irrefl] at this;cases this
theorem STO.ntrans (h:STO lt) {x y z:β} (h1:lt x y=false) (h2:lt y z=false):lt x z=false:=by
 cases hxz:lt x z with
 | false=>rfl
 | true =>
  cases hyx:lt y x with
  | true=>have:=h.trans y x z hyx hxz;rw [h2] at this;cases this
  | false =>
   obtain rfl:=h.total x y h1 hyx
   rw [h2] at hxz;cases hxz
def Asc (lt:β→β→Bool) (L:List β):Prop:=L.Pairwise fun x y=>lt x y=true
def vW (lt:β→β→Bool) (x:β):List β→List β
 | []=>[x]
 | y :: r=>if lt y x=true then y :: vW lt x r else if y=x then y :: r else x :: y :: r
def vX (lt:β→β→Bool) (acc L:List β):List β:=L.foldl (fun acc x=>vW lt x acc) acc
def pB (lt:β→β→Bool) (L:List β):List β:=vX lt [] L
theorem aCq (h:STO lt) (x y:β) (L:List β):y ∈ vW lt x L ↔ y=x ∨ y ∈ L:=by
 induction L with
 | nil=>simp [vW]
 | cons z r ih =>
  unfold vW
  split
  ·simp only [List.mem_cons, ih]
   constructor
   ·rintro (h | h | h) <;> simp [h]
   rintro (h | h | h) <;> simp [h]
  split
  ·rename_i h1 h2; subst h2; simp only [List.mem_cons]
   constructor
   ·rintro (h | h) <;> simp [h]
   rintro (h | h | h) <;> simp [h]
  simp only [List.mem_cons]
theorem aDh (h:STO lt) (x:β) (L:List β) (hL:Asc lt L):Asc lt (vW lt x L):=by
 induction L with
 | nil=>simp [vW,Asc]
 | cons z r ih =>
  unfold Asc at hL ih ⊢
  obtain ⟨h1,h2⟩:=List.pairwise_cons.1 hL
  unfold vW
  split
  ·rename_i hz
   refine List.pairwise_cons.2 ⟨fun y hy=>?_,ih h2⟩
   rcases (aCq h x y r).1 hy with rfl | hy
   ·exact hz
   exact h1 y hy
  rename_i hz
  split
  ·exact hL
  rename_i hne
  have hxz:lt x z=true:=by
   cases hh:lt x z with
   | true=>rfl
   | false=>exact absurd (h.total z x (by simpa using hz) hh) hne
  refine List.pairwise_cons.2 ⟨fun y hy=>?_,hL⟩
  rcases List.mem_cons.1 hy with rfl | hy
  ·exact hxz
  exact h.trans _ _ _ hxz (h1 y hy)
theorem aDW (h:STO lt) (y:β) (L acc:List β):y ∈ vX lt acc L ↔ y ∈ acc ∨ y ∈ L:=by
 induction L generalizing acc with
 | nil=>simp [vX]
 | cons x r ih =>
  show y ∈ vX lt (vW lt x acc) r ↔ _
  rw [ih,aCq h,List.mem_cons]
  constructor
  ·rintro ((h | h) | h) <;> simp [h]
  rintro (h | h | h) <;> simp [h]
theorem aEq (h:STO lt) (L acc:List β) (ha:Asc lt acc):Asc lt (vX lt acc L):=by
 induction L generalizing acc with
 | nil=>exact ha
 | cons x r ih=>exact ih _ (aDh h x acc ha)
theorem aDX (h:STO lt) (y:β) (L:List β):y ∈ pB lt L ↔ y ∈ L:=by
 unfold pB;rw [aDW h];simp
theorem aEr (h:STO lt) (L:List β):Asc lt (pB lt L):=aEq h L [] List.Pairwise.nil
theorem aDg (h:STO lt):∀ (L M:List β),Asc lt L→Asc lt M→(∀ y,y ∈ L ↔ y ∈ M)→L=M
 | [],[],_,_,_=>rfl
 | [],y :: s,_,_,he=>by have:=(he y).2 (by simp);simp at this
 | x :: r,[],_,_,he=>by have:=(he x).1 (by simp);simp at this
 | x :: r,y :: s,hL,hM,he=>by
  unfold Asc at hL hM
  obtain ⟨a1,a2⟩:=List.pairwise_cons.1 hL
  obtain ⟨b1,b2⟩:=List.pairwise_cons.1 hM
  have hxy:x=y:=by
   rcases List.mem_cons.1 ((he x).1 (by simp)) with e | e
   ·exact e
   rcases List.mem_cons.1 ((he y).2 (by simp)) with e' | e'
   ·exact e'.symm
   have h1:=b1 x e
   have h2:=a1 y e'
   rw [h.asymm h1] at h2;cases h2
  subst hxy
  rw [aDg h r s a2 b2 (fun z=>by
   have hz:=he z
   simp only [List.mem_cons] at hz
   constructor
   ·intro hr
    rcases hz.1 (Or.inr hr) with e | e
    ·subst e;have:=a1 z hr;rw [h.irrefl] at this;cases this
    exact e
   intro hs
   rcases hz.2 (Or.inr hs) with e | e
   ·subst e;have:=b1 z hs;rw [h.irrefl] at this;cases this
   exact e)]
def lC:β→List β→List β
 | _,[]=>[]
 | p,y :: r=>if y=p then lC p r else y :: lC y r
def compO:List β→List β
 | []=>[]
 | x :: r=>x :: lC x r
theorem aGf (y:β):∀ (L:List β) (p:β),y ∈ p :: lC p L ↔ y ∈ p :: L:=by
 intro L
 induction L with
 | nil=>intro p;rfl
 | cons x r ih =>
  intro p
  unfold lC
  split
  ·rename_i e; subst e
   rw [ih x];simp
  rename_i e
  rw [List.mem_cons,ih x,List.mem_cons,List.mem_cons,List.mem_cons]
theorem aGe (y:β) (L:List β):y ∈ compO L ↔ y ∈ L:=by
 cases L with
 | nil=>rfl
 | cons x r=>exact aGf y r x
def Wsc (lt:β→β→Bool) (L:List β):Prop:=L.Pairwise fun x y=>lt y x=false
theorem aGD (h:STO lt):∀ (L:List β) (p:β),Wsc lt (p :: L)→Asc lt (p :: lC p L):=by
 intro L
 induction L with
 | nil=>intro p _;exact List.pairwise_singleton _ _
 | cons x r ih =>
  intro p hW
  unfold Wsc at hW
  obtain ⟨h1,h2⟩:=List.pairwise_cons.1 hW
  obtain ⟨h3,h4⟩:=List.pairwise_cons.1 h2
  unfold lC
  split
  ·rename_i e;subst e;exact ih x h2
  rename_i e
  have hx:=ih x h2
  have hpx:lt p x=true:=by
   cases hh:lt p x with
   | true=>rfl
   | false=>exact absurd (h.total x p (h1 x (by simp)) hh) e
  refine List.pairwise_cons.2 ⟨fun y hy=>?_,hx⟩
  rcases List.mem_cons.1 hy with rfl | hy
  ·exact hpx
  exact h.trans _ _ _ hpx ((List.pairwise_cons.1 hx).1 y hy)
theorem aGC (h:STO lt) {L:List β} (hW:Wsc lt L):Asc lt (compO L):=by
 cases L with
 | nil=>exact List.Pairwise.nil
 | cons x r=>exact aGD h r x hW
theorem aCR (h:STO lt) {L M:List β} (hW:Wsc lt M) (he:∀ y,y ∈ M ↔ y ∈ L):compO M=pB lt L :=
 aDg h _ _ (aGC h hW) (aEr h L) (fun y=>by rw [aGe,aDX h,he])
theorem aEn (L:List β) (x y:β):compO (L ++ [x,y])=if y=x then compO (L ++ [x]) else compO (L ++ [x]) ++ [y]:=by
 have key:∀ (L:List β) (p x:β),lC p (L ++ [x,y])=if y=x then lC p (L ++ [x]) else lC p (L ++ [x]) ++ [y]:=by
  intro L
  induction L with
  | nil =>
   intro p x
   simp only [List.nil_append,lC]
   by_cases h1:x=p
   ·subst h1;by_cases h2:y=x <;> simp [h2]
   by_cases h2:y=x <;> simp [h1,h2]
  | cons z r ih =>
   intro p x
   simp only [List.cons_append,lC]
   split
   ·exact ih p x
   rw [ih z x];split <;> simp
 cases L with
 | nil=>simp only [List.nil_append,compO,lC];split <;> simp
 | cons z r =>
  simp only [List.cons_append,compO]
  rw [key];split <;> simp
end
def kQ (pub:UInt64) (levels:Int) (m:UInt64) (l:List UInt8):Bool :=
 if levels=1 then decide (l.length=186) && (decide (bM l 0 2 < 32) && decide (fF l 2 (bM l 0 2 % 32) m=pub))
 else if levels=2 then decide (l.length=370) && (decide (bM l 0 2 < 1024) && decide (fF l 186 (bM l 0 2 / 32) (fF l 2 (bM l 0 2 % 32) m)=pub))
 else false
theorem oZ (A:Option Addr) (len c:Nat) (l:List UInt8) (at_ j:Nat) (z q:Int) (hz:z=(at_:Int)) (hq:q=(j:Int)) (m:UInt64) (w:World) (h:SlB w A len c l) (hf:at_+184≤len) (hat:at_≤500) (hj:j < 32) :
  Calls Tryz.prog 202 #[.slice A len c,.int .i64 z,.int .i64 q,.agg (nmc m)] w fun e w'=>e=.returned (.agg (nmc (fF l at_ j m)))∧Ext w w':=by
 subst hz;subst hq;exact aCX A len c l at_ j m w h hf hat hj
theorem oG (pub:UInt64) (lv:Int) (m:UInt64) (l:List UInt8) (h:jZ lv ≠ (l.length:Int)):kQ pub lv m l=false:=by
 unfold kQ
 by_cases h1:lv=1
 ·subst h1;rw [if_pos rfl,decide_eq_false (show ¬ l.length=186 from fun e=>h (by rw [e];rfl))];rfl
 rw [if_neg h1]
 by_cases h2:lv=2
 ·subst h2;rw [if_pos rfl,decide_eq_false (show ¬ l.length=370 from fun e=>h (by rw [e];rfl))];rfl
 rw [if_neg h2]
theorem aGT (pub:UInt64) (lv:Int) (m:UInt64) (l:List UInt8) (h:rQ lv≤(bM l 0 2:Int)):kQ pub lv m l=false:=by
 unfold kQ
 by_cases h1:lv=1
 ·subst h1;rw [if_pos rfl,decide_eq_false (show ¬ bM l 0 2 < 32 from by have:(32:Int)≤(bM l 0 2:Int):=h;omega)];simp
 rw [if_neg h1]
 by_cases h2:lv=2
 ·subst h2;rw [if_pos rfl,decide_eq_false (show ¬ bM l 0 2 < 1024 from by have:(1024:Int)≤(bM l 0 2:Int):=h;omega)];simp
 rw [if_neg h2]
theorem yG (pub m:UInt64) (lv:Int) (A:Option Addr) (n c:Nat) (l:List UInt8) (w:World) (h:SlB w A n c l) (hno:n < 2 ∨ jZ lv ≠ (n:Int) ∨ rQ lv≤(bM l 0 2:Int)) :
  Calls Tryz.prog 145 #[.agg (nmc pub),.int .i64 lv,.agg (nmc m),.slice A n c] w fun e w'=>e=.returned (.bool false)∧Ext w w':=by
 have hE:=((Ext.refl w).alloc' (.cells (nmc pub) 30)).alloc' (.cells (nmc m) 30)
 have HE:=zh hE
 have hcap:=h.cap
 have hle:=h.le
 by_cases h2:n < 2
 ·clear hno
  go_enter Tryz.func145,Tryz.ntmps145
  go_wp2_with (go_at_call 146;refine (aJv A n c _ h2).mono ?_;rintro e w1 ⟨rfl,rfl⟩)
  go_ret
  exact ⟨rfl,HE.out⟩
 have HL:=zh (qD A n c l _ (h.ext HE.out) (by omega))
 have HH:=zh h
 clear h hE
 by_cases hs:jZ lv=(n:Int)
 ·have hc:rQ lv≤(bM l 0 2:Int):=by
   rcases hno with h | h | h
   ·omega
   ·exact absurd hs h
   exact h
  have b1:((n:Int) != jZ lv)=false:=by rw [hs];simp
  clear hno hs
  generalize hx:bM l 0 2=x at *
  generalize hcz:rQ lv=cz at *
  generalize hsz:jZ lv=sz at *
  have HC:=zh hcz
  have HS:=zh hsz
  clear hx hcz hsz
  go_enter Tryz.func145,Tryz.ntmps145
  go_wp2_with fail
  refine HL.out.mono ?_
  rintro e w1 ⟨rfl,rfl⟩
  go_wp2_with (first | (go_at_call 200;refine (pN lv _).mono ?_;rintro e w1 ⟨rfl,rfl⟩;rw [HS.out]) | (go_at_call 201;refine (jE lv _).mono ?_;rintro e w1 ⟨rfl,rfl⟩;rw [HC.out]))
  go_ret
  exact ⟨rfl,HE.out⟩
 have b1:((n:Int) != jZ lv)=true:=by rw [bne_iff_ne];exact fun e=>hs e.symm
 clear hno hs
 generalize hx:bM l 0 2=x at *
 generalize hsz:jZ lv=sz at *
 have HS:=zh hsz
 clear hx hsz
 go_enter Tryz.func145,Tryz.ntmps145
 go_wp2_with fail
 refine HL.out.mono ?_
 rintro e w1 ⟨rfl,rfl⟩
 go_wp2_with (first | (go_at_call 200;refine (pN lv _).mono ?_;rintro e w1 ⟨rfl,rfl⟩;rw [HS.out]) | (go_at_call 201;refine (jE lv _).mono ?_;rintro e w1 ⟨rfl,rfl⟩))
 go_ret
 exact ⟨rfl,HE.out⟩
end
section
open Go.RowKit
attribute [local go_sem ↓] Go.wp_at_zero Go.wp_at_succ
theorem yW (x y:UInt64) (w:World):Calls Tryz.prog 245 #[.agg (nmc x),.agg (nmc y)] w fun e w'=>e=.returned (.bool (decide (un x < un y)))∧Ext w w':=by
 have hE:=((Ext.refl w).alloc' (.cells (nmc x) 30)).alloc' (.cells (nmc y) 30)
 have HB1:=zh ((Blk.new w 30 (nmc x)).alloc (.cells (nmc y) 30))
 have HB2:=zh (show Blk ((w.alloc (.cells (nmc x) 30)).alloc (.cells (nmc y) 30)) (w.heap.size+1) 30 (nmc y) from Blk.newAt _ _ _ _ (by simp))
 have HE:=zh hE
 obtain ⟨W0,hW0⟩:∃ W0,(w.alloc (.cells (nmc x) 30)).alloc (.cells (nmc y) 30)=W0:=⟨_,rfl⟩
 rw [hW0] at HB1 HB2 HE
 have HC:=zh (fun (W:World) (h:Ext W0 W)=>And.intro (eY (HB1.out.ext h)) (eY (HB2.out.ext h)))
 clear hE
 have hq:=fun W=>bX x y W
 obtain ⟨c1,c2⟩:=HC.out W0 (Ext.refl _)
 by_cases hxy:x=y
 ·have HV := zh (show decide (un x < un y) = false by rw [hxy]; simp)
  rw [decide_eq_true hxy] at hq
  clear hxy
  go_enter Tryz.func245,Tryz.ntmps245
  go_wp2_with fail
  go_ret
  exact ⟨by rw [HV.out];rfl,HE.out⟩
 rw [decide_eq_false hxy] at hq
 clear hxy
 go_enter Tryz.func245,Tryz.ntmps245
 go_wp2_with fail
 clear c1 c2 hq
 refine eE (S:=fun W=>Ext W0 W) (by kernel_rfl) (by kernel_rfl) ((Ext.refl W0).drew') ?_
 (refine zzx 0 ?_ (hy:=by intro W aL;obtain ⟨c1,c2⟩:=HC.out W aL;go_simp <;> with_reducible rfl))
 (refine cE (i:=1) (oi:=⟨some 9,.call { callee:=.value (.func 167),args:=#[.tmp 8],argTypes:=#[30] },148,"hash.go:47",#[⟨0,.data⟩],none⟩) (v:=?_) rfl (by kernel_rfl) (by kernel_rfl) (tI (by rfl) (fun W aL K hK=>?hy1)) ?_;case hy1=>(go_simp;go_at_call 167;(with_reducible refine (iC x W).mono ?_);rintro e w1 ⟨rfl,he1⟩;exact hK.out _ (aL.trans he1)))
 try simp only [aX]
 (refine zzx 2 ?_ (hy:=by intro W aL;obtain ⟨c1,c2⟩:=HC.out W aL;go_simp <;> with_reducible rfl))
 (refine cE (i:=3) (oi:=⟨some 11,.call { callee:=.value (.func 167),args:=#[.tmp 10],argTypes:=#[30] },148,"hash.go:47",#[⟨2,.data⟩,⟨1,.chain⟩],none⟩) (v:=?_) rfl (by kernel_rfl) (by kernel_rfl) (tI (by rfl) (fun W aL K hK=>?hy3)) ?_;case hy3=>(go_simp;go_at_call 167;(with_reducible refine (iC y W).mono ?_);rintro e w1 ⟨rfl,he1⟩;exact hK.out _ (aL.trans he1)))
 try simp only [aX]
 (refine zzx 4 ?_)
 (refine zzx 5 ?_)
 refine Plan.done (by kernel_rfl) (fun W aL=>?_)
 have HX:=zh (HE.out.trans aL)
 clear aL
 go_wp2_with fail
 go_ret
 exact ⟨rfl,HX.out⟩
theorem aKh (z:Int):beI 1 z=[toB z]:=by
 unfold beI cK cK toB
 simp only [List.nil_append]
 congr 2
 omega
theorem cD (A:Option Addr) (n c:Nat) (l:List UInt8) (z:Int) (w:World) (h:SlB w A n c l) (hn:n≤140737488351232) :
  Calls Tryz.prog 86 #[.slice A n c,.int .i64 z,.int .i64 1] w fun e w'=>∃ A' c',e=.returned (.slice A' (n+1) c')∧OwnB w' w.heap.size 5 A' (n+1) c' (l ++ [toB z])∧Ext w w':=by
 rw [← aKh];exact oO A n c l z 1 (by omega) (by omega) w h hn
end
section
open Go.RowKit
def ofV (v:OpV):OpR:=⟨v.k,v.tO,v.am,v.ul,v.va,v.lk,v.hs,none,v.pre.length,0,v.pre,none,v.prf.length,0,v.prf⟩
theorem aJK {R Q:OpR} (h:R.v=Q.v):dK R=dK Q:=by
 unfold OpR.v at h
 injection h with h1 h2 h3 h4 h5 h6 h7 h8 h9
 unfold dK
 rw [h1,h2,h3,h4,h5,h6,h7,h8,h9]
theorem aIl {L M:List OpR} (h:L.map OpR.v=M.map OpR.v):fE L=fE M:=by
 have e:∀ K:List OpR,fE K=((K.map OpR.v).map ofV).flatMap dK:=fun K=>by
  unfold fE
  induction K with
  | nil=>rfl
  | cons R r ih =>
   rw [List.flatMap_cons,ih]
   simp only [List.map_cons,List.flatMap_cons]
   rw [show dK (ofV R.v)=dK R from aJK rfl]
 rw [e L,e M,h]
end
section
open Go.RowKit
attribute [local go_sem ↓] Go.wp_at_zero Go.wp_at_succ
theorem sA (x:UInt64) (w:World):Calls Tryz.prog 130 #[.agg (nmc x)] w fun e w'=>e=.returned (.int .u64 (un x))∧Ext w w':=by
 have hl:=aG x
 obtain ⟨W0,hW0⟩:∃ W0,w.alloc (.cells (nmc x) 30)=W0:=⟨_,rfl⟩
 have HB:=zh (show Blk W0 w.heap.size 30 (nmc x) from by rw [← hW0];exact Blk.new _ _ _)
 have HE:=zh (show Ext w W0 from by rw [← hW0];exact (Ext.refl w).alloc' _)
 go_enter Tryz.func130,Tryz.ntmps130
 go_wp2_with fail
 clear hW0
 go_loopw [3,4] (fun v i wr=>∃ k:Nat,k≤8∧i=.int .i64 (k:Int)∧v=.int .u64 (bP ((nmb x).take k))∧W0=wr) (fun _ i _=>8 - (intOf i).toNat)
 case atStart=>exact ⟨0,by omega,rfl,rfl,rfl⟩
 case round =>
  obtain ⟨k,hk,rfl,rfl,rfl⟩:=hrel
  by_cases hlt:k < 8
  ·have hix:W0.cell? ⟨w.heap.size,k,none⟩=some (.int .u8 (((nmb x).getD k 0).toNat:Int)):=by
    rw [HB.out.cell k]
    have hl:=aG x
    simp [nmc,bcs,bv,hl,hlt]
   have i1:(k:Int) < 8:=by omega
   have hb:=iY ((nmb x).take k)
   rw [List.length_take,hl,Nat.min_eq_left (by omega)] at hb
   have hb7:bP ((nmb x).take k) < 72057594037927936:=Nat.lt_of_lt_of_le hb (Nat.pow_le_pow_right (n:=256) (j:=7) (by omega) (by omega))
   have hor:=tH _ ((nmb x).getD k 0) hb7
   have HS:=zh (show bP ((nmb x).take (k+1))=bP ((nmb x).take k) * 256+((nmb x).getD k 0).toNat by rw [mL _ _ (by omega),gG])
   clear hb hb7 hl
   generalize bP ((nmb x).take k)=a at *
   generalize (nmb x).getD k 0=c at *
   go_wp2_with fail
   go_roundw
   case rel=>exact ⟨k+1,by omega,by go_num,by rw [HS.out];go_num,by first | rfl | trivial⟩
   case measure=>simp [intOf];omega
  have HS:=zh (show (bP ((nmb x).take k):Int)=un x by rw [List.take_of_length_le (by omega),nM];rfl)
  have i1:¬ (k:Int) < 8:=by omega
  clear hl
  generalize bP ((nmb x).take k)=a at *
  go_wp2_with fail
  go_ret
  exact ⟨by rw [← HS.out];rfl,HE.out⟩
theorem iB (x y:UInt64) (w:World):Calls Tryz.prog 74 #[.agg (nmc x),.agg (nmc y)] w fun e w'=>e=.returned (.bool (decide (un x < un y)))∧Ext w w':=by
 have hE:=((Ext.refl w).alloc' (.cells (nmc x) 30)).alloc' (.cells (nmc y) 30)
 have HB1:=zh ((Blk.new w 30 (nmc x)).alloc (.cells (nmc y) 30))
 have HB2:=zh (show Blk ((w.alloc (.cells (nmc x) 30)).alloc (.cells (nmc y) 30)) (w.heap.size+1) 30 (nmc y) from Blk.newAt _ _ _ _ (by simp))
 have HE:=zh hE
 obtain ⟨W0,hW0⟩:∃ W0,(w.alloc (.cells (nmc x) 30)).alloc (.cells (nmc y) 30)=W0:=⟨_,rfl⟩
 rw [hW0] at HB1 HB2 HE
 have HC:=zh (fun (W:World) (h:Ext W0 W)=>And.intro (eY (HB1.out.ext h)) (eY (HB2.out.ext h)))
 clear hE
 go_enter Tryz.func74,Tryz.ntmps74
 go_wp2_with fail
 refine eE (S:=fun W=>Ext W0 W) (by kernel_rfl) (by kernel_rfl) ((Ext.refl W0).drew') ?_
 (refine zzx 0 ?_ (hy:=by intro W aL;obtain ⟨c1,c2⟩:=HC.out W aL;go_simp <;> with_reducible rfl))
 (refine cE (i:=1) (oi:=⟨some 6,.call { callee:=.value (.func 130),args:=#[.tmp 5],argTypes:=#[30] },148,"ref.go:30",#[⟨0,.data⟩],none⟩) (v:=?_) rfl (by kernel_rfl) (by kernel_rfl) (tI (by rfl) (fun W aL K hK=>?hy1_1)) ?_;case hy1_1=>(go_simp;go_at_call 130;(with_reducible refine (sA x W).mono ?_);rintro e w1 ⟨rfl,he1⟩;exact hK.out _ (aL.trans he1)))
 try simp only [aX]
 (refine zzx 2 ?_ (hy:=by intro W aL;obtain ⟨c1,c2⟩:=HC.out W aL;go_simp <;> with_reducible rfl))
 (refine cE (i:=3) (oi:=⟨some 8,.call { callee:=.value (.func 130),args:=#[.tmp 7],argTypes:=#[30] },148,"ref.go:30",#[⟨2,.data⟩,⟨1,.chain⟩],none⟩) (v:=?_) rfl (by kernel_rfl) (by kernel_rfl) (tI (by rfl) (fun W aL K hK=>?hy1_3)) ?_;case hy1_3=>(go_simp;go_at_call 130;(with_reducible refine (sA y W).mono ?_);rintro e w1 ⟨rfl,he1⟩;exact hK.out _ (aL.trans he1)))
 try simp only [aX]
 (refine zzx 4 ?_)
 (refine zzx 5 ?_)
 refine Plan.done (by kernel_rfl) (fun W aL=>?_)
 have HX:=zh (HE.out.trans aL)
 clear aL
 go_wp2_with fail
 go_ret
 exact ⟨rfl,HX.out⟩
end
section
open Go.RowKit
def wr (z:Int):Int:=IntKind.i64.wrap z
theorem aBk (z:Int):wr z=(z+9223372036854775808) % 18446744073709551616 - 9223372036854775808:=by
 unfold wr;rw [IntKind.wrap_i64]
def jS (z:Int):Prop:=-9223372036854775808≤z∧z≤9223372036854775807
theorem aBj (z:Int):jS (wr z):=by rw [aBk];unfold jS;omega
theorem fR {z:Int} (h:jS z):wr z=z:=by rw [aBk];unfold jS at h;omega
theorem aIH (x y:Int):wr (x+wr y)=wr (x+y):=by rw [aBk,aBk,aBk];omega
structure CeR where
 k:Int
 id:Int
 lk:UInt64
deriving DecidableEq
structure DeR where
 c:CeR
 a:Int
deriving DecidableEq
structure LkR where
 nm:UInt64
 hs:UInt64
 ow:Int
 tO:Int
 ul:Int
deriving DecidableEq
structure StV where
 C:List DeR
 Q:List Int
 K:List LkR
 P:List UInt64
 G:Int
deriving DecidableEq
def wP (c:CeR):List Int:=[c.k,c.id,un c.lk]
def eJ (a b:CeR):Bool:=eX (wP a) (wP b)
theorem aGz {a b:CeR} (h:wP a=wP b):a=b:=by
 obtain ⟨k,i,l⟩:=a
 obtain ⟨k',i',l'⟩:=b
 simp only [wP,List.cons.injEq,and_true] at h
 obtain ⟨h1,h2,h3⟩:=h
 rw [h1,h2,zR h3]
theorem fV:STO eJ:=⟨fun x=>aCu _,fun x y z=>vR _ _ _,fun x y h1 h2=>aGz (vS _ _ rfl h1 h2)⟩
section
variable {α:Type}
def eS (p:α→Bool) (x:α):List α→List α
 | []=>[x]
 | y :: r=>if p y=true then x :: y :: r else y :: eS p x r
theorem jA (p:α→Bool) (x:α):∀ (L:List α) (k:Nat),k≤L.length→(∀ j (h:j < k) (hl:j < L.length),p L[j]=false)→(∀ (h:k < L.length),p L[k]=true)→eS p x L=L.take k ++ x :: L.drop k
 | [],0,_,_,_=>rfl
 | y :: r,0,_,_,h2=>by
  have:=h2 (by simp)
  simp only [List.getElem_cons_zero] at this
  unfold eS;rw [if_pos this];rfl
 | y :: r,k+1,hk,h1,h2=>by
  have h0:=h1 0 (by omega) (by simp)
  simp only [List.getElem_cons_zero] at h0
  have ih:=jA p x r k (by simpa using hk) (fun j hj hl=>h1 (j+1) (by omega) (by simpa using hl)) (fun h=>h2 (by simpa using h))
  unfold eS;rw [if_neg (by rw [h0];decide),ih];rfl
theorem mV (p:α→Bool) (x y:α):∀ (L:List α),y ∈ eS p x L ↔ y=x ∨ y ∈ L
 | []=>by simp [eS]
 | z :: r=>by
  unfold eS
  split
  ·simp
  rw [List.mem_cons,mV p x y r,List.mem_cons]
  constructor
  ·rintro (h | h | h)
   ·exact .inr (.inl h)
   ·exact .inl h
   exact .inr (.inr h)
  rintro (h | h | h)
  ·exact .inr (.inl h)
  ·exact .inl h
  exact .inr (.inr h)
end
def fdC (C:List DeR) (c:CeR):Option DeR:=C.find? (fun d=>decide (d.c=c))
def amt:Option DeR→Int
 | none=>0
 | some d=>d.a
def getC (C:List DeR) (c:CeR):Int:=amt (fdC C c)
def lG (c:CeR) (n:Int):List DeR→List DeR
 | []=>[]
 | d :: r=>if d.c=c then (if n=0 then r else ⟨d.c,n⟩ :: r) else d :: lG c n r
def dM (C:List DeR) (c:CeR) (a:Int):List DeR:=match fdC C c with
 | none=>if wr a=0 then C else eS (fun y=>eJ c y.c) ⟨c,wr a⟩ C
 | some d=>lG c (wr (d.a+a)) C
def addL (C:List DeR) (l:List DeR):List DeR:=l.foldl (fun C d=>dM C d.c d.a) C
def aIQ (C:List DeR):Int:=(C.map DeR.a).sum
def fdK (K:List LkR) (n:UInt64):Option LkR:=K.find? (fun l=>decide (l.nm=n))
def lZ (K:List LkR) (l:LkR):List LkR:=match fdK K l.nm with
 | none=>eS (fun y=>decide (un l.nm < un y.nm)) l K
 | some _=>K
def gF (n:UInt64):List LkR→List LkR
 | []=>[]
 | l :: r=>if l.nm=n then r else l :: gF n r
def eR (P:List UInt64) (n:UInt64):List UInt64:=if n ∈ P then P else eS (fun y=>decide (un n < un y)) n P
def aY (i:Int):CeR:=⟨1,i,0⟩
def dQ (n:UInt64):CeR:=⟨2,0,n⟩
def cN (i:Int):CeR:=⟨3,i,0⟩
def bW:CeR:=⟨4,0,0⟩
def dF (x y:CeR) (n:Int):List DeR:=[⟨x,wr (-n)⟩,⟨y,n⟩]
end
end Go.Proofs.YtohmmcahpakokaaGreat
