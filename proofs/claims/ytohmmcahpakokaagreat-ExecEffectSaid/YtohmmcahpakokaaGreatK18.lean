/- The state of a ledger and what is done tO it (plain: no program in sight). -/
import Derived.WalkMore
import Derived.Sort.LotA
import Derived.Laws.OwnMore
import Derived.Test.YtohmmcahpakokaaGreatK16
set_option maxRecDepth 100000
set_option maxHeartbeats 8000000
set_option linter.unusedSectionVars false
set_option linter.unusedVariables false
set_option linter.unusedSimpArgs false
namespace Go.Proofs.YtohmmcahpakokaaGreat
open Go.RowKit
def wr (z:Int):Int:=IntKind.i64.wrap z
theorem wr_eq (z:Int):wr z=(z+9223372036854775808) % 18446744073709551616 - 9223372036854775808:=by
 unfold wr;rw [IntKind.wrap_i64]
def in64 (z:Int):Prop:=-9223372036854775808≤z∧z≤9223372036854775807
theorem wr_in (z:Int):in64 (wr z):=by rw [wr_eq];unfold in64;omega
theorem wr_id {z:Int} (h:in64 z):wr z=z:=by rw [wr_eq];unfold in64 at h;omega
theorem wr_add (x y:Int):wr (wr x+y)=wr (x+y):=by rw [wr_eq,wr_eq,wr_eq];omega
theorem wr_add' (x y:Int):wr (x+wr y)=wr (x+y):=by rw [wr_eq,wr_eq,wr_eq];omega
structure CeR where
 k:Int
 id:Int
 lk:UInt64
deriving DecidableEq
structure DeR where
 c:CeR
 a:Int
deriving DecidableEq
structure LkR where
 nm:UInt64
 hs:UInt64
 ow:Int
 tO:Int
 ul:Int
deriving DecidableEq
structure StV where
 C:List DeR
 Q:List Int
 K:List LkR
 P:List UInt64
 G:Int
deriving DecidableEq
def ceKey (c:CeR):List Int:=[c.k,c.id,un c.lk]
def ltCe (a b:CeR):Bool:=lexI (ceKey a) (ceKey b)
theorem ceKey_inj {a b:CeR} (h:ceKey a=ceKey b):a=b:=by
 obtain ⟨k,i,l⟩:=a
 obtain ⟨k',i',l'⟩:=b
 simp only [ceKey,List.cons.injEq,and_true] at h
 obtain ⟨h1,h2,h3⟩:=h
 rw [h1,h2,un_inj h3]
theorem ltCe_sto:STO ltCe:=⟨fun x=>lexI_irrefl _,fun x y z=>lexI_trans _ _ _,fun x y h1 h2=>ceKey_inj (lexI_total _ _ rfl h1 h2)⟩
section
variable {α:Type}
def insB (p:α→Bool) (x:α):List α→List α
 | []=>[x]
 | y :: r=>if p y=true then x :: y :: r else y :: insB p x r
theorem insB_at (p:α→Bool) (x:α):∀ (L:List α) (k:Nat),k≤L.length→(∀ j (h:j < k) (hl:j < L.length),p L[j]=false)→(∀ (h:k < L.length),p L[k]=true)→insB p x L=L.take k ++ x :: L.drop k
 | [],0,_,_,_=>rfl
 | y :: r,0,_,_,h2=>by
  have:=h2 (by simp)
  simp only [List.getElem_cons_zero] at this
  unfold insB;rw [if_pos this];rfl
 | y :: r,k+1,hk,h1,h2=>by
  have h0:=h1 0 (by omega) (by simp)
  simp only [List.getElem_cons_zero] at h0
  have ih:=insB_at p x r k (by simpa using hk) (fun j hj hl=>h1 (j+1) (by omega) (by simpa using hl)) (fun h=>h2 (by simpa using h))
  unfold insB;rw [if_neg (by rw [h0];decide),ih];rfl
theorem mem_insB (p:α→Bool) (x y:α):∀ (L:List α),y ∈ insB p x L ↔ y=x ∨ y ∈ L
 | []=>by simp [insB]
 | z :: r=>by
  unfold insB
  split
  ·simp
  ·rw [List.mem_cons, mem_insB p x y r, List.mem_cons]
   constructor
   ·rintro (h | h | h)
    ·exact .inr (.inl h)
    ·exact .inl h
    ·exact .inr (.inr h)
   ·rintro (h | h | h)
    ·exact .inr (.inl h)
    ·exact .inl h
    ·exact .inr (.inr h)
end
def fdC (C:List DeR) (c:CeR):Option DeR:=C.find? (fun d=>decide (d.c=c))
def amt:Option DeR→Int
 | none=>0
 | some d=>d.a
def getC (C:List DeR) (c:CeR):Int:=amt (fdC C c)
def setC (c:CeR) (n:Int):List DeR→List DeR
 | []=>[]
 | d :: r=>if d.c=c then (if n=0 then r else ⟨d.c,n⟩ :: r) else d :: setC c n r
def addC (C:List DeR) (c:CeR) (a:Int):List DeR:=match fdC C c with
 | none=>if wr a=0 then C else insB (fun y=>ltCe c y.c) ⟨c,wr a⟩ C
 | some d=>setC c (wr (d.a+a)) C
def addL (C:List DeR) (l:List DeR):List DeR:=l.foldl (fun C d=>addC C d.c d.a) C
def sumC (C:List DeR):Int:=(C.map DeR.a).sum
def totC (C:List DeR):Int:=wr (sumC C)
def fdK (K:List LkR) (n:UInt64):Option LkR:=K.find? (fun l=>decide (l.nm=n))
def openK (K:List LkR) (l:LkR):List LkR:=match fdK K l.nm with
 | none=>insB (fun y=>decide (un l.nm < un y.nm)) l K
 | some _=>K
def closeK (n:UInt64):List LkR→List LkR
 | []=>[]
 | l :: r=>if l.nm=n then r else l :: closeK n r
def markP (P:List UInt64) (n:UInt64):List UInt64:=if n ∈ P then P else insB (fun y=>decide (un n < un y)) n P
def balC (i:Int):CeR:=⟨1,i,0⟩
def lckC (n:UInt64):CeR:=⟨2,0,n⟩
def stkC (i:Int):CeR:=⟨3,i,0⟩
def polC:CeR:=⟨4,0,0⟩
def movC (x y:CeR) (n:Int):List DeR:=[⟨x,wr (-n)⟩,⟨y,n⟩]
theorem sum_mov (x y:CeR) (n:Int):wr (sumC (movC x y n))=0:=by
 show wr (wr (-n)+(n+0))=0
 rw [wr_add,wr_eq];omega
def hasM (G:Int) (i:Nat):Bool:=decide (G / 2 ^ i % 2=1)
def addM (G:Int) (i:Nat):Int:=if hasM G i=true then G else G+2 ^ i
end Go.Proofs.YtohmmcahpakokaaGreat
namespace Go.Proofs.YtohmmcahpakokaaGreat
open Go.RowKit
attribute [local go_sem ↓] Go.wp_at_zero Go.wp_at_succ
def seedOne:UInt64:=72057594037927936
theorem seedOne_cells:nmc seedOne=#[.int .u8 1,.int .u8 0,.int .u8 0,.int .u8 0,.int .u8 0,.int .u8 0,.int .u8 0,.int .u8 0]:=by kernel_rfl
end Go.Proofs.YtohmmcahpakokaaGreat
namespace Go.Proofs.YtohmmcahpakokaaGreat
open Go.RowKit
theorem fdC_cons (d:DeR) (C:List DeR) (c:CeR):fdC (d :: C) c=if d.c=c then some d else fdC C c:=by
 unfold fdC;rw [List.find?_cons]
 by_cases h:d.c=c
 ·rw [decide_eq_true h,if_pos h]
 ·rw [decide_eq_false h,if_neg h]
theorem fdC_some {C:List DeR} {c:CeR} {d:DeR} (h:fdC C c=some d):d ∈ C∧d.c=c :=
 ⟨List.mem_of_find?_eq_some h,by have:=List.find?_some h;simpa using this⟩
theorem fdC_none {C:List DeR} {c:CeR}:fdC C c=none ↔ ∀ d,d ∈ C→d.c ≠ c:=by
 unfold fdC;rw [List.find?_eq_none];simp
theorem getC_of {C:List DeR} {c:CeR} {o:Option DeR} (h:fdC C c=o):getC C c=amt o:=by unfold getC;rw [h]
end Go.Proofs.YtohmmcahpakokaaGreat
namespace Go.Proofs.YtohmmcahpakokaaGreat
open Go.RowKit
def OpLens (L:List OpR):Prop:=∀ R,R ∈ L→R.pre.length=R.n1∧R.prf.length=R.n2
def TxLens (T:TxR):Prop:=OpLens T.L∧T.sig.length=T.m
theorem lens_of {T:TxR} {w:World} (h:T.ok w):TxLens T:=⟨fun R hR=>⟨((h.ops.ok R hR).pre).len,((h.ops.ok R hR).prf).len⟩,h.sig.len⟩
theorem opL_cells {w:World} {b o:Nat} {R:OpR} (h:w.rangeAt b o (opL R)):w.cell? ⟨b,o+21,none⟩=some (.slice R.A1 R.n1 R.c1)∧w.cell? ⟨b,o+22,none⟩=some (.slice R.A2 R.n2 R.c2) :=
 ⟨h 21 _ rfl,h 22 _ rfl⟩
def LongOut (w:World) (e:Ending) (w':World):Prop:=(∃ b,e=.returned (.bool b))∧Ext w w'
end Go.Proofs.YtohmmcahpakokaaGreat
namespace Go.Proofs.YtohmmcahpakokaaGreat
open Go.RowKit
attribute [local go_sem ↓] Go.wp_at_zero Go.wp_at_succ
def x5 (v:VtR):List Int:=[v.sl,v.ro,v.k,v.si,v.ch]
end Go.Proofs.YtohmmcahpakokaaGreat
namespace Go.Proofs.YtohmmcahpakokaaGreat
open Go.RowKit
structure St3 where
 C:List DeR
 Q:List Int
 P:List UInt64
def StV.s3 (S:StV):St3:=⟨S.C,S.Q,S.P⟩
def cov1 (C:List DeR) (c:CeR):List DeR :=
 if getC C polC≤0 ∨ 0≤getC C c then C
 else addL C (movC polC c (if - getC C polC < getC C c then - getC C c else getC C polC))
def kindB (c:CeR):Bool:=decide (1≤c.k∧c.k≤3)
def covL (C:List DeR):List CeR:=canonO ltCe ((C.map DeR.c).filter kindB)
def covC (C:List DeR):List DeR:=(covL C).foldl cov1 C
def covS (S:StV):StV:=⟨covC S.C,S.Q,S.K,S.P,S.G⟩
theorem Grown.refl (w:World) (row:Option Nat):w.grownBy w row:=⟨rfl,rfl,rfl,Nat.le_refl _,fun _ _ _=>rfl⟩
theorem Grown.trans {a b c:World} {row:Option Nat} (h:a.grownBy b row) (k:b.grownBy c row):a.grownBy c row :=
 ⟨k.os.trans h.os,k.tape.trans h.tape,k.output.trans h.output,Nat.le_trans h.size k.size,fun i hi hr=>(k.block i (Nat.lt_of_lt_of_le hi h.size) hr).trans (h.block i hi hr)⟩
theorem Ext.grown {a b:World} (h:Ext a b) (row:Option Nat):a.grownBy b row:=⟨h.os,h.tape,h.output,h.size,fun i hi _=>h.block i hi⟩
theorem Grown.none {a b:World} (h:a.grownBy b none):Ext a b:=⟨h.os,h.tape,h.output,h.size,fun k hk=>h.block k hk (by simp)⟩
theorem splice_cons {xs:List Value} {o:Nat} {y:Value} {r:List Value} (h:o < xs.length):splice (xs.set o y) (o+1) r=splice xs o (y :: r):=by
 unfold splice
 rw [List.take_add_one,List.getElem?_set_self h,List.take_set_of_le (Nat.le_refl _)]
 simp [List.drop_set_of_lt,show o < o+1+r.length from by omega,show o+(r.length+1)=o+1+r.length from by omega]
theorem own_splice {base:Nat} {e:TypeId} {size g n c:Nat} (ys:List Value):∀ (o:Nat) (w:World) (xs:List Value),o+ys.length≤xs.length→w.ownsRow base e size (.slice (some ⟨g,0,none⟩) n c) n xs →
  (w.setCells g o ys).ownsRow base e size (.slice (some ⟨g,0,none⟩) n c) n (splice xs o ys)∧w.grownBy (w.setCells g o ys) (some g):=by
 induction ys with
 | nil=>intro o w xs hl h;exact ⟨by simpa [splice,World.setCells] using h,Grown.refl _ _⟩
 | cons y r ih =>
  intro o w xs hl h
  simp only [List.length_cons] at hl
  have hs:=h.stored o y
  obtain ⟨h1,h2⟩:=ih (o+1) _ _ (by rw [List.length_set];omega) hs.1
  rw [splice_cons (by omega)] at h1
  exact ⟨h1,Grown.trans hs.2 h2⟩
theorem own_cut {w:World} {base:Nat} {e:TypeId} {size:Nat} {A:Option Addr} {n c:Nat} {xs:List Value} (h:w.ownsRow base e size (.slice A n c) n xs) {i:Nat} (hi:i≤n) (hA:A ≠ none):w.ownsRow base e size (.slice A i c) i (xs.take (i * size)):=by
 have hle:i * size≤n * size:=Nat.mul_le_mul_right _ hi
 refine ⟨by rw [List.length_take,h.1];omega,?_⟩
 rcases h.2 with ⟨hv,_⟩ | ⟨g,cap,cur,hv,hb,hh,hn,hm,hs,ht⟩
 ·injection hv with hA';exact absurd hA' hA
 ·injection hv with h1 _ h3; subst h1; subst h3
  refine .inr ⟨g,c,cur,rfl,hb,hh,by omega,hm,hs,?_⟩
  rw [← ht,List.take_take,Nat.min_eq_left hle]
theorem own_over {base:Nat} {e:TypeId} {size g n c:Nat} (ys:List Value):∀ (o:Nat) (w:World) (xs:List Value),w.ownsRow base e size (.slice (some ⟨g,0,none⟩) n c) n xs →
  ∃ xs',(w.setCells g o ys).ownsRow base e size (.slice (some ⟨g,0,none⟩) n c) n xs'∧xs'.take o=xs.take o∧w.grownBy (w.setCells g o ys) (some g):=by
 induction ys with
 | nil=>intro o w xs h;exact ⟨xs,h,rfl,Grown.refl _ _⟩
 | cons y r ih =>
  intro o w xs h
  have hs:=h.stored o y
  obtain ⟨xs',h1,h2,h3⟩:=ih (o+1) _ _ hs.1
  refine ⟨xs',h1,?_,Grown.trans hs.2 h3⟩
  have:=congrArg (List.take o) h2
  rw [List.take_take,List.take_take,Nat.min_eq_left (by omega)] at this
  rw [this,List.take_set_of_le (by omega)]
section
variable {α:Type} [RowT α]
instance (priority:=low) rowInh:Inhabited α:=⟨RowT.z⟩
theorem arr_nth (d:Array α) (i:Nat):d[i]! = nthG d.toList i:=by
 show d[i]! = d.toList.getD i RowT.z
 rw [List.getD_eq_getElem?_getD,Array.getElem?_toList]
 by_cases h:i < d.size
 ·rw [getElem!_pos d i h,Array.getElem?_eq_getElem h];rfl
 ·rw [getElem!_neg d i h,Array.getElem?_eq_none (by omega)];rfl
theorem gcs_set (L:List α) (i:Nat) (x:α) (hi:i < L.length):splice (gcs L) (i * RowT.sz α) (RowT.enc x)=gcs (L.set i x):=by
 rw [List.set_eq_take_append_cons_drop,if_pos hi,gcs_append,gcs_cons]
 unfold splice
 rw [gcs_take,RowT.len,← gcs_drop,Nat.add_mul,Nat.one_mul]
class RowB (α:Type) [RowT α] where
 ow:World→Nat→α→Prop
 ok:∀ x w b,ow w b x→RowT.ok x w
 ext:∀ x w w' b,ow w b x→Ext w w'→ow w' b x
 kept:∀ x w w' b b' e sz A n c xs,ow w b x→w.ownsRow b' e sz (.slice A n c) n xs→e ≠ 5→w.grownBy w' (Value.ownBlock (.slice A n c))→ow w' b x
 mono:∀ x w b b',ow w b x→b'≤b→ow w b' x
structure RowS [RowB α] (w0 w:World) (base:Nat) (e:TypeId) (A:Option Addr) (n c:Nat) (d:Array α):Prop where
 own:w.ownsRow base e (RowT.sz α) (.slice A n c) n (gcs d.toList)
 ow:∀ x ∈ d.toList,RowB.ow w base x
 gr:w0.grownBy w (Value.ownBlock (.slice A n c))
 ne:e ≠ 5
variable [RowB α] {w0 w w':World} {base:Nat} {e:TypeId} {A:Option Addr} {n c:Nat} {d:Array α}
theorem RowS.start (h:w.ownsRow base e (RowT.sz α) (.slice A n c) n (gcs d.toList)) (ho:∀ x ∈ d.toList,RowB.ow w base x) (hne:e ≠ 5):RowS w w base e A n c d:=⟨h,ho,Grown.refl _ _,hne⟩
theorem RowS.size (h:RowS w0 w base e A n c d):d.size=n:=by
 have:=h.own.1
 rw [gcs_length] at this
 have hp:=RowT.pos (α:=α)
 have:=Nat.eq_of_mul_eq_mul_right hp this
 simpa using this
theorem RowS.ext (h:RowS w0 w base e A n c d) (he:Ext w w'):RowS w0 w' base e A n c d:=⟨own_ext h.own he,fun x hx=>RowB.ext _ _ _ _ (h.ow x hx) he,Grown.trans h.gr (Ext.grown he _),h.ne⟩
theorem RowS.at (h:RowS w0 w base e A n c d) (hn:0 < n):∃ g,A=some ⟨g,0,none⟩∧base≤g∧w.rangeAt g 0 (gcs d.toList):=own_at h.own hn
theorem RowS.cell (h:RowS w0 w base e A n c d) {g:Nat} (hA:A=some ⟨g,0,none⟩) {i:Nat} (hi:i < n):w.rangeAt g (i * RowT.sz α) (RowT.enc d[i]!):=by
 obtain ⟨g',hA',_,hr⟩:=h.at (by omega)
 obtain rfl:g=g':=by rw [hA] at hA';injection hA' with h1;injection h1
 have:=el_at (L:=d.toList) (k:=i) hr (by have:=h.size;simp;omega)
 rw [Nat.zero_add] at this
 rw [arr_nth]
 exact this
theorem arr_mem {i:Nat} (hi:i < d.size):d[i]! ∈ d.toList:=by
 rw [getElem!_pos d i hi];exact Array.mem_toList_iff.2 (Array.getElem_mem hi)
theorem RowS.owAt (h:RowS w0 w base e A n c d) {i:Nat} (hi:i < n):RowB.ow w base d[i]!:=h.ow _ (arr_mem (by rw [h.size];exact hi))
theorem RowS.ok (h:RowS w0 w base e A n c d) {i:Nat} (hi:i < n):RowT.ok d[i]! w:=RowB.ok _ _ _ (h.owAt hi)
theorem RowS.there (h:RowS w0 w base e A n c d) {g:Nat} (hA:A=some ⟨g,0,none⟩) {i:Nat} (hi:i < n):w.there g (i * RowT.sz α) (RowT.sz α):=by
 have hl:=h.own.1
 have h1:i * RowT.sz α+RowT.sz α≤n * RowT.sz α:=by
  have:=Nat.mul_le_mul_right (RowT.sz α) (show i+1≤n from hi)
  rwa [Nat.add_mul,Nat.one_mul] at this
 have ho:=h.own
 subst hA
 intro j hj
 exact ⟨by rw [ho.cellAt (i * RowT.sz α+j) (by omega),List.getElem?_eq_getElem (by omega)];rfl,ho.frozenAt _⟩
theorem RowS.set (h:RowS w0 w base e A n c d) {g:Nat} (hA:A=some ⟨g,0,none⟩) {i:Nat} (hi:i < n) (x:α) (hx:RowB.ow w base x):RowS w0 (w.setCells g (i * RowT.sz α) (RowT.enc x)) base e A n c (d.setIfInBounds i x):=by
 have hs:=h.size
 have ho:=h.own
 subst hA
 obtain ⟨h1,h2⟩:=own_splice (RowT.enc x) (i * RowT.sz α) w (gcs d.toList) (by
  rw [RowT.len,gcs_length]
  have:=Nat.mul_le_mul_right (RowT.sz α) (show i+1≤d.toList.length from by simp;omega)
  rwa [Nat.add_mul,Nat.one_mul] at this) ho
 rw [gcs_set _ _ _ (by simp;omega)] at h1
 refine ⟨by rw [Array.toList_setIfInBounds];exact h1,fun y hy=>?_,Grown.trans h.gr h2,h.ne⟩
 rw [Array.toList_setIfInBounds] at hy
 rcases List.mem_or_eq_of_mem_set hy with hy | rfl
 ·exact RowB.kept _ _ _ _ _ _ _ _ _ _ _ (h.ow y hy) ho h.ne h2
 ·exact RowB.kept _ _ _ _ _ _ _ _ _ _ _ hx ho h.ne h2
theorem RowS.keep (h:RowS w0 w base e A n c d) {g:Nat} (hA:A=some ⟨g,0,none⟩) (o:Nat) (vs:List Value) {x:α} (hx:RowB.ow w base x):RowB.ow (w.setCells g o vs) base x:=by
 have ho:=h.own
 subst hA
 exact RowB.kept _ _ _ _ _ _ _ _ _ _ _ hx ho h.ne (grown_setCells' _ _ _ _)
theorem RowS.swap (h:RowS w0 w base e A n c d) {g:Nat} (hA:A=some ⟨g,0,none⟩) {i j:Nat} (hi:i < n) (hj:j < n) :
  RowS w0 ((w.setCells g (i * RowT.sz α) (RowT.enc d[j]!)).setCells g (j * RowT.sz α) (RowT.enc d[i]!)) base e A n c (Sort.swp d i j) :=
 (h.set hA hi _ (h.owAt hj)).set hA hj _ (h.keep hA _ _ (h.owAt hi))
theorem RowS.trans {w1:World} (h:RowS w0 w1 base e A n c d) {d':Array α} (k:RowS w1 w base e A n c d'):RowS w0 w base e A n c d':=⟨k.own,k.ow,Grown.trans h.gr k.gr,k.ne⟩
end
end Go.Proofs.YtohmmcahpakokaaGreat
