import Derived.Test.YtgmnmjeccfnmbaaGreatED
import Derived.WalkKit
import Derived.WalkSpells
import Derived.WalkLawsBesides
import Derived.Lib.Hide
import Derived.Deep.QuietTactic
import Derived.BigQuiet
import Derived.RegionTactic
import Derived.StillTailTactics
import Derived.Deep.RegionHeld3
import Derived.Deep.DrawnRows
import Derived.Deep.MidRow
import Derived.Laws.BitsAllLaws
import Derived.Test.YtgmnmjeccfnmbaaGreatRows
import Derived.Laws.CopyOwn
import Derived.Deep.AppendLies
import Derived.Maps.AppendAt
set_option maxRecDepth 100000
set_option maxHeartbeats 8000000
set_option linter.unusedVariables false
set_option linter.unusedSimpArgs false
namespace Go.Proofs.YtgmnmjeccfnmbaaGreat
section
open Go.RowKit
theorem zh {p:Prop} (h:p):Hid p:=Lib.hid h
def un (x:UInt64):Int:=(x.toNat:Int)
theorem gD (x:UInt64):0≤un x:=Int.natCast_nonneg _
theorem aLo (x:UInt64):un x < 18446744073709551616:=by unfold un;have:=x.toNat_lt;omega
theorem aEt {x y:UInt64} (h:un x=un y):x=y:=by unfold un at h;exact UInt64.toNat_inj.1 (by omega)
def nZ (x y:UInt64):UInt64:=x+y
def fD (x y:UInt64):UInt64:=x ^^^ y
def aKm (x y:UInt64):UInt64:=x * y
def aKb (x a b:UInt64):UInt64:=(x * a) ||| (x / b)
theorem aIe (x y:UInt64):IntKind.u64.wrap (un x+un y)=un (nZ x y):=by
 unfold un nZ;rw [IntKind.wrap_u64,UInt64.toNat_add];omega
theorem oF (x y:UInt64):bits .xor .u64 (un x) (un y)=un (fD x y):=by
 unfold un fD;rw [u64_xor_nat _ _ x.toNat_lt y.toNat_lt,UInt64.toNat_xor]
theorem aId (x a:UInt64):IntKind.u64.wrap (un x * (a.toNat:Int))=un (aKm x a):=by
 unfold un aKm;rw [IntKind.wrap_u64,UInt64.toNat_mul];omega
theorem aIb (x a b:UInt64):bits .or .u64 (IntKind.u64.wrap (un x * (a.toNat:Int))) (un x / (b.toNat:Int))=un (aKb x a b):=by
 rw [aId];unfold un aKb aKm
 have e:(x.toNat:Int) / (b.toNat:Int)=((x / b).toNat:Int):=by rw [UInt64.toNat_div];omega
 rw [e,u64_or_nat _ _ (UInt64.toNat_lt _) (UInt64.toNat_lt _),UInt64.toNat_or]
def rR (x:UInt64):UInt64:=aKb x 8192 2251799813685248
def rQ (x:UInt64):UInt64:=aKb x 4294967296 4294967296
def aIV (x:UInt64):UInt64:=aKm x 11400714819323198485
theorem aCz (x:UInt64):bits .or .u64 (IntKind.u64.wrap (un x * 8192)) (un x / 2251799813685248)=un (rR x):=aIb x 8192 2251799813685248
theorem aCy (x:UInt64):bits .or .u64 (IntKind.u64.wrap (un x * 4294967296)) (un x / 4294967296)=un (rQ x):=aIb x 4294967296 4294967296
theorem aFM (x:UInt64):IntKind.u64.wrap (un x * 11400714819323198485)=un (aIV x):=aId x 11400714819323198485
def aHl (x y:UInt64):UInt64:=aIV (rQ (nZ x y))
def aHk (x y:UInt64):UInt64:=fD (rR y) (nZ x y)
def dJ:Nat→UInt64→UInt64→UInt64 × UInt64
 | 0,x,y=>(x,y)
 | n+1,x,y=>(aHl (dJ n x y).1 (dJ n x y).2,aHk (dJ n x y).1 (dJ n x y).2)
def Blk (w:World) (g:Nat) (t:TypeId) (cs:Array Value):Prop:=w.heap[g]?=some (.cells cs t (0,0))
section
variable {w w':World} {g:Nat} {t:TypeId} {cs:Array Value}
theorem Blk.lt (h:Blk w g t cs):g < w.heap.size:=(Array.getElem?_eq_some_iff.1 h).1
theorem Blk.cell (h:Blk w g t cs) (i:Nat):w.cell? ⟨g,i,none⟩=cs[i]?:=cell_of_row w g i cs t (0,0) h
theorem Blk.frozen (h:Blk w g t cs) (i:Nat):w.frozen? ⟨g,i,none⟩=false:=frozen_of_row w g i cs t h
theorem Blk.drew (h:Blk w g t cs):Blk w.drew g t cs:=h
theorem Blk.alloc (h:Blk w g t cs) (o:Obj):Blk (w.alloc o) g t cs:=(Below.heap_alloc w o g h.lt).trans h
theorem Blk.new (w:World) (t:TypeId) (cs:Array Value):Blk (w.alloc (.cells cs t)) w.heap.size t cs:=heap_alloc_new w _
theorem Blk.newAt (w:World) (t:TypeId) (cs:Array Value) (g:Nat) (hg:w.heap.size=g):Blk (w.alloc (.cells cs t)) g t cs:=by subst hg;exact heap_alloc_new w _
theorem Blk.set (h:Blk w g t cs) (i:Nat) (u:Value):Blk (w.setCell ⟨g,i,none⟩ u) g t (cs.setIfInBounds i u):=by
 unfold Blk at h ⊢
 simp [World.setCell,Array.getElem?_modify,h]
theorem Blk.far (h:Blk w g t cs) {p:Addr} (hp:g ≠ p.block) (u:Value):Blk (w.setCell p u) g t cs:=(Below.heap_setCell w p u g hp).trans h
theorem Blk.below {B:Nat} (h:Blk w g t cs) (hb:Below B w w') (hg:g < B):Blk w' g t cs:=(hb.block g hg).trans h
theorem Blk.ext (h:Blk w g t cs) (hb:Below w.heap.size w w'):Blk w' g t cs:=h.below hb h.lt
theorem Blk.grown {row:Option Nat} (h:Blk w g t cs) (hb:w.grownBy w' row) (hg:some g ≠ row):Blk w' g t cs:=(hb.block g h.lt hg).trans h
end
structure Only (g:Nat) (w w':World):Prop where
 os:w'.os=w.os
 tape:w'.tape=w.tape
 output:w'.output=w.output
 size:w'.heap.size=w.heap.size
 block:∀ k,k ≠ g→w'.heap[k]?=w.heap[k]?
section
variable {w w1 w2:World} {g:Nat}
theorem Only.refl (g:Nat) (w:World):Only g w w:=⟨rfl,rfl,rfl,rfl,fun _ _=>rfl⟩
theorem Only.trans (h:Only g w w1) (k:Only g w1 w2):Only g w w2 :=
 ⟨k.os.trans h.os,k.tape.trans h.tape,k.output.trans h.output,k.size.trans h.size,fun i hi=>(k.block i hi).trans (h.block i hi)⟩
theorem Only.drew (h:Only g w w1):Only g w w1.drew:=⟨h.os,h.tape,h.output,h.size,h.block⟩
theorem Only.set (h:Only g w w1) (i:Nat) (u:Value):Only g w (w1.setCell ⟨g,i,none⟩ u) :=
 h.trans ⟨rfl,rfl,rfl,by simp [World.setCell],fun k hk=>Below.heap_setCell _ _ _ _ hk⟩
theorem Only.below (h:Only g w w1) {B:Nat} (hB:B≤g):Below B w w1:=⟨h.os,h.tape,h.output,by rw [h.size];exact Nat.le_refl _,fun k hk=>h.block k (by omega)⟩
end
def bT:List UInt8→Nat
 | []=>0
 | c :: r=>c.toNat * 256 ^ r.length+bT r
theorem sT (a b:List UInt8):bT (a ++ b)=bT a * 256 ^ b.length+bT b:=by
 induction a with
 | nil=>simp [bT]
 | cons c r ih=>simp [bT,ih,Nat.pow_add,Nat.add_mul,Nat.mul_assoc,Nat.add_assoc]
theorem gB (a:List UInt8) (c:UInt8):bT (a ++ [c])=bT a * 256+c.toNat:=by
 rw [sT];simp [bT]
theorem kF (l:List UInt8):bT l < 256 ^ l.length:=by
 induction l with
 | nil=>simp [bT]
 | cons c r ih =>
  have hc:c.toNat < 256:=c.toNat_lt
  simp only [bT,List.length_cons,Nat.pow_succ]
  have:c.toNat * 256 ^ r.length+256 ^ r.length≤256 ^ r.length * 256:=by
   have:=Nat.mul_le_mul_right (256 ^ r.length) (Nat.succ_le_of_lt hc)
   rw [Nat.succ_mul] at this;rw [Nat.mul_comm (256 ^ r.length) 256];exact this
  omega
theorem aEe (n:Nat):bT (List.replicate n 0)=0:=by
 induction n with
 | zero=>rfl
 | succ n ih=>simp [List.replicate_succ,bT,ih]
def cU:Nat→Nat→List UInt8
 | 0,_=>[]
 | k+1,n=>cU k (n / 256) ++ [UInt8.ofNat (n % 256)]
theorem dE (k n:Nat):(cU k n).length=k:=by
 induction k generalizing n with
 | zero=>rfl
 | succ k ih=>simp [cU,ih]
theorem pZ (k n:Nat):bT (cU k n)=n % 256 ^ k:=by
 induction k generalizing n with
 | zero=>simp [cU,bT,Nat.mod_one]
 | succ k ih =>
  rw [cU,gB,ih]
  have h1:(UInt8.ofNat (n % 256)).toNat=n % 256:=dr
  have h2:(n / 256) % 256 ^ k * 256+n % 256=n % 256 ^ (k+1):=by
   rw [Nat.pow_succ,Nat.mul_comm (256 ^ k) 256,Nat.mod_mul];omega
  rw [h1,h2]
theorem aAm (l:List UInt8):cU l.length (bT l)=l:=by
 generalize hn:l.length=n
 induction n generalizing l with
 | zero=>rw [List.eq_nil_of_length_eq_zero hn];rfl
 | succ n ih =>
  rcases List.eq_nil_or_concat l with rfl | ⟨a,c,rfl⟩
  ·simp at hn
  simp only [List.concat_eq_append] at *
  have hl:a.length=n:=by simpa using hn
  have hc:c.toNat < 256:=c.toNat_lt
  rw [gB,cU]
  have h1:(bT a * 256+c.toNat) / 256=bT a:=aa
  have h2:(bT a * 256+c.toNat) % 256=c.toNat:=aa
  rw [h1,h2,ih a hl];simp
@[go_sem] theorem aJM (c:UInt8):IntKind.u64.wrap (c.toNat:Int)=(c.toNat:Int):=by
 have:=c.toNat_lt;rw [IntKind.wrap_u64];omega
@[go_sem] theorem aJN (c:UInt8):IntKind.i64.wrap (c.toNat:Int)=(c.toNat:Int):=by
 have:=c.toNat_lt;rw [IntKind.wrap_i64];omega
theorem xE (a b k:Nat) (hb:b < 2 ^ k):a * 2 ^ k ||| b=a * 2 ^ k+b:=by
 rw [Nat.mul_comm,Nat.two_pow_add_eq_or_of_lt hb]
def nmb (n:UInt64):List UInt8:=cU 8 n.toNat
theorem aK (n:UInt64):(nmb n).length=8:=dE _ _
theorem mU (n:UInt64):bT (nmb n)=n.toNat:=by
 unfold nmb;rw [pZ];exact Nat.mod_eq_of_lt n.toNat_lt
def qN (l:List UInt8):UInt64:=UInt64.ofNat (bT l)
theorem xH (n:UInt64):qN (nmb n)=n:=by unfold qN;rw [mU];simp
theorem lG (l:List UInt8) (h:l.length=8):nmb (qN l)=l:=by
 unfold nmb qN
 have hlt:=kF l
 rw [h] at hlt
 rw [UInt64.toNat_ofNat_of_lt' (by simpa [UInt64.size] using hlt),← h,aAm]
theorem aKk {a b:UInt64} (h:nmb a=nmb b):a=b:=by rw [← xH a,h,xH]
def bv (c:UInt8):Value:=.int .u8 (c.toNat:Int)
def bcs (l:List UInt8):List Value:=l.map bv
theorem aT (l:List UInt8):(bcs l).length=l.length:=by simp [bcs]
theorem fK (a b:List UInt8):bcs (a ++ b)=bcs a ++ bcs b:=by simp [bcs]
theorem dU (l:List UInt8):∀ u ∈ bcs l,u.oneCell'=true:=by
 intro u hu;simp only [bcs,List.mem_map] at hu;obtain ⟨c,_,rfl⟩:=hu;rfl
def nmc (n:UInt64):Array Value:=(bcs (nmb n)).toArray
theorem dD (n:UInt64):(nmc n).size=8:=by simp [nmc,aT,aK]
theorem bW (n:UInt64):(nmc n).toList=bcs (nmb n):=by simp [nmc]
theorem iS (n:UInt64):(nmc n).all (·.oneCell')=true:=all_oneCell_toArray (dU _)
theorem aIS (n:UInt64):nmc n=#[.int .u8 (un n / 72057594037927936 % 256),.int .u8 (un n / 281474976710656 % 256),.int .u8 (un n / 1099511627776 % 256),.int .u8 (un n / 4294967296 % 256),.int .u8 (un n / 16777216 % 256),.int .u8 (un n / 65536 % 256),.int .u8 (un n / 256 % 256),.int .u8 (un n % 256)]:=by
 have key:∀ m:Nat,((m % 256:Nat):Int)=(m:Int) % 256:=fun m=>aa
 simp only [nmc,nmb,cU,bcs,List.nil_append,List.cons_append,List.map_cons,List.map_nil,bv,un,UInt8.toNat_ofNat',Nat.reducePow,Nat.mod_mod,key,Nat.div_div_eq_div_mul,Nat.reduceMul]
 simp only [Int.natCast_ediv]
 rfl
theorem aMf (l:List UInt8) (h:l.length=8):(bcs l).toArray=nmc (qN l):=by unfold nmc;rw [lG l h]
def uG (l:List UInt8):Nat:=bT ((l ++ List.replicate 8 0).take 8)
theorem aHT (l:List UInt8):uG l < 18446744073709551616:=by
 have:=kF ((l ++ List.replicate 8 0).take 8)
 have h:((l ++ List.replicate 8 0).take 8).length=8:=dr
 rw [h] at this;exact this
def fT (l:List UInt8):UInt64:=UInt64.ofNat (uG l)
theorem aCx (l:List UInt8):un (fT l)=uG l:=by
 unfold un fT;rw [UInt64.toNat_ofNat_of_lt' (by simpa [UInt64.size] using aHT l)]
theorem aCm (l:List UInt8) (h:l.length≤8):uG l=bT l * 256 ^ (8 - l.length):=by
 unfold uG
 rw [List.take_append,List.take_of_length_le h,List.take_replicate,sT,aEe]
 simp
theorem aEn (l:List UInt8) (h:8≤l.length):uG l=bT (l.take 8):=by
 unfold uG;rw [List.take_append_of_le_length h]
theorem uR (a k:Nat) (c:UInt8) (hk:k≤56) (ha:a * 2 ^ (k+8)+c.toNat * 2 ^ k < 18446744073709551616) :
  bits .or .u64 ((a * 2 ^ (k+8):Nat):Int) (IntKind.u64.wrap ((c.toNat:Int) * ((2 ^ k:Nat):Int)))=((a * 2 ^ (k+8)+c.toNat * 2 ^ k:Nat):Int):=by
 have hc:c.toNat < 256:=c.toNat_lt
 have e:IntKind.u64.wrap ((c.toNat:Int) * ((2 ^ k:Nat):Int))=((c.toNat * 2 ^ k:Nat):Int):=by
  rw [IntKind.wrap_u64,← Int.natCast_mul];omega
 have hlt:c.toNat * 2 ^ k < 2 ^ (k+8):=by
  rw [Nat.pow_add,Nat.mul_comm (2 ^ k)];exact Nat.mul_lt_mul_of_pos_right hc (Nat.two_pow_pos k)
 rw [e,u64_or_nat _ _ aa aa,xE _ _ _ hlt]
theorem fX (a c m:Nat):a * 2 ^ (m+8)+c * 2 ^ m=(a * 256+c) * 2 ^ m:=by
 rw [Nat.pow_add,Nat.add_mul,Nat.mul_assoc,Nat.mul_comm (2 ^ m) (2 ^ 8)]
def aHV (c0 c1 c2 c3 c4 c5 c6 c7:UInt8):Int :=
 bits .or .u64 (bits .or .u64 (bits .or .u64 (bits .or .u64 (bits .or .u64 (bits .or .u64 (bits .or .u64
  (IntKind.u64.wrap ((c0.toNat:Int) * 72057594037927936)) (IntKind.u64.wrap ((c1.toNat:Int) * 281474976710656)))
  (IntKind.u64.wrap ((c2.toNat:Int) * 1099511627776))) (IntKind.u64.wrap ((c3.toNat:Int) * 4294967296)))
  (IntKind.u64.wrap ((c4.toNat:Int) * 16777216))) (IntKind.u64.wrap ((c5.toNat:Int) * 65536)))
  (IntKind.u64.wrap ((c6.toNat:Int) * 256))) (c7.toNat:Int)
theorem aHU (c0 c1 c2 c3 c4 c5 c6 c7:UInt8):aHV c0 c1 c2 c3 c4 c5 c6 c7=(bT [c0,c1,c2,c3,c4,c5,c6,c7]:Int):=by
 have h0:=c0.toNat_lt;have h1:=c1.toNat_lt;have h2:=c2.toNat_lt;have h3:=c3.toNat_lt
 have h4:=c4.toNat_lt;have h5:=c5.toNat_lt;have h6:=c6.toNat_lt;have h7:=c7.toNat_lt
 have e0:IntKind.u64.wrap ((c0.toNat:Int) * 72057594037927936)=((c0.toNat * 2 ^ (48+8):Nat):Int):=nD
 have e1:=uR c0.toNat 48 c1 aa aa
 have e2:=uR (c0.toNat * 256+c1.toNat) 40 c2 aa aa
 have e3:=uR ((c0.toNat * 256+c1.toNat) * 256+c2.toNat) 32 c3 aa aa
 have e4:=uR (((c0.toNat * 256+c1.toNat) * 256+c2.toNat) * 256+c3.toNat) 24 c4 aa aa
 have e5:=uR ((((c0.toNat * 256+c1.toNat) * 256+c2.toNat) * 256+c3.toNat) * 256+c4.toNat) 16 c5 aa aa
 have e6:=uR (((((c0.toNat * 256+c1.toNat) * 256+c2.toNat) * 256+c3.toNat) * 256+c4.toNat) * 256+c5.toNat) 8 c6 aa aa
 have e7:=uR ((((((c0.toNat * 256+c1.toNat) * 256+c2.toNat) * 256+c3.toNat) * 256+c4.toNat) * 256+c5.toNat) * 256+c6.toNat) 0 c7 aa aa
 have w7:IntKind.u64.wrap ((c7.toNat:Int) * ((2 ^ 0:Nat):Int))=(c7.toNat:Int):=nD
 rw [w7] at e7
 have s1:=fX c0.toNat c1.toNat 48
 have s2:=fX (c0.toNat * 256+c1.toNat) c2.toNat 40
 have s3:=fX ((c0.toNat * 256+c1.toNat) * 256+c2.toNat) c3.toNat 32
 have s4:=fX (((c0.toNat * 256+c1.toNat) * 256+c2.toNat) * 256+c3.toNat) c4.toNat 24
 have s5:=fX ((((c0.toNat * 256+c1.toNat) * 256+c2.toNat) * 256+c3.toNat) * 256+c4.toNat) c5.toNat 16
 have s6:=fX (((((c0.toNat * 256+c1.toNat) * 256+c2.toNat) * 256+c3.toNat) * 256+c4.toNat) * 256+c5.toNat) c6.toNat 8
 rw [s1] at e1;rw [s2] at e2;rw [s3] at e3;rw [s4] at e4;rw [s5] at e5;rw [s6] at e6
 unfold aHV
 rw [e0]
 refine Eq.trans (congrArg (fun z=>bits .or .u64 (bits .or .u64 (bits .or .u64 (bits .or .u64 (bits .or .u64 (bits .or .u64 z _) _) _) _) _) _) e1) ?_
 refine Eq.trans (congrArg (fun z=>bits .or .u64 (bits .or .u64 (bits .or .u64 (bits .or .u64 (bits .or .u64 z _) _) _) _) _) e2) ?_
 refine Eq.trans (congrArg (fun z=>bits .or .u64 (bits .or .u64 (bits .or .u64 (bits .or .u64 z _) _) _) _) e3) ?_
 refine Eq.trans (congrArg (fun z=>bits .or .u64 (bits .or .u64 (bits .or .u64 z _) _) _) e4) ?_
 refine Eq.trans (congrArg (fun z=>bits .or .u64 (bits .or .u64 z _) _) e5) ?_
 refine Eq.trans (congrArg (fun z=>bits .or .u64 z _) e6) ?_
 refine e7.trans ?_
 simp only [bT,List.length_cons,List.length_nil]
 omega
abbrev Ext (w w':World):Prop:=Below w.heap.size w w'
theorem Ext.refl (w:World):Ext w w:=Below.refl _ _
theorem Ext.trans {a b c:World} (h:Ext a b) (k:Ext b c):Ext a c:=Below.trans h (k.mono h.size)
theorem Ext.drew' {a b:World} (h:Ext a b):Ext a b.drew:=Below.drew h
theorem Ext.alloc' {a b:World} (h:Ext a b) (o:Obj):Ext a (b.alloc o):=Below.alloc h h.size o
def Rd (w:World) (A:Option Addr) (xs:List Value):Prop:=xs=[] ∨ ∃ b o,A=some ⟨b,o,none⟩∧w.rangeAt b o xs
section
variable {w w':World} {A:Option Addr} {xs:List Value}
theorem jL {b o:Nat} (h:w.rangeAt b o xs) (hx:xs ≠ []):b < w.heap.size:=by
 cases xs with
 | nil=>exact absurd rfl hx
 | cons v r=>exact block_lt_of_cell (h 0 v rfl)
theorem aY {b o:Nat} (h:w.rangeAt b o xs) (hk:w'.heap[b]?=w.heap[b]?):w'.rangeAt b o xs:=fun j v hv=>(World.cell?_of_block (a:=⟨b,o+j,none⟩) hk).trans (h j v hv)
theorem Rd.nil:Rd w A []:=.inl rfl
theorem Rd.ext (h:Rd w A xs) (e:Ext w w'):Rd w' A xs:=by
 by_cases hx:xs=[]
 ·exact .inl hx
 rcases h with h | ⟨b,o,rfl,h⟩
 ·exact absurd h hx
 exact .inr ⟨b,o,rfl,aY h (e.block b (jL h hx))⟩
theorem Rd.at (h:Rd w A xs) (hx:xs ≠ []):∃ b o,A=some ⟨b,o,none⟩∧w.rangeAt b o xs∧b < w.heap.size:=by
 rcases h with h | ⟨b,o,rfl,h⟩
 ·exact absurd h hx
 exact ⟨b,o,rfl,h,jL h hx⟩
theorem bG {b o k:Nat} (h:w.rangeAt b o xs):w.rangeAt b (o+k) (xs.drop k):=fun j v hv=>by
 have:=h (k+j) v (by rw [← hv,List.getElem?_drop])
 rwa [← Nat.add_assoc] at this
theorem aQ {b o k:Nat} (h:w.rangeAt b o xs):w.rangeAt b o (xs.take k):=fun j v hv=>by
 rw [List.getElem?_take] at hv;split at hv
 ·exact h j v hv
 cases hv
theorem lA {b o:Nat} {ys:List Value} (h:w.rangeAt b o xs) (k:w.rangeAt b (o+xs.length) ys):w.rangeAt b o (xs ++ ys):=fun j v hv=>by
 by_cases hj:j < xs.length
 ·exact h j v (by rwa [List.getElem?_append_left hj] at hv)
 rw [List.getElem?_append_right (by omega)] at hv
 have:=k (j - xs.length) v hv
 rwa [show o+xs.length+(j - xs.length)=o+j from by omega] at this
theorem Rd.cut (h:Rd w A xs) {n k c size:Nat} (hl:xs.length=n * size) (hk:k≤n) (hc:n≤c) :
  Rd w (if c=k then A else A.map (·.add (k * size))) (xs.drop (k * size)):=by
 by_cases hx:xs.drop (k * size)=[]
 ·exact .inl hx
 have hkn:k < n:=by
  rcases Nat.lt_or_ge k n with h' | h'
  ·exact h'
  exact absurd (List.drop_eq_nil_of_le (by rw [hl];exact Nat.mul_le_mul_right _ h')) hx
 rw [if_neg aa]
 obtain ⟨b,o,rfl,h,_⟩:=h.at (fun e=>by rw [e] at hx;simp at hx)
 exact .inr ⟨b,o+k * size,by simp [Addr.add_mid],bG h⟩
theorem Rd.take (h:Rd w A xs) (k:Nat):Rd w A (xs.take k):=by
 rcases h with rfl | ⟨b,o,rfl,h⟩
 ·exact .inl dr
 exact .inr ⟨b,o,rfl,aQ h⟩
theorem aC {g:Nat} {t:TypeId} {cs:Array Value} (h:Blk w g t cs):w.rangeAt g 0 cs.toList:=fun j v hv=>by
 rw [Nat.zero_add,h.cell j];simpa using hv
theorem Rd.of_blk {g:Nat} {t:TypeId} {cs:Array Value} (h:Blk w g t cs):Rd w (some ⟨g,0,none⟩) cs.toList:=.inr ⟨g,0,rfl,aC h⟩
theorem Rd.of_own {base n c:Nat} {e:TypeId} {size:Nat} (h:w.ownsRow base e size (.slice A n c) n xs):Rd w A xs:=by
 by_cases hx:xs=[]
 ·exact .inl hx
 rcases h.2 with ⟨hv,hn⟩ | ⟨g,cap,cur,hv,_,hh,_⟩
 ·exact absurd (List.eq_nil_of_length_eq_zero (by rw [h.1,hn];simp)) hx
 injection hv with hA;subst hA
 refine .inr ⟨g,0,rfl,fun j v hv=>?_⟩
 have:=h.cells (g:=g) rfl j v hv
 rwa [Addr.add_mid] at this
end
theorem Rd.src {w:World} {A:Option Addr} {xs:List Value} (h:Rd w A xs) (hp:0 < xs.length):∃ ad,A=some ad∧∀ j v,xs[j]?=some v→w.cell? (ad.add j)=some v:=by
 obtain ⟨b,o,rfl,h,_⟩:=h.at (fun e=>by rw [e] at hp;simp at hp)
 exact ⟨_,rfl,fun j v hv=>by rw [Addr.add_mid];exact h j v hv⟩
theorem aLb (l:List UInt8) (k:Nat) (h:k < l.length):(bcs l)[k]?=some (.int .u8 (l[k].toNat:Int)):=by
 simp [bcs,h,bv]
theorem kP {w:World} {b o:Nat} {l:List UInt8} (h:w.rangeAt b o (bcs l)) (k:Nat) (hk:k < l.length):w.cell? ⟨b,o+k,none⟩=some (.int .u8 (l[k].toNat:Int)):=h k _ (aLb l k hk)
abbrev zcs:List Value:=[.int .u8 0,.int .u8 0,.int .u8 0,.int .u8 0,.int .u8 0,.int .u8 0,.int .u8 0,.int .u8 0]
theorem aLO:zcs=List.replicate 8 (.int .u8 0):=rfl
theorem aI {w:World} {g:Nat} {t:TypeId} {cs:Array Value} (h:Blk w g t cs):w.there g 0 cs.size:=fun j hj=>by
 rw [Nat.zero_add]
 exact ⟨by rw [h.cell j];simp [hj],h.frozen j⟩
theorem eC {w:World} {g:Nat} {t:TypeId} (h:Blk w g t zcs.toArray):w.there g 0 8:=aI h
theorem sS {w:World} {g o:Nat} {t:TypeId} {vs:List Value}:∀ {cs:Array Value},Blk w g t cs→Blk (w.setCells g o vs) g t (vs.zipIdx.foldl (fun a p=>a.setIfInBounds (o+p.2) p.1) cs):=by
 intro cs h
 suffices H:∀ (vs:List Value) (i o:Nat) (w:World) (cs:Array Value),Blk w g t cs→Blk (w.setCells g (o+i) vs) g t ((vs.zipIdx i).foldl (fun a p=>a.setIfInBounds (o+p.2) p.1) cs) from by
  simpa using H vs 0 o w cs h
 intro vs
 induction vs with
 | nil=>intro i o w cs h;simpa [World.setCells] using h
 | cons v r ih =>
  intro i o w cs h
  rw [World.setCells,List.zipIdx_cons,List.foldl_cons]
  have:=ih (i+1) o (w.setCell ⟨g,o+i,none⟩ v) _ (h.set (o+i) v)
  rw [← Nat.add_assoc] at this
  exact this
theorem jS (vs:List Value) (i o:Nat):∀ (cs:Array Value) (j:Nat),((vs.zipIdx i).foldl (fun a p=>a.setIfInBounds (o+p.2) p.1) cs)[j]?=if o+i≤j∧j < o+i+vs.length∧j < cs.size then vs[j - (o+i)]? else cs[j]?:=by
 induction vs generalizing i with
 | nil=>intro cs j;rw [if_neg gj];rfl
 | cons v r ih =>
  intro cs j
  rw [List.zipIdx_cons,List.foldl_cons,ih,Array.size_setIfInBounds]
  simp only [List.length_cons]
  by_cases h1:o+(i+1)≤j∧j < o+(i+1)+r.length∧j < cs.size
  ·rw [if_pos h1,if_pos aa,show j - (o+i)=(j - (o+(i+1)))+1 from aa,List.getElem?_cons_succ]
  rw [if_neg h1,Array.getElem?_setIfInBounds]
  by_cases h2:o+i=j
  ·subst h2
   rw [if_pos rfl]
   by_cases h3:o+i < cs.size
   ·rw [if_pos h3,if_pos aa];simp
   rw [if_neg h3,if_neg aa];simp;omega
  rw [if_neg h2,if_neg aa]
theorem aN {w:World} {g:Nat} {t:TypeId} {cs ds:Array Value} (h:Blk w g t cs) (hs:ds.size=cs.size):Blk (w.setCells g 0 ds.toList) g t ds:=by
 have:=sS (o:=0) (vs:=ds.toList) h
 have e:((ds.toList.zipIdx 0).foldl (fun a p=>a.setIfInBounds (0+p.2) p.1) cs)=ds:=by
  exact xy
 rw [e] at this
 exact this
theorem Below.setCells' {B:Nat} {a w:World} (h:Below B a w) {g:Nat} (hg:B≤g):∀ (vs:List Value) (o:Nat),Below B a (w.setCells g o vs):=by
 intro vs
 induction vs generalizing w with
 | nil=>intro o;exact h
 | cons v r ih=>intro o;exact ih (h.setCell (p:=⟨g,o,none⟩) hg v) (o+1)
theorem wO (w:World) (t:TypeId) (vs:List Value):∀ (o:Nat) (cs:Array Value) ,(w.alloc (.cells cs t)).setCells w.heap.size o vs=w.alloc (.cells ((vs.zipIdx 0).foldl (fun a p=>a.setIfInBounds (o+p.2) p.1) cs) t):=by
 suffices H:∀ (vs:List Value) (i o:Nat) (cs:Array Value),(w.alloc (.cells cs t)).setCells w.heap.size (o+i) vs=w.alloc (.cells ((vs.zipIdx i).foldl (fun a p=>a.setIfInBounds (o+p.2) p.1) cs) t) from fun o cs=>by simpa using H vs 0 o cs
 intro vs
 induction vs with
 | nil=>intro i o cs;rfl
 | cons v r ih =>
  intro i o cs
  rw [World.setCells,World.setCell_alloc_at _ _ _ _ _ rfl,List.zipIdx_cons,List.foldl_cons,← ih (i+1) o]
  rfl
theorem eD (w:World) (t:TypeId) (cs ds:Array Value) (h:ds.size=cs.size):(w.alloc (.cells cs t)).setCells w.heap.size 0 ds.toList=w.alloc (.cells ds t):=by
 rw [wO]
 congr 2
 exact xy
structure SlB (w:World) (A:Option Addr) (n c:Nat) (l:List UInt8):Prop where
 len:l.length=n
 le:n≤c
 cap:c≤9223372036854775807
 rd:Rd w A (bcs l)
section
variable {w w':World} {A:Option Addr} {n c:Nat} {l:List UInt8}
theorem SlB.ext (h:SlB w A n c l) (e:Ext w w'):SlB w' A n c l:=⟨h.len,h.le,h.cap,h.rd.ext e⟩
theorem SlB.nil (w:World):SlB w none 0 0 []:=⟨rfl,Nat.le_refl _,Nat.zero_le _,.nil⟩
theorem SlB.cut (h:SlB w A n c l) {k:Nat} (hk:k≤n) (hkc:k < c):SlB w (A.map (·.add k)) (n - k) (c - k) (l.drop k):=by
 refine ⟨nC,mf,sw,?_⟩
 have:=h.rd.cut (n:=n) (k:=k) (c:=c) (size:=1) (by rw [aT,h.len,Nat.mul_one]) hk h.le
 rw [if_neg aa,Nat.mul_one] at this
 simpa [bcs] using this
theorem SlB.upto (h:SlB w A n c l) {k:Nat} (hk:k≤n):SlB w A k c (l.take k):=by
 refine ⟨mc,mf,h.cap,?_⟩
 have:=h.rd.take k
 simpa [bcs] using this
theorem SlB.at (h:SlB w A n c l) (hn:0 < n):∃ b o,A=some ⟨b,o,none⟩∧w.rangeAt b o (bcs l)∧b < w.heap.size :=
 h.rd.at (by intro e;have:=congrArg List.length e;rw [aT,h.len] at this;simp at this;omega)
theorem SlB.of_own {base:Nat} {e:TypeId} (h:w.ownsRow base e 1 (.slice A n c) n (bcs l)):SlB w A n c l:=by
 have hl:l.length=n:=by have:=h.1;rw [aT,Nat.mul_one] at this;exact this
 refine ⟨hl,?_,?_,Rd.of_own h⟩
 all_goals
  rcases h.2 with ⟨hv,hn⟩ | ⟨g,cap,cur,hv,_,_,hc,hm,_⟩
  ·injection hv;omega
  injection hv with _ _ hc';subst hc';first | exact hc | exact hm
end
end
end Go.Proofs.YtgmnmjeccfnmbaaGreat
