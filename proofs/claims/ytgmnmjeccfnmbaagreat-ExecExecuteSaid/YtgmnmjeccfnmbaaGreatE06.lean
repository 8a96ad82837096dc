import Derived.Deep.DeepCutAuto
import Derived.Deep.CutBlock
import Derived.Lib.BytesEntry
import Derived.Sort.LotA
import Derived.Laws.OwnMore
import Derived.Test.YtgmnmjeccfnmbaaGreatE05
set_option maxRecDepth 100000
set_option maxHeartbeats 8000000
set_option linter.unusedSectionVars false
set_option linter.unusedVariables false
set_option linter.unusedSimpArgs false
namespace Go.Proofs.YtgmnmjeccfnmbaaGreat
open Go.Proofs.Tryz
section
open Go.RowKit
attribute [local go_sem ↓] Go.wp_at_zero Go.wp_at_succ
def aJU (v:OpV):Bool :=
 decide (1≤v.k∧v.k≤6) && (cQ (fTo v.k) v.tO 0 15 && (cQ (fAm v.k) v.am 1 1099511627776 && (cQ (fUl v.k) v.ul 1 1000 && (cQ (fVa v.k) v.va 0 9 && (cQ (aAh v.k) (v.pre.length:Int) 0 32 && (cQ (aAg v.k) (v.prf.length:Int) 1 2000 && ((fUl v.k || decide (v.hs=0)) && (fLk v.k || decide (v.lk=0)))))))))
theorem aLn {R:OpR} (h1:R.pre.length=R.n1) (h2:R.prf.length=R.n2):vOp R=aJU R.v:=by
 unfold vOp aJU OpR.v;simp only [h1,h2]
def aNb (ac sq:Int) (V:List OpV):Bool:=wK ac sq V.length && V.all aJU
theorem aLm {ac sq:Int} {L:List OpR} (h:∀ R,R ∈ L→vOp R=aJU R.v):vTx ac sq L=aNb ac sq (L.map OpR.v):=by
 unfold vTx aNb
 rw [List.length_map]
 congr 1
 rw [Bool.eq_iff_iff]
 simp only [decide_eq_true_eq,List.all_eq_true,List.mem_map]
 constructor
 ·rintro hh _ ⟨R, hR, rfl⟩
  obtain ⟨k,hk,rfl⟩:=List.getElem_of_mem hR
  have:=hh k hk
  have e:L[k]=bR L k:=by simp [bR,hk]
  rw [← h _ hR,e];exact this
 intro hh k hk
 rw [h _ (oR hk)]
 exact hh _ ⟨_,oR hk,rfl⟩
theorem eF {w:World} {base base':Nat} {e e':TypeId} {size size':Nat} {A A':Option Addr} {n n' c c':Nat} {xs xs':List Value} (h:w.ownsRow base e size (.slice A n c) n xs) (h':w.ownsRow base' e' size' (.slice A' n' c') n' xs') (hne:e ≠ e'):(Value.slice A n c).ownBlock=none ∨ (Value.slice A n c).ownBlock ≠ (Value.slice A' n' c').ownBlock:=by
 rcases h.2 with ⟨hv,_⟩ | ⟨g,cap,cur,hv,_,hh,_⟩
 ·exact .inl (by rw [hv];simp [Value.ownBlock])
 refine .inr ?_
 have:=aL (t:=e) (cs:=cur) h' hh hne
 rw [hv];exact this
section
variable {P:Program} {t e:TypeId} {z:Value} {size bytes:Nat}
theorem bK {ops:Array Oper} {rest:List Oper} {o:Oper} {a:Act} {w:World} {Q:Exit→Act→World→Prop} (E:Elem P t e z size bytes) (hgd:o.guard=none) (s x:Operand)
  (ho:o.op=.call { callee:=.builtin .append,args:=#[s,x],argTypes:=#[t,t] })
  (base:Nat) (A:Option Addr) (n c:Nat) (xs:List Value) (hs:a.eval s=.slice A n c) (hown:w.ownsRow base e size (.slice A n c) n xs)
  (A2:Option Addr) (m c2:Nat) (ys:List Value) (hx:a.eval x=.slice A2 m c2) (hr:Rd w A2 ys) (hl:ys.length=m * size) (h1:∀ u ∈ ys,u.oneCell'=true)
  (hb:(n+m) * bytes≤140737488355328) (h63:n+m≤4611686018427387904) (hbase:base≤w.heap.size)
  (h:∀ A' c' w',w'.ownsRow base e size (.slice A' (n+m) c') (n+m) (xs ++ ys)→w.grownBy w' (Value.ownBlock (.slice A n c))→wpList P ops Q rest (a.put o.dst (.slice A' (n+m) c')) w'):wpList P ops Q (o :: rest) a w :=
 wpList_plain hgd fun K hK=>oB E s x ho base A n c xs hs hown A2 m c2 ys hx hr hl h1 hb h63 hbase fun A' c' w' h2 h3=>hK _ _ (h A' c' w' h2 h3)
end
abbrev nO:Array Value:=#[.int .i64 0,.int .i64 0,.slice none 0 0,.slice none 0 0]
structure TxR where
 ac:Int
 sq:Int
 A:Option Addr
 n:Nat
 c:Nat
 S:Option Addr
 m:Nat
 d:Nat
 L:List OpR
 sig:List UInt8
abbrev tA (T:TxR):Array Value:=stA T.ac T.sq T.A T.n T.c T.S T.m T.d
def TxR.v (T:TxR):Int × Int × List OpV × List UInt8:=(T.ac,T.sq,T.L.map OpR.v,T.sig)
structure TxR.ok (T:TxR) (w:World):Prop where
 ops:SlO w T.A T.n T.c T.L
 sig:SlB w T.S T.m T.d T.sig
theorem TxR.ok.ext {T:TxR} {w w':World} (h:T.ok w) (e:Ext w w'):T.ok w':=⟨h.ops.ext e,h.sig.ext e⟩
section
variable {o:Oper} {a:Act} {w:World} {ops:Array Oper} {rest:List Oper} {Q:Exit→Act→World→Prop}
theorem oD (hgd:o.guard=none) (x y:Operand) (ho:o.op=.store 36 x y) (g:Nat) (cs:Array Value) (hx:a.eval x=.pointer (some ⟨g,0,none⟩)) (hy:a.eval y=.agg cs) (ht:w.there g 0 4) (hs:cs.size=4) (h1:cs.all (·.oneCell')=true)
  (h:wpList prog ops Q rest (a.put o.dst undef) (w.setCells g 0 cs.toList)):wpList prog ops Q (o :: rest) a w :=
 wpList_store_mid hgd 36 x y ho g 0 cs hx hy (by rw [hs];exact ht) (by rw [hs];kernel_rfl) h1 h
end
theorem aFQ (ac sq:Int) (A:Option Addr) (n c:Nat) (S:Option Addr) (m d:Nat):(stA ac sq A n c S m d).all (·.oneCell')=true:=by simp [stA,Value.oneCell']
theorem aCE {w:World} {X:Nat} {t:TypeId} (h:Blk w X t nO):w.there X 0 4:=aI h
theorem aCF {w:World} {g:Nat} (h:Blk w g 36 nO) (cs:Array Value) (hs:cs.size=4):Blk (w.setCells g 0 cs.toList) g 36 cs:=aN h (by rw [hs];rfl)
end
section
open Go.RowKit
def aJX (z:Int):Int:=bits .andNot .i64 z 1023
theorem aLQ {z:Int} (h:wfI z):-9223372036854775808≤z∧z≤9223372036854775807:=by
 unfold wfI at h
 simp [Lit.wf,IntKind.min,IntKind.max,IntKind.bits,IntKind.signed] at h
 omega
theorem aIf {z:Int} (h:wfI z):aJX z=0 ↔ 0≤z∧z≤1023:=by
 obtain ⟨h1,h2⟩:=aLQ h
 have key:∀ X:Nat,X < 18446744073709551616→X &&& 18446744073709550592=X / 1024 * 1024:=fun X hX=>by
  rw [nat_hi64_10 X,Nat.mod_eq_of_lt hX]
 have hx:(BitVec.ofInt 64 z).toNat < 18446744073709551616:=(BitVec.ofInt 64 z).isLt
 have hz:((BitVec.ofInt 64 z).toNat:Int)=z % 18446744073709551616:=by
  rw [BitVec.toNat_ofInt];omega
 have e:aJX z=IntKind.i64.wrap (((BitVec.ofInt 64 z).toNat / 1024 * 1024:Nat):Int):=by
  rw [← key _ hx]
  show IntKind.i64.wrap ((BitVec.ofInt 64 z &&& ~~~BitVec.ofInt 64 (1023:Int)).toNat:Int)=_
  rw [BitVec.toNat_and]
  rfl
 rw [e,IntKind.wrap_i64]
 omega
def inI (n lo hi:Int):Bool:=decide (lo≤n∧n≤hi)
def chV (v:VtR):Bool:=decide (v.ch=1 ↔ v.va ≠ 0)
def aIt (v:VtR):Bool :=
 if v.k=3 then inI v.sl 0 9 && (inI v.ro 1 12 && (inI v.ch 0 1 && (decide (v.ro ≠ 1) || (decide (v.ch ≠ 0) || decide (v.su=0)))))
 else if v.k=4 then inI v.sl 0 9 && (inI v.ro 1 12 && inI v.ch 0 2)
 else inI v.sl 0 (if v.k≤2 then 9 else 0) && (decide (v.ro=0∧v.su=0) && decide (v.ch=1))
def eS (v:VtR):Bool:=(inI v.k 1 7 && inI v.si 0 9) && ((chV v && decide (aJX v.su=0)) && aIt v)
theorem aHY {v:VtR} (h:eS v=true) (hw:v.wf):0≤v.k∧v.k < 256∧0≤v.sl∧v.sl < 256∧0≤v.ro∧v.ro < 256∧0≤v.ch∧v.ch < 256∧0≤v.si∧v.si < 256∧0≤v.su∧v.su≤1023:=by
 unfold eS inI at h
 simp only [Bool.and_eq_true,decide_eq_true_eq] at h
 obtain ⟨⟨h1,h2⟩,⟨h3,h4⟩,h5⟩:=h
 have h6:=(aIf hw.su).1 h4
 unfold aIt inI at h5
 split at h5
 ·simp only [Bool.and_eq_true,decide_eq_true_eq] at h5;omega
 split at h5
 ·simp only [Bool.and_eq_true,decide_eq_true_eq] at h5;omega
 simp only [Bool.and_eq_true,decide_eq_true_eq] at h5;split at h5 <;> omega
def mR (v:VtR):List UInt8:=[toB v.k,toB v.sl,toB v.ro,toB v.ch,toB v.si] ++ (beI 2 v.su ++ (nmb v.pa ++ nmb v.va))
def byt (l:List UInt8) (i:Nat):UInt8:=l.getD i 0
def cZ (l:List UInt8):VtR:=⟨(byt l 0).toNat,(byt l 1).toNat,(byt l 2).toNat,(byt l 3).toNat,(byt l 4).toNat,aZ l 5 2,qN ((l.drop 7).take 8),qN ((l.drop 15).take 8)⟩
theorem oE {z:Int} (h1:-9223372036854775808≤z) (h2:z≤9223372036854775807):wfI z:=by
 unfold wfI
 simp [Lit.wf,IntKind.min,IntKind.max,IntKind.bits,IntKind.signed]
 omega
theorem aDO (l:List UInt8):(cZ l).wf:=by
 have hb:∀ c:UInt8,wfI (c.toNat:Int):=fun c=>by have:=c.toNat_lt;exact oE aa aa
 refine ⟨hb _,hb _,hb _,hb _,hb _,?_⟩
 have h1:=kF ((l.drop 5).take 2)
 have h2:((l.drop 5).take 2).length≤2:=List.length_take_le _ _
 have h3:256 ^ ((l.drop 5).take 2).length≤256 ^ 2:=Nat.pow_le_pow_right aa h2
 refine oE ?_ ?_
 ·show _≤((aZ l 5 2:Nat):Int);omega
 show ((aZ l 5 2:Nat):Int)≤_;unfold aZ;omega
theorem aNu {z:Int} (h1:0≤z) (h2:z≤65535):(bT (beI 2 z):Int)=z:=by
 unfold beI
 rw [pZ]
 omega
def fQ:List Int→List Int→Bool
 | x :: r,y :: s=>if x=y then fQ r s else decide (x < y)
 | _,_=>false
theorem aDt (l:List Int):fQ l l=false:=by
 induction l with
 | nil=>rfl
 | cons x r ih=>simp [fQ,ih]
theorem xS:∀ (a b c:List Int),fQ a b=true→fQ b c=true→fQ a c=true
 | [],_,_,h,_=>by simp [fQ] at h
 | _ :: _,[],_,h,_=>by simp [fQ] at h
 | _ :: _,_ :: _,[],_,h=>by simp [fQ] at h
 | x :: r,y :: s,z :: t,h1,h2=>by
  unfold fQ at h1 h2 ⊢
  have ih:=xS r s t
  by_cases c1:x=y
  ·subst c1
   rw [if_pos rfl] at h1
   by_cases c2:x=z
   ·subst c2;rw [if_pos rfl] at h2 ⊢;exact ih h1 h2
   rw [if_neg c2] at h2 ⊢;exact h2
  rw [if_neg c1] at h1
  have h1':=of_decide_eq_true h1
  by_cases c2:y=z
  ·subst c2;rw [if_neg c1];exact h1
  rw [if_neg c2] at h2
  have h2':=of_decide_eq_true h2
  rw [if_neg (by omega)];exact decide_eq_true (by omega)
theorem xT:∀ (a b:List Int),a.length=b.length→fQ a b=false→fQ b a=false→a=b
 | [],[],_,_,_=>rfl
 | [],_ :: _,h,_,_=>by simp at h
 | _ :: _,[],h,_,_=>by simp at h
 | x :: r,y :: s,h,h1,h2=>by
  unfold fQ at h1 h2
  have ih:=xT r s (by simpa using h)
  by_cases e:x=y
  ·subst e;simp at h1 h2;rw [ih h1 h2]
  rw [if_neg e] at h1;rw [if_neg (fun h=>e h.symm)] at h2;simp at h1 h2;omega
def aAq (v:VtR):List Int:=[un v.pa,v.sl,v.ro,v.k,v.si,v.ch,un v.va,v.su]
def tM (a b:VtR):Bool:=fQ (aAq a) (aAq b)
end
section
open Go.RowKit
attribute [local go_sem ↓] Go.wp_at_zero Go.wp_at_succ
theorem aEd (n lo hi:Int) (w:World):Calls prog 243 #[.int .i64 n,.int .i64 lo,.int .i64 hi] w fun e w'=>e=.returned (.bool (inI n lo hi))∧w=w':=by
 by_cases h1:lo≤n <;> by_cases h2:n≤hi
 all_goals (
  have HV:=zh (show inI n lo hi=_ from fq)
  go_enter func243,ntmps243
  go_wp2_with fail
  go_ret
  exact ⟨bg,rfl⟩)
def vtF (W:World) (g:Nat) (v:VtR):Prop:=W.cell? ⟨g,0,none⟩=some (.int .i64 v.k)∧W.cell? ⟨g,1,none⟩=some (.int .i64 v.sl)∧W.cell? ⟨g,2,none⟩=some (.int .i64 v.ro)∧W.cell? ⟨g,3,none⟩=some (.int .i64 v.ch)∧W.cell? ⟨g,4,none⟩=some (.int .i64 v.si)∧W.cell? ⟨g,5,none⟩=some (.int .i64 v.su)∧(∀ i,i < 8→W.cell? ⟨g,6+i,none⟩=some (.int .u8 (nb8 v.pa i)))∧(∀ i,i < 8→W.cell? ⟨g,14+i,none⟩=some (.int .u8 (nb8 v.va i)))
theorem dI {w:World} {g:Nat} {t:TypeId} {v:VtR} (h:Blk w g t (vtA v)):vtF w g v :=
  ⟨h.cell 0,h.cell 1,h.cell 2,h.cell 3,h.cell 4,h.cell 5,
   fun i hi=>by rcases (by omega:i=0 ∨ i=1 ∨ i=2 ∨ i=3 ∨ i=4 ∨ i=5 ∨ i=6 ∨ i=7) with rfl | rfl | rfl | rfl | rfl | rfl | rfl | rfl <;> exact h.cell _,
   fun i hi=>by rcases (by omega:i=0 ∨ i=1 ∨ i=2 ∨ i=3 ∨ i=4 ∨ i=5 ∨ i=6 ∨ i=7) with rfl | rfl | rfl | rfl | rfl | rfl | rfl | rfl <;> exact h.cell _⟩
theorem cs (x c:Int):(x=c∧(x == c)=true∧(x != c)=false∧decide (x=c)=true) ∨ (x ≠ c∧(x == c)=false∧(x != c)=true∧decide (x=c)=false):=by
 by_cases h:x=c
 ·exact .inl (by simp [h])
 exact .inr (by simp [h])
def kH (v:VtR):Prop:=(1≤v.k∧v.k≤7)∧(0≤v.si∧v.si≤9)∧bits .andNot .i64 v.su 1023=0 ∧
  ((v.k = 3 ∧ (0 ≤ v.sl ∧ v.sl ≤ 9) ∧ (1 ≤ v.ro ∧ v.ro ≤ 12) ∧ (0 ≤ v.ch ∧ v.ch ≤ 1) ∧ (v.ro ≠ 1 ∨ v.ch ≠ 0 ∨ v.su = 0)) ∨ (v.k = 4 ∧ (0 ≤ v.sl ∧ v.sl ≤ 9) ∧ (1 ≤ v.ro ∧ v.ro ≤ 12) ∧ (0 ≤ v.ch ∧ v.ch ≤ 2)) ∨
   (v.k ≠ 3∧v.k ≠ 4∧0≤v.sl∧((v.k≤2∧v.sl≤9) ∨ v.sl≤0)∧v.ro=0∧v.su=0∧v.ch=1))
theorem aLl (v:VtR) {z:Bool} (hz:decide (v.va=0)=z):eS v=true ↔ kH v∧(v.ch=1 ↔ z=false):=by
 have hp:(v.va ≠ 0) ↔ z=false:=by rw [← hz];simp
 unfold eS kH chV aJX inI
 rw [show decide (v.ch=1 ↔ v.va ≠ 0)=decide (v.ch=1 ↔ z=false) from decide_eq_decide.2 (by rw [hp])]
 unfold aIt inI
 by_cases h3:v.k=3
 ·rw [if_pos h3]
  exact yj
 by_cases h4:v.k=4
 ·rw [if_neg h3, if_pos h4]
  exact yj
 rw [if_neg h3,if_neg h4]
 by_cases h2:v.k≤2
 ·rw [if_pos h2]
  exact yj
 rw [if_neg h2]
 exact yj
theorem vF {b:Bool} {A B:Prop} (h:b=true ↔ A∧B) (n:¬ A):Ending.returned (.bool false)=.returned (.bool b):=by cases b;rfl;exact absurd (h.1 rfl).1 n
theorem vG {b:Bool} {A B:Prop} (h:b=true ↔ A∧B) (n:¬ B):Ending.returned (.bool false)=.returned (.bool b):=by cases b;rfl;exact absurd (h.1 rfl).2 n
theorem vY {b:Bool} {A B:Prop} (h:b=true ↔ A∧B) (x:A) (y:B):Ending.returned (.bool true)=.returned (.bool b):=by rw [h.2 ⟨x,y⟩]
theorem cI (n lo hi:Int):(inI n lo hi=true∧lo≤n∧n≤hi) ∨ (inI n lo hi=false∧¬ (lo≤n∧n≤hi)):=by
 by_cases h:lo≤n∧n≤hi
 ·exact .inl ⟨decide_eq_true h,h⟩
 exact .inr ⟨decide_eq_false h,h⟩
theorem gR (v:VtR) (w:World):Calls prog 227 #[.agg (vtA v)] w fun e w'=>e=.returned (.bool (eS v))∧Ext w w':=by
 obtain ⟨z,hz⟩:=gx (decide (v.va=0))
 have HV:=zh (aLl v hz)
 have HE:=zh ((Ext.refl w).alloc' (.cells (vtA v) 124))
 obtain ⟨a0,a1,a2,a3,a4,a5,a6,a7⟩:=dI (Blk.new w 124 (vtA v))
 have HB0:=zh (Blk.new w 124 (vtA v))
 have HB:=zh (fun n lo hi W=>aEd n lo hi W)
 have q7:=fun W=>cE v.va 0 W
 rw [dN,hz] at q7
 clear hz
 go_enter func227,ntmps227
 rcases cI v.k 1 7 with ⟨k0,k1⟩ | ⟨k0,k1⟩
 rotate_left
 ·exact yh
 rcases cI v.si 0 9 with ⟨s0,s1⟩ | ⟨s0,s1⟩
 rotate_left
 ·exact yh
 go_upto_region 3 with (go_at_call 243;(with_reducible refine (HB.out _ _ _ _).mono ?_);rintro e wv ⟨rfl,rfl⟩)
 rcases cs (bits .andNot .i64 v.su 1023) 0 with ⟨f0,f1,f2,f3⟩ | ⟨f0,f1,f2,f3⟩ <;> rcases cs v.ch 1 with ⟨d0,d1,d2,d3⟩ | ⟨d0,d1,d2,d3⟩ <;> cases z
 all_goals (
  go_quiet ((fail))
  have HB1:=zh (show Blk ((w.alloc (.cells (vtA v) 124)).drewN nq) w.heap.size 124 (vtA v) from HB0.out)
  have HE1:=zh (below_drewN HE.out nq)
  clear a0 a1 a2 a3 a4 a5 a6 a7 HB0 HE q7
  generalize (w.alloc (.cells (vtA v) 124)).drewN nq=W1 at HB1 HE1 ⊢
  obtain ⟨a0,a1,a2,a3,a4,a5,a6,a7⟩:=dI HB1.out
  have HC:=zh d0)
 rotate_left
 iterate 2
  ·go_wp2_with fail
   go_ret
   exact ⟨vG HV.out (by simp [d0]),HE1.out⟩
 rotate_left
 iterate 4
  ·go_wp2_with fail
   go_ret
   exact ⟨vF HV.out dv,HE1.out⟩
 all_goals (
  go_wp2_with fail
  rcases cs v.ro 0 with ⟨y0,y1,y2,y3⟩ | ⟨y0,y1,y2,y3⟩ <;> rcases cs v.su 0 with ⟨t0,t1,t2,t3⟩ | ⟨t0,t1,t2,t3⟩
  all_goals (
   go_quiet ((fail))
   have HB2:=zh (show Blk ((W1).drewN nq) w.heap.size 124 (vtA v) from HB1.out)
   have HE2:=zh (below_drewN HE1.out nq)
   clear a0 a1 a2 a3 a4 a5 a6 a7 HB1 HE1
   generalize (W1).drewN nq=W2 at HB2 HE2 ⊢
   obtain ⟨a0,a1,a2,a3,a4,a5,a6,a7⟩:=dI HB2.out
   have hq:v.k=3 ∨ v.k=4 ∨ ((v.k=1 ∨ v.k=2) ∨ (v.k=5 ∨ v.k=6 ∨ v.k=7)):=aa
   rcases hq with e | e | ⟨e | e⟩ | e | e | e
   ·rw [e] at a0
    go_wp2_with fail
    go_quiet ((go_at_call 243;exact Calls.quiet_of_same ((HB.out _ _ _ _).mono (fun _ _ h=>⟨h.1,h.2.symm⟩))))
    have HB3:=zh (show Blk ((W2).drewN nq) w.heap.size 124 (vtA v) from HB2.out)
    have HE3:=zh (below_drewN HE2.out nq)
    clear a0 a1 a2 a3 a4 a5 a6 a7 HB2 HE2
    generalize (W2).drewN nq=W3 at HB3 HE3 ⊢
    obtain ⟨a0,a1,a2,a3,a4,a5,a6,a7⟩:=dI HB3.out
    rw [e] at a0
    rcases cI v.ro 1 12 with ⟨r0,r1⟩ | ⟨r0,r1⟩ <;> rcases cI v.ch 0 1 with ⟨x0,x1⟩ | ⟨x0,x1⟩ <;> rcases cs v.ro 1 with ⟨p0,p1,p2,p3⟩ | ⟨p0,p1,p2,p3⟩ <;> rcases cs v.ch 0 with ⟨q0,q1,q2,q3⟩ | ⟨q0,q1,q2,q3⟩ <;> rcases cI v.sl 0 9 with ⟨l0,l1⟩ | ⟨l0,l1⟩ <;> first | (exfalso;omega) | (go_wp2_with (go_at_call 243;(with_reducible refine (HB.out _ _ _ _).mono ?_);rintro e wv ⟨rfl,rfl⟩);go_ret;exact ⟨by first | exact vF HV.out dv | exact vY HV.out dv ly,HE3.out⟩)
   ·rw [e] at a0
    go_wp2_with fail
    go_quiet ((go_at_call 243;exact Calls.quiet_of_same ((HB.out _ _ _ _).mono (fun _ _ h=>⟨h.1,h.2.symm⟩))))
    have HB3:=zh (show Blk ((W2).drewN nq) w.heap.size 124 (vtA v) from HB2.out)
    have HE3:=zh (below_drewN HE2.out nq)
    clear a0 a1 a2 a3 a4 a5 a6 a7 HB2 HE2
    generalize (W2).drewN nq=W3 at HB3 HE3 ⊢
    obtain ⟨a0,a1,a2,a3,a4,a5,a6,a7⟩:=dI HB3.out
    rw [e] at a0
    rcases cI v.ro 1 12 with ⟨r0,r1⟩ | ⟨r0,r1⟩ <;> rcases cI v.ch 0 2 with ⟨x0,x1⟩ | ⟨x0,x1⟩ <;> rcases cI v.sl 0 9 with ⟨l0,l1⟩ | ⟨l0,l1⟩ <;> first | (exfalso;omega) | (go_wp2_with (go_at_call 243;(with_reducible refine (HB.out _ _ _ _).mono ?_);rintro e wv ⟨rfl,rfl⟩);go_ret;exact ⟨by first | exact vF HV.out dv | exact vY HV.out dv ly,HE3.out⟩)
   all_goals (
    rw [e] at a0
    rcases cI v.sl 0 9 with ⟨l0,l1⟩ | ⟨l0,l1⟩ <;> rcases cI v.sl 0 0 with ⟨m0,m1⟩ | ⟨m0,m1⟩ <;> first | (exfalso;omega) | (go_wp2_with (go_at_call 243;(with_reducible refine (HB.out _ _ _ _).mono ?_);rintro e wv ⟨rfl,rfl⟩);go_ret;exact ⟨by first | exact vF HV.out dv | exact vY HV.out dv ly,HE2.out⟩))))
end
section
open Go.RowKit
def wr (z:Int):Int:=IntKind.i64.wrap z
theorem aLj (z:Int):wr z=(z+9223372036854775808) % 18446744073709551616 - 9223372036854775808:=by
 unfold wr;rw [IntKind.wrap_i64]
def oU (z:Int):Prop:=-9223372036854775808≤z∧z≤9223372036854775807
theorem aFG (z:Int):oU (wr z):=by rw [aLj];unfold oU;omega
theorem kT {z:Int} (h:oU z):wr z=z:=by rw [aLj];unfold oU at h;omega
structure CeR where
 k:Int
 id:Int
 lk:UInt64
deriving DecidableEq
structure DeR where
 c:CeR
 a:Int
deriving DecidableEq
structure LkR where
 nm:UInt64
 hs:UInt64
 ow:Int
 tO:Int
 ul:Int
deriving DecidableEq
structure StV where
 C:List DeR
 Q:List Int
 K:List LkR
 P:List UInt64
 G:Int
deriving DecidableEq
def yP (c:CeR):List Int:=[c.k,c.id,un c.lk]
def iU (a b:CeR):Bool:=fQ (yP a) (yP b)
theorem aHK {a b:CeR} (h:yP a=yP b):a=b:=by
 obtain ⟨k,i,l⟩:=a
 obtain ⟨k',i',l'⟩:=b
 simp only [yP,List.cons.injEq,and_true] at h
 obtain ⟨h1,h2,h3⟩:=h
 rw [h1,h2,aEt h3]
theorem sE:STO iU:=⟨fun x=>aDt _,fun x y z=>xS _ _ _,fun x y h1 h2=>aHK (xT _ _ rfl h1 h2)⟩
section
variable {α:Type}
def gW (p:α→Bool) (x:α):List α→List α
 | []=>[x]
 | y :: r=>if p y=true then x :: y :: r else y :: gW p x r
theorem gJ (p:α→Bool) (x:α):∀ (L:List α) (k:Nat),k≤L.length→(∀ j (h:j < k) (hl:j < L.length),p L[j]=false)→(∀ (h:k < L.length),p L[k]=true)→gW p x L=L.take k ++ x :: L.drop k
 | [],0,_,_,_=>rfl
 | y :: r,0,_,_,h2=>by
  have:=h2 (by simp)
  simp only [List.getElem_cons_zero] at this
  unfold gW;rw [if_pos this];rfl
 | y :: r,k+1,hk,h1,h2=>by
  have h0:=h1 0 (by omega) (by simp)
  simp only [List.getElem_cons_zero] at h0
  have ih:=gJ p x r k (by simpa using hk) (fun j hj hl=>h1 (j+1) (by omega) (by simpa using hl)) (fun h=>h2 (by simpa using h))
  unfold gW;rw [if_neg (by rw [h0];decide),ih];rfl
theorem xQ (p:α→Bool) (x y:α):∀ (L:List α),y ∈ gW p x L ↔ y=x ∨ y ∈ L
 | []=>by simp [gW]
 | z :: r=>by
  unfold gW
  split
  ·simp
  rw [List.mem_cons,xQ p x y r,List.mem_cons]
  constructor
  ·rintro (h | h | h)
   ·exact .inr (.inl h)
   ·exact .inl h
   exact .inr (.inr h)
  rintro (h | h | h)
  ·exact .inr (.inl h)
  ·exact .inl h
  exact .inr (.inr h)
end
def fdC (C:List DeR) (c:CeR):Option DeR:=C.find? (fun d=>decide (d.c=c))
def amt:Option DeR→Int
 | none=>0
 | some d=>d.a
def cX (C:List DeR) (c:CeR):Int:=amt (fdC C c)
def yX (c:CeR) (n:Int):List DeR→List DeR
 | []=>[]
 | d :: r=>if d.c=c then (if n=0 then r else ⟨d.c,n⟩ :: r) else d :: yX c n r
def eB (C:List DeR) (c:CeR) (a:Int):List DeR:=match fdC C c with
 | none=>if wr a=0 then C else gW (fun y=>iU c y.c) ⟨c,wr a⟩ C
 | some d=>yX c (wr (d.a+a)) C
def addL (C:List DeR) (l:List DeR):List DeR:=l.foldl (fun C d=>eB C d.c d.a) C
def aJY (C:List DeR):Int:=(C.map DeR.a).sum
def fdK (K:List LkR) (n:UInt64):Option LkR:=K.find? (fun l=>decide (l.nm=n))
def fL (K:List LkR) (l:LkR):List LkR:=match fdK K l.nm with
 | none=>gW (fun y=>decide (un l.nm < un y.nm)) l K
 | some _=>K
def fC (n:UInt64):List LkR→List LkR
 | []=>[]
 | l :: r=>if l.nm=n then r else l :: fC n r
def dW (P:List UInt64) (n:UInt64):List UInt64:=if n ∈ P then P else gW (fun y=>decide (un n < un y)) n P
def aV (i:Int):CeR:=⟨1,i,0⟩
def bZ (n:UInt64):CeR:=⟨2,0,n⟩
def bY (i:Int):CeR:=⟨3,i,0⟩
def cA:CeR:=⟨4,0,0⟩
def dF (x y:CeR) (n:Int):List DeR:=[⟨x,wr (-n)⟩,⟨y,n⟩]
def ofV (v:OpV):OpR:=⟨v.k,v.tO,v.am,v.ul,v.va,v.lk,v.hs,none,v.pre.length,0,v.pre,none,v.prf.length,0,v.prf⟩
theorem aKA {R Q:OpR} (h:R.v=Q.v):dT R=dT Q:=by
 unfold OpR.v at h
 injection h with h1 h2 h3 h4 h5 h6 h7 h8 h9
 unfold dT
 rw [h1,h2,h3,h4,h5,h6,h7,h8,h9]
theorem aJq {L M:List OpR} (h:L.map OpR.v=M.map OpR.v):gA L=gA M:=by
 have e:∀ K:List OpR,gA K=((K.map OpR.v).map ofV).flatMap dT:=fun K=>by
  unfold gA
  induction K with
  | nil=>rfl
  | cons R r ih =>
   rw [List.flatMap_cons,ih]
   simp only [List.map_cons,List.flatMap_cons]
   rw [show dT (ofV R.v)=dT R from aKA rfl]
 rw [e L,e M,h]
theorem aDI (d:DeR) (C:List DeR) (c:CeR):fdC (d :: C) c=if d.c=c then some d else fdC C c:=by
 unfold fdC;rw [List.find?_cons]
 by_cases h:d.c=c
 ·rw [decide_eq_true h,if_pos h]
 rw [decide_eq_false h,if_neg h]
theorem aJk {C:List DeR} {c:CeR} {d:DeR} (h:fdC C c=some d):d ∈ C∧d.c=c :=
 ⟨List.mem_of_find?_eq_some h,by have:=List.find?_some h;simpa using this⟩
theorem aJl {C:List DeR} {c:CeR}:fdC C c=none ↔ ∀ d,d ∈ C→d.c ≠ c:=by
 unfold fdC;rw [List.find?_eq_none];simp
theorem kN {C:List DeR} {c:CeR} {o:Option DeR} (h:fdC C c=o):cX C c=amt o:=by unfold cX;rw [h]
theorem aGL {z:Int} (h0:0≤z) (h1:z < 256):((toB z).toNat:Int)=z:=by rw [← bM,Int.emod_eq_of_lt h0 h1]
def tL (T:TxR):List Value:=(tA T).toList
def aFF (L:List OpR):Prop:=∀ R,R ∈ L→R.pre.length=R.n1∧R.prf.length=R.n2
def aJH (T:TxR):Prop:=aFF T.L∧T.sig.length=T.m
theorem aKq {T:TxR} {w:World} (h:T.ok w):aJH T:=⟨fun R hR=>⟨((h.ops.ok R hR).pre).len,((h.ops.ok R hR).prf).len⟩,h.sig.len⟩
theorem aHh {w:World} {b o:Nat} {R:OpR} (h:w.rangeAt b o (opL R)):w.cell? ⟨b,o+21,none⟩=some (.slice R.A1 R.n1 R.c1)∧w.cell? ⟨b,o+22,none⟩=some (.slice R.A2 R.n2 R.c2) :=
 ⟨h 21 _ rfl,h 22 _ rfl⟩
end
section
open Go.RowKit
attribute [local go_sem ↓] Go.wp_at_zero Go.wp_at_succ
abbrev SgV:=VtR × List UInt8
def SgR.V (S:SgR):SgV:=(S.v,S.sig)
end
section
open Go.RowKit
theorem aFd {P:List UInt64} {n:UInt64} (h:n ∈ P):dW P n=P:=by unfold dW;rw [if_pos h]
def fA (G:Int) (i:Nat):Bool:=decide (G / 2 ^ i % 2=1)
def nN (G:Int) (i:Nat):Int:=if fA G i=true then G else G+2 ^ i
theorem Grown.refl (w:World) (row:Option Nat):w.grownBy w row:=⟨rfl,rfl,rfl,Nat.le_refl _,fun _ _ _=>rfl⟩
theorem Grown.trans {a b c:World} {row:Option Nat} (h:a.grownBy b row) (k:b.grownBy c row):a.grownBy c row :=
 ⟨k.os.trans h.os,k.tape.trans h.tape,k.output.trans h.output,Nat.le_trans h.size k.size,fun i hi hr=>(k.block i (Nat.lt_of_lt_of_le hi h.size) hr).trans (h.block i hi hr)⟩
theorem Ext.grown {a b:World} (h:Ext a b) (row:Option Nat):a.grownBy b row:=⟨h.os,h.tape,h.output,h.size,fun i hi _=>h.block i hi⟩
theorem Grown.none {a b:World} (h:a.grownBy b none):Ext a b:=⟨h.os,h.tape,h.output,h.size,fun k hk=>h.block k hk (by simp)⟩
theorem aCH {xs:List Value} {o:Nat} {y:Value} {r:List Value} (h:o < xs.length):splice (xs.set o y) (o+1) r=splice xs o (y :: r):=by
 unfold splice
 rw [List.take_add_one,List.getElem?_set_self h,List.take_set_of_le (Nat.le_refl _)]
 simp [List.drop_set_of_lt,show o < o+1+r.length from aa,show o+(r.length+1)=o+1+r.length from aa]
theorem lC {base:Nat} {e:TypeId} {size g n c:Nat} (ys:List Value):∀ (o:Nat) (w:World) (xs:List Value),o+ys.length≤xs.length→w.ownsRow base e size (.slice (some ⟨g,0,none⟩) n c) n xs →
  (w.setCells g o ys).ownsRow base e size (.slice (some ⟨g,0,none⟩) n c) n (splice xs o ys)∧w.grownBy (w.setCells g o ys) (some g):=by
 induction ys with
 | nil=>intro o w xs hl h;exact ⟨by simpa [splice,World.setCells] using h,Grown.refl _ _⟩
 | cons y r ih =>
  intro o w xs hl h
  simp only [List.length_cons] at hl
  have hs:=h.stored o y
  obtain ⟨h1,h2⟩:=ih (o+1) _ _ (by rw [List.length_set];omega) hs.1
  rw [aCH aa] at h1
  exact ⟨h1,Grown.trans hs.2 h2⟩
theorem vQ {w:World} {base:Nat} {e:TypeId} {size:Nat} {A:Option Addr} {n c:Nat} {xs:List Value} (h:w.ownsRow base e size (.slice A n c) n xs) {i:Nat} (hi:i≤n) (hA:A ≠ none):w.ownsRow base e size (.slice A i c) i (xs.take (i * size)):=by
 have hle:i * size≤n * size:=Nat.mul_le_mul_right _ hi
 refine ⟨by rw [List.length_take,h.1];omega,?_⟩
 rcases h.2 with ⟨hv,_⟩ | ⟨g,cap,cur,hv,hb,hh,hn,hm,hs,ht⟩
 ·injection hv with hA';exact absurd hA' hA
 injection hv with h1 _ h3;subst h1;subst h3
 refine .inr ⟨g,c,cur,rfl,hb,hh,aa,hm,hs,?_⟩
 rw [← ht,List.take_take,Nat.min_eq_left hle]
theorem xC {base:Nat} {e:TypeId} {size g n c:Nat} (ys:List Value):∀ (o:Nat) (w:World) (xs:List Value),w.ownsRow base e size (.slice (some ⟨g,0,none⟩) n c) n xs →
  ∃ xs',(w.setCells g o ys).ownsRow base e size (.slice (some ⟨g,0,none⟩) n c) n xs'∧xs'.take o=xs.take o∧w.grownBy (w.setCells g o ys) (some g):=by
 induction ys with
 | nil=>intro o w xs h;exact ⟨xs,h,rfl,Grown.refl _ _⟩
 | cons y r ih =>
  intro o w xs h
  have hs:=h.stored o y
  obtain ⟨xs',h1,h2,h3⟩:=ih (o+1) _ _ hs.1
  refine ⟨xs',h1,?_,Grown.trans hs.2 h3⟩
  have:=congrArg (List.take o) h2
  rw [List.take_take,List.take_take,Nat.min_eq_left aa] at this
  rw [this,List.take_set_of_le aa]
section
variable {α:Type} [RowT α]
instance (priority:=low) rowInh:Inhabited α:=⟨RowT.z⟩
theorem sV (d:Array α) (i:Nat):d[i]! = aS d.toList i:=by
 show d[i]! = d.toList.getD i RowT.z
 rw [List.getD_eq_getElem?_getD,Array.getElem?_toList]
 by_cases h:i < d.size
 ·rw [getElem!_pos d i h,Array.getElem?_eq_getElem h];rfl
 rw [getElem!_neg d i h,Array.getElem?_eq_none aa];rfl
theorem aKu (L:List α) (i:Nat) (x:α) (hi:i < L.length):splice (gcs L) (i * RowT.sz α) (RowT.enc x)=gcs (L.set i x):=by
 rw [List.set_eq_take_append_cons_drop,if_pos hi,bL,dK]
 unfold splice
 rw [iV,RowT.len,← fB,Nat.add_mul,Nat.one_mul]
class RowB (α:Type) [RowT α] where
 ow:World→Nat→α→Prop
 ok:∀ x w b,ow w b x→RowT.ok x w
 ext:∀ x w w' b,ow w b x→Ext w w'→ow w' b x
 kept:∀ x w w' b b' e sz A n c xs,ow w b x→w.ownsRow b' e sz (.slice A n c) n xs→e ≠ 5→w.grownBy w' (Value.ownBlock (.slice A n c))→ow w' b x
 mono:∀ x w b b',ow w b x→b'≤b→ow w b' x
structure RowS [RowB α] (w0 w:World) (base:Nat) (e:TypeId) (A:Option Addr) (n c:Nat) (d:Array α):Prop where
 own:w.ownsRow base e (RowT.sz α) (.slice A n c) n (gcs d.toList)
 ow:∀ x ∈ d.toList,RowB.ow w base x
 gr:w0.grownBy w (Value.ownBlock (.slice A n c))
 ne:e ≠ 5
variable [RowB α] {w0 w w':World} {base:Nat} {e:TypeId} {A:Option Addr} {n c:Nat} {d:Array α}
theorem RowS.start (h:w.ownsRow base e (RowT.sz α) (.slice A n c) n (gcs d.toList)) (ho:∀ x ∈ d.toList,RowB.ow w base x) (hne:e ≠ 5):RowS w w base e A n c d:=⟨h,ho,Grown.refl _ _,hne⟩
theorem RowS.size (h:RowS w0 w base e A n c d):d.size=n:=by
 have:=h.own.1
 rw [aJ] at this
 have hp:=RowT.pos (α:=α)
 have:=Nat.eq_of_mul_eq_mul_right hp this
 simpa using this
theorem RowS.ext (h:RowS w0 w base e A n c d) (he:Ext w w'):RowS w0 w' base e A n c d:=⟨bC h.own he,fun x hx=>RowB.ext _ _ _ _ (h.ow x hx) he,Grown.trans h.gr (Ext.grown he _),h.ne⟩
theorem RowS.at (h:RowS w0 w base e A n c d) (hn:0 < n):∃ g,A=some ⟨g,0,none⟩∧base≤g∧w.rangeAt g 0 (gcs d.toList):=cM h.own hn
theorem RowS.cell (h:RowS w0 w base e A n c d) {g:Nat} (hA:A=some ⟨g,0,none⟩) {i:Nat} (hi:i < n):w.rangeAt g (i * RowT.sz α) (RowT.enc d[i]!):=by
 obtain ⟨g',hA',_,hr⟩:=h.at aa
 obtain rfl:g=g':=by rw [hA] at hA';injection hA' with h1;injection h1
 have:=cN (L:=d.toList) (k:=i) hr (by have:=h.size;simp;omega)
 rw [Nat.zero_add] at this
 rw [sV]
 exact this
theorem aLe {i:Nat} (hi:i < d.size):d[i]! ∈ d.toList:=by
 rw [getElem!_pos d i hi];exact Array.mem_toList_iff.2 (Array.getElem_mem hi)
theorem RowS.owAt (h:RowS w0 w base e A n c d) {i:Nat} (hi:i < n):RowB.ow w base d[i]!:=h.ow _ (aLe (by rw [h.size];exact hi))
theorem RowS.ok (h:RowS w0 w base e A n c d) {i:Nat} (hi:i < n):RowT.ok d[i]! w:=RowB.ok _ _ _ (h.owAt hi)
theorem RowS.there (h:RowS w0 w base e A n c d) {g:Nat} (hA:A=some ⟨g,0,none⟩) {i:Nat} (hi:i < n):w.there g (i * RowT.sz α) (RowT.sz α):=by
 have hl:=h.own.1
 have h1:i * RowT.sz α+RowT.sz α≤n * RowT.sz α:=by
  have:=Nat.mul_le_mul_right (RowT.sz α) (show i+1≤n from hi)
  rwa [Nat.add_mul,Nat.one_mul] at this
 have ho:=h.own
 subst hA
 intro j hj
 exact ⟨by rw [ho.cellAt (i * RowT.sz α+j) aa,List.getElem?_eq_getElem aa];rfl,ho.frozenAt _⟩
theorem RowS.set (h:RowS w0 w base e A n c d) {g:Nat} (hA:A=some ⟨g,0,none⟩) {i:Nat} (hi:i < n) (x:α) (hx:RowB.ow w base x):RowS w0 (w.setCells g (i * RowT.sz α) (RowT.enc x)) base e A n c (d.setIfInBounds i x):=by
 have hs:=h.size
 have ho:=h.own
 subst hA
 obtain ⟨h1,h2⟩:=lC (RowT.enc x) (i * RowT.sz α) w (gcs d.toList) (by
  rw [RowT.len,aJ]
  have:=Nat.mul_le_mul_right (RowT.sz α) (show i+1≤d.toList.length from gj)
  rwa [Nat.add_mul,Nat.one_mul] at this) ho
 rw [aKu _ _ _ gj] at h1
 refine ⟨by rw [Array.toList_setIfInBounds];exact h1,fun y hy=>?_,Grown.trans h.gr h2,h.ne⟩
 rw [Array.toList_setIfInBounds] at hy
 rcases List.mem_or_eq_of_mem_set hy with hy | rfl
 ·exact RowB.kept _ _ _ _ _ _ _ _ _ _ _ (h.ow y hy) ho h.ne h2
 exact RowB.kept _ _ _ _ _ _ _ _ _ _ _ hx ho h.ne h2
theorem RowS.keep (h:RowS w0 w base e A n c d) {g:Nat} (hA:A=some ⟨g,0,none⟩) (o:Nat) (vs:List Value) {x:α} (hx:RowB.ow w base x):RowB.ow (w.setCells g o vs) base x:=by
 have ho:=h.own
 subst hA
 exact RowB.kept _ _ _ _ _ _ _ _ _ _ _ hx ho h.ne (aB _ _ _ _)
theorem RowS.swap (h:RowS w0 w base e A n c d) {g:Nat} (hA:A=some ⟨g,0,none⟩) {i j:Nat} (hi:i < n) (hj:j < n) :
  RowS w0 ((w.setCells g (i * RowT.sz α) (RowT.enc d[j]!)).setCells g (j * RowT.sz α) (RowT.enc d[i]!)) base e A n c (Sort.swp d i j) :=
 (h.set hA hi _ (h.owAt hj)).set hA hj _ (h.keep hA _ _ (h.owAt hi))
theorem RowS.trans {w1:World} (h:RowS w0 w1 base e A n c d) {d':Array α} (k:RowS w1 w base e A n c d'):RowS w0 w base e A n c d':=⟨k.own,k.ow,Grown.trans h.gr k.gr,k.ne⟩
end
theorem aHb {w w':World} {b b' n0 n1 sz c0:Nat} {c1:Nat} {A0 A1:Option Addr} {l:List UInt8} {e:TypeId} {xs:List Value} (h:OwnB w b 5 A0 n0 c0 l) (hr:w.ownsRow b' e sz (.slice A1 n1 c1) n1 xs) (hne:e ≠ 5) (hg:w.grownBy w' (Value.ownBlock (.slice A1 n1 c1))):OwnB w' b 5 A0 n0 c0 l :=
 World.ownsRow.kept h hg (eF h hr (Ne.symm hne))
instance:RowB SgR where
 ow w b S:=OwnB w b 5 S.A S.n S.c S.sig∧S.v.wf
 ok S w b h:=⟨h.2,h.1.sl⟩
 ext S w w' b h he:=⟨h.1.ext he,h.2⟩
 kept S w w' b b' e sz A n c xs h hr hne hg:=⟨aHb h.1 hr hne hg,h.2⟩
 mono S w b b' h hb:=⟨bA h.1 hb,h.2⟩
end
section
open Go.RowKit
attribute [local go_sem ↓] Go.wp_at_zero Go.wp_at_succ
theorem zH (R:OpR) (h:¬ (1≤R.k∧R.k≤6)) (w:World) :
  Calls prog 87 #[.agg (opA R)] w fun e w'=>e=.returned (.bool false)∧Ext w w':=by
 have HK:=zh (fun W=>mG R.k 1 6 aa W)
 have HE:=zh ((Ext.refl w).alloc' (.cells (opA R) 52))
 have e3:(R.k == 3)=false:=gj
 have e4:(R.k == 4)=false:=gj
 have e5:(R.k == 5)=false:=gj
 have e6:(R.k == 6)=false:=gj
 have d3:decide (R.k=3)=false:=gj
 have d4:decide (R.k=4)=false:=gj
 have d5:decide (R.k=5)=false:=gj
 have d6:decide (R.k=6)=false:=gj
 by_cases h1:1≤R.k
 ·have g1 : decide (R.k ≤ 4) = false := decide_eq_false aa
  have g2:decide (R.k≤5)=false:=decide_eq_false aa
  clear h
  exact yc
 have g1:decide (1≤R.k)=false:=decide_eq_false h1
 clear h h1
 exact yc
theorem wU (R:OpR) (w:World) (hR:R.ok w) :
  Calls prog 87 #[.agg (opA R)] w fun e w'=>e=.returned (.bool (vOp R))∧Ext w w':=by
 have l1:(R.n1:Int)≤9223372036854775807:=ec
 have l2:(R.n2:Int)≤9223372036854775807:=eb
 obtain ⟨k,tO,am,ul,va,lk,hs,A1,n1,c1,pre,A2,n2,c2,prf⟩:=R
 by_cases h:1≤k∧k≤6
 ·exact zI k tO am ul va lk hs A1 n1 c1 pre A2 n2 c2 prf w l1 l2 aa
 rw [aIa (R:=⟨k,tO,am,ul,va,lk,hs,A1,n1,c1,pre,A2,n2,c2,prf⟩) h];exact zH _ h w
theorem vC (A:Option Addr) (n c:Nat) (l:List UInt8) (z:Int) (wd:Nat) (hwd1:1≤wd) (hwd:wd≤8) (w:World) (h:SlB w A n c l) (hn:n≤140737488351232) :
  Calls prog 208 #[.slice A n c,.int .u64 (un (uI z)),.int .i64 (wd:Int)] w fun e w'=>∃ A' c',e=.returned (.slice A' (n+wd) c')∧OwnB w' w.heap.size 5 A' (n+wd) c' (l ++ beI wd z)∧Ext w w':=by
 have:=lR A n c l (uI z) wd hwd1 hwd w h hn
 rw [aEu] at this;exact this
theorem qL (A:Option Addr) (n c:Nat) (l:List UInt8) (P:Option Addr) (m d:Nat) (p:List UInt8) (w:World) (h:SlB w A n c l) (hp:SlB w P m d p) (hm:m≤65535) (hn:n≤1000000000) :
  Calls prog 234 #[.slice A n c,.slice P m d] w fun e w'=>∃ A' n' c',e=.returned (.tuple #[.slice A' n' c',.bool true])∧OwnB w' w.heap.size 5 A' n' c' (l ++ uA p)∧Ext w w':=by
 have hu:=pP (m:Int)
 have hlen:=hp.len
 have HA:=zh (vC A n c l (m:Int) 2 aa aa w h aa)
 have HP:=zh hp
 have HB:=zh (show uA p=beI 2 (m:Int) ++ p by unfold uA;rw [hlen])
 have d1:decide (65535 < (m:Int))=false:=decide_eq_false aa
 clear h hp hlen
 generalize uI (m:Int)=u at *
 go_enter func234,ntmps234
 exact u7
theorem wW (A:Option Addr) (n c:Nat) (l:List UInt8) (P:Option Addr) (m d:Nat) (p:List UInt8) (w:World) (h:SlB w A n c l) (hp:SlB w P m d p) (hm:m≤65535) (hn:n≤1000000000) :
  Calls prog 209 #[.slice A n c,.slice P m d] w fun e w'=>∃ A' n' c',e=.returned (.slice A' n' c')∧OwnB w' w.heap.size 5 A' n' c' (l ++ uA p)∧Ext w w':=by
 have HA:=zh (qL A n c l P m d p w h hp hm hn)
 clear h hp
 go_enter func209,ntmps209
 go_wp2_with fail
 refine HA.out.mono ?_
 rintro e w1 ⟨A1,n1,c1,rfl,hO1,he1⟩
 go_wp2_with fail
 go_ret
 exact ⟨A1,n1,c1,rfl,hO1,he1⟩
theorem jZ (A:Option Addr) (n c:Nat) (l:List UInt8) (z:Int) (w:World) (h:SlB w A n c l) (hn:n≤140737488351232) :
  Calls prog 151 #[.slice A n c,.int .i64 z,.int .i64 6] w fun e w'=>∃ A' c',e=.returned (.slice A' (n+6) c')∧OwnB w' w.heap.size 5 A' (n+6) c' (l ++ beI 6 z)∧Ext w w':=qK A n c l z 6 (by omega) (by omega) w h hn
theorem aCY (A:Option Addr) (n c:Nat) (l:List UInt8) (z:Int) (w:World) (h:SlB w A n c l) (hn:n≤140737488351232) :
  Calls prog 151 #[.slice A n c,.int .i64 z,.int .i64 2] w fun e w'=>∃ A' c',e=.returned (.slice A' (n+2) c')∧OwnB w' w.heap.size 5 A' (n+2) c' (l ++ beI 2 z)∧Ext w w':=qK A n c l z 2 (by omega) (by omega) w h hn
theorem aHf {R:OpR} {w w':World} (h:R.ok w) (e:Ext w w'):SlB w' R.A1 R.n1 R.c1 R.pre:=h.pre.ext e
theorem aHe {R:OpR} {w w':World} (h:R.ok w) (e:Ext w w'):SlB w' R.A2 R.n2 R.c2 R.prf:=h.prf.ext e
theorem zU (R:OpR) (h:R.k=1) (hv:vOp R=true) (A:Option Addr) (n c:Nat) (l:List UInt8) (w:World) (hR:R.ok w) (hS:SlB w A n c l) (hn:n≤1000000) :
  Calls prog 152 #[.slice A n c,.agg (opA R)] w fun e w'=>∃ A' n' c',e=.returned (.slice A' n' c')∧OwnB w' w.heap.size 5 A' n' c' (l ++ dT R)∧Ext w w':=by
 have HEN:=zh (aBW h)
 have hA:=(Ext.refl w).alloc' (.cells (opA R) 52)
 have HA:=zh hA
 have HB:=zh (Blk.new w 52 (opA R))
 have HR:=zh (hR.ext hA)
 have HS:=zh (hS.ext hA)
 have HN1:=zh (cF A n c l R.k _ HS.out aa)
 have q0:(w.alloc (.cells (opA R) 52)).cell? ⟨w.heap.size,0,none⟩=some (.int .i64 R.k):=HB.out.cell 0
 have HK:=zh h
 clear hR hS hv hA h
 go_enter func152,ntmps152
 go_wp2_with fail
 refine HN1.out.mono ?_
 rintro e w1 ⟨A1,c1,rfl,hO1,he1⟩
 have hk:=HK.out
 have q1:w1.cell? ⟨w.heap.size,0,none⟩=some (.int .i64 1):=df
 have HQ:=zh (fun (W:World) (h:Ext w1 W)=>show W.cell? ⟨w.heap.size,1,none⟩=some (.int .i64 R.tO)∧W.cell? ⟨w.heap.size,2,none⟩=some (.int .i64 R.am) from ⟨((HB.out.ext he1).ext h).cell 1,((HB.out.ext he1).ext h).cell 2⟩)
 have HX1:=zh (HA.out.trans he1)
 have HS1:=zh (hO1.sl.ext (Ext.refl w1).drew')
 have HRR:=zh (fun (W:World) (h:Ext w1 W)=>(HR.out.ext he1).ext h)
 have hXd:=(Ext.refl w1).drew'
 clear hO1 he1 HN1 HS q0 hk
 go_wp2_with fail
 clear q1
 go_region_held3 (fun w'=>w'.cell? ⟨w.heap.size,1,none⟩=some (.int .i64 R.tO)∧w'.cell? ⟨w.heap.size,2,none⟩=some (.int .i64 R.am)) (first | (with_reducible exact HQ.out _ hXd) | (with_reducible exact HQ.out _ hX2) | (with_reducible exact HQ.out _ hX3) | fail "CELLS") (first | (go_at_call 151;(with_reducible refine (cF _ _ _ _ R.tO _ HS1.out aa).mono ?_);rintro e w2 ⟨A2,c2,rfl,hO2,he2⟩;have hX2:=Ext.trans hXd he2;have HS2:=zh hO2.sl;clear hO2 he2) | (go_at_call 151;(with_reducible refine (jZ _ _ _ _ R.am _ HS2.out aa).mono ?_);rintro e w3 ⟨A3,c3,rfl,hO3,he3⟩;have hX3:=Ext.trans hX2 he3;have HS3:=zh hO3.sl;have HOz:=zh (bA hO3 hX2.size);clear hO3 he3) | fail "ARM")
 all_goals (
  exact xk)
theorem zT (R:OpR) (h:R.k=2) (hv:vOp R=true) (A:Option Addr) (n c:Nat) (l:List UInt8) (w:World) (hR:R.ok w) (hS:SlB w A n c l) (hn:n≤1000000) :
  Calls prog 152 #[.slice A n c,.agg (opA R)] w fun e w'=>∃ A' n' c',e=.returned (.slice A' n' c')∧OwnB w' w.heap.size 5 A' n' c' (l ++ dT R)∧Ext w w':=by
 have HEN:=zh (aBV h)
 have hA:=(Ext.refl w).alloc' (.cells (opA R) 52)
 have HA:=zh hA
 have HB:=zh (Blk.new w 52 (opA R))
 have HR:=zh (hR.ext hA)
 have HS:=zh (hS.ext hA)
 have HN1:=zh (cF A n c l R.k _ HS.out aa)
 have q0:(w.alloc (.cells (opA R) 52)).cell? ⟨w.heap.size,0,none⟩=some (.int .i64 R.k):=HB.out.cell 0
 have HK:=zh h
 clear hR hS hv hA h
 go_enter func152,ntmps152
 go_wp2_with fail
 refine HN1.out.mono ?_
 rintro e w1 ⟨A1,c1,rfl,hO1,he1⟩
 have hk:=HK.out
 have q1:w1.cell? ⟨w.heap.size,0,none⟩=some (.int .i64 2):=df
 have HQ:=zh (fun (W:World) (h:Ext w1 W)=>show W.cell? ⟨w.heap.size,1,none⟩=some (.int .i64 R.tO)∧W.cell? ⟨w.heap.size,2,none⟩=some (.int .i64 R.am)∧W.cell? ⟨w.heap.size,3,none⟩=some (.int .i64 R.ul)∧W.cell? ⟨w.heap.size,13,none⟩=some (.int .u8 (nb8 R.hs 0))∧W.cell? ⟨w.heap.size,14,none⟩=some (.int .u8 (nb8 R.hs 1))∧W.cell? ⟨w.heap.size,15,none⟩=some (.int .u8 (nb8 R.hs 2))∧W.cell? ⟨w.heap.size,16,none⟩=some (.int .u8 (nb8 R.hs 3))∧W.cell? ⟨w.heap.size,17,none⟩=some (.int .u8 (nb8 R.hs 4))∧W.cell? ⟨w.heap.size,18,none⟩=some (.int .u8 (nb8 R.hs 5))∧W.cell? ⟨w.heap.size,19,none⟩=some (.int .u8 (nb8 R.hs 6))∧W.cell? ⟨w.heap.size,20,none⟩=some (.int .u8 (nb8 R.hs 7)) from ⟨((HB.out.ext he1).ext h).cell 1,((HB.out.ext he1).ext h).cell 2,((HB.out.ext he1).ext h).cell 3,((HB.out.ext he1).ext h).cell 13,((HB.out.ext he1).ext h).cell 14,((HB.out.ext he1).ext h).cell 15,((HB.out.ext he1).ext h).cell 16,((HB.out.ext he1).ext h).cell 17,((HB.out.ext he1).ext h).cell 18,((HB.out.ext he1).ext h).cell 19,((HB.out.ext he1).ext h).cell 20⟩)
 have HX1:=zh (HA.out.trans he1)
 have HS1:=zh (hO1.sl.ext (Ext.refl w1).drew')
 have HRR:=zh (fun (W:World) (h:Ext w1 W)=>(HR.out.ext he1).ext h)
 have hXd:=(Ext.refl w1).drew'
 clear hO1 he1 HN1 HS q0 hk
 go_wp2_with fail
 clear q1
 go_region_held3 (fun w'=>w'.cell? ⟨w.heap.size,1,none⟩=some (.int .i64 R.tO)∧w'.cell? ⟨w.heap.size,2,none⟩=some (.int .i64 R.am)∧w'.cell? ⟨w.heap.size,3,none⟩=some (.int .i64 R.ul)∧w'.cell? ⟨w.heap.size,13,none⟩=some (.int .u8 (nb8 R.hs 0))∧w'.cell? ⟨w.heap.size,14,none⟩=some (.int .u8 (nb8 R.hs 1))∧w'.cell? ⟨w.heap.size,15,none⟩=some (.int .u8 (nb8 R.hs 2))∧w'.cell? ⟨w.heap.size,16,none⟩=some (.int .u8 (nb8 R.hs 3))∧w'.cell? ⟨w.heap.size,17,none⟩=some (.int .u8 (nb8 R.hs 4))∧w'.cell? ⟨w.heap.size,18,none⟩=some (.int .u8 (nb8 R.hs 5))∧w'.cell? ⟨w.heap.size,19,none⟩=some (.int .u8 (nb8 R.hs 6))∧w'.cell? ⟨w.heap.size,20,none⟩=some (.int .u8 (nb8 R.hs 7))) (first | (with_reducible exact HQ.out _ hXd) | (with_reducible exact HQ.out _ hX2) | (with_reducible exact HQ.out _ hX3) | (with_reducible exact HQ.out _ hX4) | (with_reducible exact HQ.out _ hX5) | fail "CELLS") (first | (go_at_call 151;(with_reducible refine (cF _ _ _ _ R.tO _ HS1.out aa).mono ?_);rintro e w2 ⟨A2,c2,rfl,hO2,he2⟩;have hX2:=Ext.trans hXd he2;have HS2:=zh hO2.sl;clear hO2 he2) | (go_at_call 151;(with_reducible refine (jZ _ _ _ _ R.am _ HS2.out aa).mono ?_);rintro e w3 ⟨A3,c3,rfl,hO3,he3⟩;have hX3:=Ext.trans hX2 he3;have HS3:=zh hO3.sl;clear hO3 he3) | (go_at_call 151;(with_reducible refine (aCY _ _ _ _ R.ul _ HS3.out aa).mono ?_);rintro e w4 ⟨A4,c4,rfl,hO4,he4⟩;have hX4:=Ext.trans hX3 he4;have HS4:=zh hO4.sl;clear hO4 he4) | (go_at_call 160;(with_reducible refine (pE _ _ _ _ R.hs _ HS4.out aa).mono ?_);rintro e w5 ⟨A5,c5,rfl,hO5,he5⟩;have hX5:=Ext.trans hX4 he5;have HS5:=zh hO5.sl;have HOz:=zh (bA hO5 hX4.size);clear hO5 he5) | fail "ARM")
 all_goals (
  exact xh)
theorem zS (R:OpR) (h:R.k=3) (hv:vOp R=true) (A:Option Addr) (n c:Nat) (l:List UInt8) (w:World) (hR:R.ok w) (hS:SlB w A n c l) (hn:n≤1000000) :
  Calls prog 152 #[.slice A n c,.agg (opA R)] w fun e w'=>∃ A' n' c',e=.returned (.slice A' n' c')∧OwnB w' w.heap.size 5 A' n' c' (l ++ dT R)∧Ext w w':=by
 have HEN:=zh (aBU h)
 have b1:=aAZ hv
 have hA:=(Ext.refl w).alloc' (.cells (opA R) 52)
 have HA:=zh hA
 have HB:=zh (Blk.new w 52 (opA R))
 have HR:=zh (hR.ext hA)
 have HS:=zh (hS.ext hA)
 have HN1:=zh (cF A n c l R.k _ HS.out aa)
 have q0:(w.alloc (.cells (opA R) 52)).cell? ⟨w.heap.size,0,none⟩=some (.int .i64 R.k):=HB.out.cell 0
 have HK:=zh h
 clear hR hS hv hA h
 go_enter func152,ntmps152
 go_wp2_with fail
 refine HN1.out.mono ?_
 rintro e w1 ⟨A1,c1,rfl,hO1,he1⟩
 have hk:=HK.out
 have q1:w1.cell? ⟨w.heap.size,0,none⟩=some (.int .i64 3):=df
 have HQ:=zh (fun (W:World) (h:Ext w1 W)=>show W.cell? ⟨w.heap.size,1,none⟩=some (.int .i64 R.tO)∧W.cell? ⟨w.heap.size,2,none⟩=some (.int .i64 R.am)∧W.cell? ⟨w.heap.size,5,none⟩=some (.int .u8 (nb8 R.lk 0))∧W.cell? ⟨w.heap.size,6,none⟩=some (.int .u8 (nb8 R.lk 1))∧W.cell? ⟨w.heap.size,7,none⟩=some (.int .u8 (nb8 R.lk 2))∧W.cell? ⟨w.heap.size,8,none⟩=some (.int .u8 (nb8 R.lk 3))∧W.cell? ⟨w.heap.size,9,none⟩=some (.int .u8 (nb8 R.lk 4))∧W.cell? ⟨w.heap.size,10,none⟩=some (.int .u8 (nb8 R.lk 5))∧W.cell? ⟨w.heap.size,11,none⟩=some (.int .u8 (nb8 R.lk 6))∧W.cell? ⟨w.heap.size,12,none⟩=some (.int .u8 (nb8 R.lk 7))∧W.cell? ⟨w.heap.size,21,none⟩=some (.slice R.A1 R.n1 R.c1) from ⟨((HB.out.ext he1).ext h).cell 1,((HB.out.ext he1).ext h).cell 2,((HB.out.ext he1).ext h).cell 5,((HB.out.ext he1).ext h).cell 6,((HB.out.ext he1).ext h).cell 7,((HB.out.ext he1).ext h).cell 8,((HB.out.ext he1).ext h).cell 9,((HB.out.ext he1).ext h).cell 10,((HB.out.ext he1).ext h).cell 11,((HB.out.ext he1).ext h).cell 12,((HB.out.ext he1).ext h).cell 21⟩)
 have HX1:=zh (HA.out.trans he1)
 have HS1:=zh (hO1.sl.ext (Ext.refl w1).drew')
 have HRR:=zh (fun (W:World) (h:Ext w1 W)=>(HR.out.ext he1).ext h)
 have hXd:=(Ext.refl w1).drew'
 clear hO1 he1 HN1 HS q0 hk
 go_wp2_with fail
 clear q1
 go_region_held3 (fun w'=>w'.cell? ⟨w.heap.size,1,none⟩=some (.int .i64 R.tO)∧w'.cell? ⟨w.heap.size,2,none⟩=some (.int .i64 R.am)∧w'.cell? ⟨w.heap.size,5,none⟩=some (.int .u8 (nb8 R.lk 0))∧w'.cell? ⟨w.heap.size,6,none⟩=some (.int .u8 (nb8 R.lk 1))∧w'.cell? ⟨w.heap.size,7,none⟩=some (.int .u8 (nb8 R.lk 2))∧w'.cell? ⟨w.heap.size,8,none⟩=some (.int .u8 (nb8 R.lk 3))∧w'.cell? ⟨w.heap.size,9,none⟩=some (.int .u8 (nb8 R.lk 4))∧w'.cell? ⟨w.heap.size,10,none⟩=some (.int .u8 (nb8 R.lk 5))∧w'.cell? ⟨w.heap.size,11,none⟩=some (.int .u8 (nb8 R.lk 6))∧w'.cell? ⟨w.heap.size,12,none⟩=some (.int .u8 (nb8 R.lk 7))∧w'.cell? ⟨w.heap.size,21,none⟩=some (.slice R.A1 R.n1 R.c1)) (first | (with_reducible exact HQ.out _ hXd) | (with_reducible exact HQ.out _ hX2) | (with_reducible exact HQ.out _ hX3) | (with_reducible exact HQ.out _ hX4) | (with_reducible exact HQ.out _ hX5) | fail "CELLS") (first | (go_at_call 151;(with_reducible refine (cF _ _ _ _ R.tO _ HS1.out aa).mono ?_);rintro e w2 ⟨A2,c2,rfl,hO2,he2⟩;have hX2:=Ext.trans hXd he2;have HS2:=zh hO2.sl;clear hO2 he2) | (go_at_call 151;(with_reducible refine (jZ _ _ _ _ R.am _ HS2.out aa).mono ?_);rintro e w3 ⟨A3,c3,rfl,hO3,he3⟩;have hX3:=Ext.trans hX2 he3;have HS3:=zh hO3.sl;clear hO3 he3) | (go_at_call 160;(with_reducible refine (pE _ _ _ _ R.lk _ HS3.out aa).mono ?_);rintro e w4 ⟨A4,c4,rfl,hO4,he4⟩;have hX4:=Ext.trans hX3 he4;have HS4:=zh hO4.sl;clear hO4 he4) | (go_at_call 209;(with_reducible refine (wW _ _ _ _ _ _ _ R.pre _ HS4.out (aHf (HRR.out _ hX4) (Ext.refl _)) aa aa).mono ?_);rintro e w5 ⟨A5,n5,c5,rfl,hO5,he5⟩;have hX5:=Ext.trans hX4 he5;have HS5:=zh hO5.sl;have HOz:=zh (bA hO5 hX4.size);clear hO5 he5) | fail "ARM")
 all_goals (
  exact xh)
theorem zR (R:OpR) (h:R.k=4) (hv:vOp R=true) (A:Option Addr) (n c:Nat) (l:List UInt8) (w:World) (hR:R.ok w) (hS:SlB w A n c l) (hn:n≤1000000) :
  Calls prog 152 #[.slice A n c,.agg (opA R)] w fun e w'=>∃ A' n' c',e=.returned (.slice A' n' c')∧OwnB w' w.heap.size 5 A' n' c' (l ++ dT R)∧Ext w w':=by
 have HEN:=zh (aBT h)
 have hA:=(Ext.refl w).alloc' (.cells (opA R) 52)
 have HA:=zh hA
 have HB:=zh (Blk.new w 52 (opA R))
 have HR:=zh (hR.ext hA)
 have HS:=zh (hS.ext hA)
 have HN1:=zh (cF A n c l R.k _ HS.out aa)
 have q0:(w.alloc (.cells (opA R) 52)).cell? ⟨w.heap.size,0,none⟩=some (.int .i64 R.k):=HB.out.cell 0
 have HK:=zh h
 clear hR hS hv hA h
 go_enter func152,ntmps152
 go_wp2_with fail
 refine HN1.out.mono ?_
 rintro e w1 ⟨A1,c1,rfl,hO1,he1⟩
 have hk:=HK.out
 have q1:w1.cell? ⟨w.heap.size,0,none⟩=some (.int .i64 4):=df
 have HQ:=zh (fun (W:World) (h:Ext w1 W)=>show W.cell? ⟨w.heap.size,1,none⟩=some (.int .i64 R.tO)∧W.cell? ⟨w.heap.size,2,none⟩=some (.int .i64 R.am)∧W.cell? ⟨w.heap.size,5,none⟩=some (.int .u8 (nb8 R.lk 0))∧W.cell? ⟨w.heap.size,6,none⟩=some (.int .u8 (nb8 R.lk 1))∧W.cell? ⟨w.heap.size,7,none⟩=some (.int .u8 (nb8 R.lk 2))∧W.cell? ⟨w.heap.size,8,none⟩=some (.int .u8 (nb8 R.lk 3))∧W.cell? ⟨w.heap.size,9,none⟩=some (.int .u8 (nb8 R.lk 4))∧W.cell? ⟨w.heap.size,10,none⟩=some (.int .u8 (nb8 R.lk 5))∧W.cell? ⟨w.heap.size,11,none⟩=some (.int .u8 (nb8 R.lk 6))∧W.cell? ⟨w.heap.size,12,none⟩=some (.int .u8 (nb8 R.lk 7)) from ⟨((HB.out.ext he1).ext h).cell 1,((HB.out.ext he1).ext h).cell 2,((HB.out.ext he1).ext h).cell 5,((HB.out.ext he1).ext h).cell 6,((HB.out.ext he1).ext h).cell 7,((HB.out.ext he1).ext h).cell 8,((HB.out.ext he1).ext h).cell 9,((HB.out.ext he1).ext h).cell 10,((HB.out.ext he1).ext h).cell 11,((HB.out.ext he1).ext h).cell 12⟩)
 have HX1:=zh (HA.out.trans he1)
 have HS1:=zh (hO1.sl.ext (Ext.refl w1).drew')
 have HRR:=zh (fun (W:World) (h:Ext w1 W)=>(HR.out.ext he1).ext h)
 have hXd:=(Ext.refl w1).drew'
 clear hO1 he1 HN1 HS q0 hk
 go_wp2_with fail
 clear q1
 go_region_held3 (fun w'=>w'.cell? ⟨w.heap.size,1,none⟩=some (.int .i64 R.tO)∧w'.cell? ⟨w.heap.size,2,none⟩=some (.int .i64 R.am)∧w'.cell? ⟨w.heap.size,5,none⟩=some (.int .u8 (nb8 R.lk 0))∧w'.cell? ⟨w.heap.size,6,none⟩=some (.int .u8 (nb8 R.lk 1))∧w'.cell? ⟨w.heap.size,7,none⟩=some (.int .u8 (nb8 R.lk 2))∧w'.cell? ⟨w.heap.size,8,none⟩=some (.int .u8 (nb8 R.lk 3))∧w'.cell? ⟨w.heap.size,9,none⟩=some (.int .u8 (nb8 R.lk 4))∧w'.cell? ⟨w.heap.size,10,none⟩=some (.int .u8 (nb8 R.lk 5))∧w'.cell? ⟨w.heap.size,11,none⟩=some (.int .u8 (nb8 R.lk 6))∧w'.cell? ⟨w.heap.size,12,none⟩=some (.int .u8 (nb8 R.lk 7))) (first | (with_reducible exact HQ.out _ hXd) | (with_reducible exact HQ.out _ hX2) | (with_reducible exact HQ.out _ hX3) | (with_reducible exact HQ.out _ hX4) | fail "CELLS") (first | (go_at_call 151;(with_reducible refine (cF _ _ _ _ R.tO _ HS1.out aa).mono ?_);rintro e w2 ⟨A2,c2,rfl,hO2,he2⟩;have hX2:=Ext.trans hXd he2;have HS2:=zh hO2.sl;clear hO2 he2) | (go_at_call 151;(with_reducible refine (jZ _ _ _ _ R.am _ HS2.out aa).mono ?_);rintro e w3 ⟨A3,c3,rfl,hO3,he3⟩;have hX3:=Ext.trans hX2 he3;have HS3:=zh hO3.sl;clear hO3 he3) | (go_at_call 160;(with_reducible refine (pE _ _ _ _ R.lk _ HS3.out aa).mono ?_);rintro e w4 ⟨A4,c4,rfl,hO4,he4⟩;have hX4:=Ext.trans hX3 he4;have HS4:=zh hO4.sl;have HOz:=zh (bA hO4 hX3.size);clear hO4 he4) | fail "ARM")
 all_goals (
  have HXz:=zh hX4
  clear hXd hX2 hX3 hX4
  go_wp2_with fail
  go_ret
  refine ⟨A4,_,c4,rfl,bA (base:=w1.heap.size) ?_ HX1.out.size,HX1.out.trans HXz.out⟩
  rw [HEN.out];simpa using HOz.out)
theorem zQ (R:OpR) (h:R.k=5) (hv:vOp R=true) (A:Option Addr) (n c:Nat) (l:List UInt8) (w:World) (hR:R.ok w) (hS:SlB w A n c l) (hn:n≤1000000) :
  Calls prog 152 #[.slice A n c,.agg (opA R)] w fun e w'=>∃ A' n' c',e=.returned (.slice A' n' c')∧OwnB w' w.heap.size 5 A' n' c' (l ++ dT R)∧Ext w w':=by
 have HEN:=zh (aBS h)
 have hA:=(Ext.refl w).alloc' (.cells (opA R) 52)
 have HA:=zh hA
 have HB:=zh (Blk.new w 52 (opA R))
 have HR:=zh (hR.ext hA)
 have HS:=zh (hS.ext hA)
 have HN1:=zh (cF A n c l R.k _ HS.out aa)
 have q0:(w.alloc (.cells (opA R) 52)).cell? ⟨w.heap.size,0,none⟩=some (.int .i64 R.k):=HB.out.cell 0
 have HK:=zh h
 clear hR hS hv hA h
 go_enter func152,ntmps152
 go_wp2_with fail
 refine HN1.out.mono ?_
 rintro e w1 ⟨A1,c1,rfl,hO1,he1⟩
 have hk:=HK.out
 have q1:w1.cell? ⟨w.heap.size,0,none⟩=some (.int .i64 5):=df
 have HQ:=zh (fun (W:World) (h:Ext w1 W)=>show W.cell? ⟨w.heap.size,4,none⟩=some (.int .i64 R.va)∧W.cell? ⟨w.heap.size,2,none⟩=some (.int .i64 R.am) from ⟨((HB.out.ext he1).ext h).cell 4,((HB.out.ext he1).ext h).cell 2⟩)
 have HX1:=zh (HA.out.trans he1)
 have HS1:=zh (hO1.sl.ext (Ext.refl w1).drew')
 have HRR:=zh (fun (W:World) (h:Ext w1 W)=>(HR.out.ext he1).ext h)
 have hXd:=(Ext.refl w1).drew'
 clear hO1 he1 HN1 HS q0 hk
 go_wp2_with fail
 clear q1
 go_region_held3 (fun w'=>w'.cell? ⟨w.heap.size,4,none⟩=some (.int .i64 R.va)∧w'.cell? ⟨w.heap.size,2,none⟩=some (.int .i64 R.am)) (first | (with_reducible exact HQ.out _ hXd) | (with_reducible exact HQ.out _ hX2) | (with_reducible exact HQ.out _ hX3) | fail "CELLS") (first | (go_at_call 151;(with_reducible refine (cF _ _ _ _ R.va _ HS1.out aa).mono ?_);rintro e w2 ⟨A2,c2,rfl,hO2,he2⟩;have hX2:=Ext.trans hXd he2;have HS2:=zh hO2.sl;clear hO2 he2) | (go_at_call 151;(with_reducible refine (jZ _ _ _ _ R.am _ HS2.out aa).mono ?_);rintro e w3 ⟨A3,c3,rfl,hO3,he3⟩;have hX3:=Ext.trans hX2 he3;have HS3:=zh hO3.sl;have HOz:=zh (bA hO3 hX2.size);clear hO3 he3) | fail "ARM")
 all_goals (
  exact xk)
theorem zP (R:OpR) (h:R.k=6) (hv:vOp R=true) (A:Option Addr) (n c:Nat) (l:List UInt8) (w:World) (hR:R.ok w) (hS:SlB w A n c l) (hn:n≤1000000) :
  Calls prog 152 #[.slice A n c,.agg (opA R)] w fun e w'=>∃ A' n' c',e=.returned (.slice A' n' c')∧OwnB w' w.heap.size 5 A' n' c' (l ++ dT R)∧Ext w w':=by
 have HEN:=zh (aBR h)
 have b2:=aAY hv
 have hA:=(Ext.refl w).alloc' (.cells (opA R) 52)
 have HA:=zh hA
 have HB:=zh (Blk.new w 52 (opA R))
 have HR:=zh (hR.ext hA)
 have HS:=zh (hS.ext hA)
 have HN1:=zh (cF A n c l R.k _ HS.out aa)
 have q0:(w.alloc (.cells (opA R) 52)).cell? ⟨w.heap.size,0,none⟩=some (.int .i64 R.k):=HB.out.cell 0
 have HK:=zh h
 clear hR hS hv hA h
 go_enter func152,ntmps152
 go_wp2_with fail
 refine HN1.out.mono ?_
 rintro e w1 ⟨A1,c1,rfl,hO1,he1⟩
 have hk:=HK.out
 have q1:w1.cell? ⟨w.heap.size,0,none⟩=some (.int .i64 6):=df
 have HQ:=zh (fun (W:World) (h:Ext w1 W)=>show W.cell? ⟨w.heap.size,4,none⟩=some (.int .i64 R.va)∧W.cell? ⟨w.heap.size,22,none⟩=some (.slice R.A2 R.n2 R.c2) from ⟨((HB.out.ext he1).ext h).cell 4,((HB.out.ext he1).ext h).cell 22⟩)
 have HX1:=zh (HA.out.trans he1)
 have HS1:=zh (hO1.sl.ext (Ext.refl w1).drew')
 have HRR:=zh (fun (W:World) (h:Ext w1 W)=>(HR.out.ext he1).ext h)
 have hXd:=(Ext.refl w1).drew'
 clear hO1 he1 HN1 HS q0 hk
 go_wp2_with fail
 clear q1
 go_region_held3 (fun w'=>w'.cell? ⟨w.heap.size,4,none⟩=some (.int .i64 R.va)∧w'.cell? ⟨w.heap.size,22,none⟩=some (.slice R.A2 R.n2 R.c2)) (first | (with_reducible exact HQ.out _ hXd) | (with_reducible exact HQ.out _ hX2) | (with_reducible exact HQ.out _ hX3) | fail "CELLS") (first | (go_at_call 151;(with_reducible refine (cF _ _ _ _ R.va _ HS1.out aa).mono ?_);rintro e w2 ⟨A2,c2,rfl,hO2,he2⟩;have hX2:=Ext.trans hXd he2;have HS2:=zh hO2.sl;clear hO2 he2) | (go_at_call 209;(with_reducible refine (wW _ _ _ _ _ _ _ R.prf _ HS2.out (aHe (HRR.out _ hX2) (Ext.refl _)) aa aa).mono ?_);rintro e w3 ⟨A3,n3,c3,rfl,hO3,he3⟩;have hX3:=Ext.trans hX2 he3;have HS3:=zh hO3.sl;have HOz:=zh (bA hO3 hX2.size);clear hO3 he3) | fail "ARM")
 all_goals (
  exact xk)
theorem vD (R:OpR) (hv:vOp R=true) (A:Option Addr) (n c:Nat) (l:List UInt8) (w:World) (hR:R.ok w) (hS:SlB w A n c l) (hn:n≤1000000) :
  Calls prog 152 #[.slice A n c,.agg (opA R)] w fun e w'=>∃ A' n' c',e=.returned (.slice A' n' c')∧OwnB w' w.heap.size 5 A' n' c' (l ++ dT R)∧Ext w w':=by
 rcases lI R.k with h | h | h | h | h | h | h
 ·exact zU R h hv A n c l w hR hS hn
 ·exact zT R h hv A n c l w hR hS hn
 ·exact zS R h hv A n c l w hR hS hn
 ·exact zR R h hv A n c l w hR hS hn
 ·exact zQ R h hv A n c l w hR hS hn
 ·exact zP R h hv A n c l w hR hS hn
 exact absurd (wJ hv) h
theorem gT {w:World} {g:Nat} {t:TypeId} {ac sq:Int} {A:Option Addr} {n c:Nat} (h:Blk w g t (txA ac sq A n c)):w.cell? ⟨g,0,none⟩=some (.int .i64 ac)∧w.cell? ⟨g,1,none⟩=some (.int .i64 sq)∧w.cell? ⟨g,2,none⟩=some (.slice A n c) :=
 ⟨h.cell 0,h.cell 1,h.cell 2⟩
theorem zG (ac sq:Int) (A:Option Addr) (n c:Nat) (L:List OpR) (w:World) (hS:SlO w A n c L) (hh:0≤ac∧ac≤15∧0≤sq∧sq≤31∧1≤n∧n≤4) :
  Calls prog 33 #[.agg (txA ac sq A n c)] w fun e w'=>e=.returned (.bool (vTx ac sq L))∧Ext w w':=by
 have hle:=hS.le
 have hcap:=hS.cap
 have HLEN:=zh hS.len
 have hE:=(Ext.refl w).alloc' (.cells (txA ac sq A n c) 33)
 have HE:=zh hE
 have HS:=zh hS
 have HB:=zh (Blk.new w 33 (txA ac sq A n c))
 have HH:=zh (show wK ac sq L.length=true by rw [HLEN.out];exact decide_eq_true hh)
 have W1:=zh (fun W=>iA ac 0 15 aa W)
 have W2:=zh (fun W=>iA sq 0 31 aa W)
 have W3:=zh (fun W=>iA (n:Int) 1 4 aa W)
 have hn4:n≤4:=aa
 obtain ⟨b,o,rfl,hr,hb⟩:=HS.out.at aa
 have HR:=zh hr
 have HBL:=zh hb
 clear hr hb hh hS hE
 go_enter func33,ntmps33
 go_wp2_with (go_at_call 86;(first | (with_reducible refine (W1.out _).mono ?_) | (with_reducible refine (W2.out _).mono ?_) | (with_reducible refine (W3.out _).mono ?_));rintro e wv ⟨rfl,rfl⟩)
 go_loopw [3] (fun i wr=>∃ k:Nat,k≤n∧i=.int .i64 (k:Int)∧Hid (∀ j,j < k→vOp (bR L j)=true)∧Hid (Ext (w.alloc (.cells (txA ac sq (some ⟨b,o,none⟩) n c) 33)) wr)) (fun i _=>n - (intOf i).toNat)
 case atStart=>exact ⟨0,Nat.zero_le _,rfl,zh (fun j hj=>aa),zh (Ext.refl _)⟩
 case round =>
  obtain ⟨k,hk,rfl,HP,HX0⟩:=hrel
  have HX:=zh (HE.out.trans HX0.out)
  have q2:=(gT (HB.out.ext HX0.out)).2.2
  by_cases hlt:k < n
  ·have hr := sA (aY HR.out (HX.out.block b HBL.out)) (k := k) fk
   have HQ:=zh (fun (hx:vOp (bR L k)=true)=>show ∀ j,j < k+1→vOp (bR L j)=true from fun j hj=>by
    exact Bg)
   have HN:=zh (fun (hx:vOp (bR L k)=false)=>aHZ (ac:=ac) (sq:=sq) ak hx)
   have HOK:=zh ((HS.out.nth hlt).ext HX.out)
   have i0:(0:Int)≤(k:Int):=aa
   have i1:(k:Int) < (n:Int):=aa
   obtain ⟨R,hR⟩:=gx (bR L k)
   rw [hR] at hr HQ HN HOK
   clear hR
   go_wp2_with (first | (with_reducible refine gC rfl (.tmp 31) rfl b (o+k * 23) rfl R hr ?_))
   refine zcl (wU R _ HOK.out) fun w1 he1=>?_
   have HX1:=zh (HX0.out.trans he1)
   have HY1:=zh (HX.out.trans he1)
   clear he1 hr q2
   cases hv:vOp R with
   | true =>
    have HQ':=zh (HQ.out hv)
    clear hv
    go_wp2_with fail
    go_roundw
    case rel=>exact ⟨k+1,aa,ar,HQ',HX1⟩
    case measure=>simp [intOf];omega
   | false =>
    have HN':=zh (HN.out hv)
    clear hv
    go_wp2_with fail
    go_ret
    exact ⟨by rw [HN'.out];rfl,HY1.out⟩
  exact xo
theorem wT (ac sq:Int) (A:Option Addr) (n c:Nat) (L:List OpR) (w:World) (hS:SlO w A n c L) (hh:¬ (0≤ac∧ac≤15∧0≤sq∧sq≤31∧1≤n∧n≤4)) :
  Calls prog 33 #[.agg (txA ac sq A n c)] w fun e w'=>e=.returned (.bool (vTx ac sq L))∧Ext w w':=by
 have hle:=hS.le
 have hcap:=hS.cap
 have HE:=zh ((Ext.refl w).alloc' (.cells (txA ac sq A n c) 33))
 have HV:=zh (show vTx ac sq L=false from aCv (by rw [hS.len];exact decide_eq_false hh))
 obtain ⟨b1,e1⟩:=gx (jY ac 0 15)
 obtain ⟨b2,e2⟩:=gx (jY sq 0 31)
 obtain ⟨b3,e3⟩:=gx (jY (n:Int) 1 4)
 have W1:=zh (fun W=>iB ac 0 15 W)
 have W2:=zh (fun W=>iB sq 0 31 W)
 have W3:=zh (fun W=>iB (n:Int) 1 4 W)
 rw [e1] at W1
 rw [e2] at W2
 rw [e3] at W3
 have hc:b1=false ∨ (b1=true∧b2=false) ∨ (b1=true∧b2=true∧b3=false):=by
  rw [← e1,← e2,← e3];unfold jY;simp only [decide_eq_true_eq,decide_eq_false_iff_not];omega
 clear hS hh e1 e2 e3
 rcases hc with rfl | ⟨rfl,rfl⟩ | ⟨rfl,rfl,rfl⟩
 all_goals (
  go_enter func33,ntmps33
  go_wp2_with (go_at_call 86;(first | (with_reducible refine (W1.out _).mono ?_) | (with_reducible refine (W2.out _).mono ?_) | (with_reducible refine (W3.out _).mono ?_));rintro e wv ⟨rfl,rfl⟩)
  go_ret
  exact ⟨bg,HE.out⟩)
theorem eE (ac sq:Int) (A:Option Addr) (n c:Nat) (L:List OpR) (w:World) (hS:SlO w A n c L) :
  Calls prog 33 #[.agg (txA ac sq A n c)] w fun e w'=>e=.returned (.bool (vTx ac sq L))∧Ext w w':=by
 by_cases hh:0≤ac∧ac≤15∧0≤sq∧sq≤31∧1≤n∧n≤4
 ·exact zG ac sq A n c L w hS hh
 exact wT ac sq A n c L w hS hh
theorem wV (ac sq:Int) (A:Option Addr) (n c:Nat) (L:List OpR) (w:World) (hS:SlO w A n c L) (hv:vTx ac sq L=true) :
  Calls prog 90 #[.agg (txA ac sq A n c)] w fun e w'=>∃ A' n' c',e=.returned (.slice A' n' c')∧SlB w' A' n' c' (nT ac sq L)∧n'≤13000∧Ext w w':=by
 obtain ⟨⟨h1,h2,h3,h4,h5,h6⟩,hops⟩:=dX hv
 have hlen:=hS.len
 rw [hlen] at h5 h6
 have hle:=hS.le
 have hcap:=hS.cap
 have hE:=(Ext.refl w).alloc' (.cells (txA ac sq A n c) 33)
 obtain ⟨b,o,rfl,hr0,hb0⟩:=hS.at aa
 obtain ⟨w1,hw1⟩:=gx (w.alloc (.cells (txA ac sq (some ⟨b,o,none⟩) n c) 33))
 have HB:=zh (Blk.new w 33 (txA ac sq (some ⟨b,o,none⟩) n c))
 have HSW:=zh (hS.ext hE)
 have HE:=zh hE
 rw [hw1] at HSW HE HB
 have HLEN:=zh hlen
 have HR0:=zh hr0
 have HBL:=zh hb0
 have HOPS:=zh hops
 have HQ:=zh (fun (W:World) (h:Ext w1 W)=>gT (HB.out.ext h))
 have HNL:=zh (SlB.nil w1.drew)
 have hXd:=(Ext.refl w1).drew'
 clear hS hE hr0 hb0 hops hlen hv
 go_enter func90,ntmps90
 go_wp2_with fail
 clear hw1
 go_region_held3 (fun w'=>w'.cell? ⟨w.heap.size,0,none⟩=some (.int .i64 ac)∧w'.cell? ⟨w.heap.size,1,none⟩=some (.int .i64 sq)∧w'.cell? ⟨w.heap.size,2,none⟩=some (.slice (some ⟨b,o,none⟩) n c)) (first | (with_reducible exact HQ.out _ hXd) | (with_reducible exact HQ.out _ hX2) | (with_reducible exact HQ.out _ hX3) | (with_reducible exact HQ.out _ hX4) | fail "CELLS") (first | (go_at_call 151;(with_reducible refine (cF _ _ _ _ ac _ HNL.out aa).mono ?_);rintro e w2 ⟨A2,c2,rfl,hO2,he2⟩;have hX2:=Ext.trans hXd he2;have HS2:=zh hO2.sl;clear hO2 he2) | (go_at_call 151;(with_reducible refine (cF _ _ _ _ sq _ HS2.out aa).mono ?_);rintro e w3 ⟨A3,c3,rfl,hO3,he3⟩;have hX3:=Ext.trans hX2 he3;have HS3:=zh hO3.sl;clear hO3 he3) | (go_at_call 151;(with_reducible refine (cF _ _ _ _ (n:Int) _ HS3.out aa).mono ?_);rintro e w4 ⟨A4,c4,rfl,hO4,he4⟩;have hX4:=Ext.trans hX3 he4;have HS4:=zh hO4.sl;clear hO4 he4) | fail "ARM")
 all_goals (
  have HX4:=zh hX4
  clear hX4 hX3 hX2 hXd HS2 HS3 HNL
  go_wp2_with fail
  go_loopw [4,3] (fun i v wr=>∃ (k:Nat) (A5:Option Addr) (n5 c5:Nat),k≤n∧i=.int .i64 (k:Int)∧v=.slice A5 n5 c5∧n5≤3+3000 * k∧Hid (SlB wr A5 n5 c5 ([toB ac,toB sq,toB (n:Int)] ++ gA (L.take k)))∧Hid (Ext w1 wr)) (fun i _ _=>n - (intOf i).toNat)
  case atStart=>exact ⟨0,A4,_,c4,Nat.zero_le _,rfl,rfl,aa,zh (by simpa [gA] using HS4.out),HX4⟩
  case round =>
   obtain ⟨k,A5,n5,c5,hk,rfl,rfl,hn5,HS5,HX5⟩:=hrel
   have q2:=(HQ.out _ HX5.out).2.2
   have HE5:=zh (HE.out.trans HX5.out)
   by_cases hlt:k < n
   ·have hr := sA (aY HR0.out (HE5.out.block b HBL.out)) (k := k) fk
    have HTK:=zh (pC (L:=L) (k:=k) ak)
    have HOK:=zh (HSW.out.nth hlt)
    have HV:=zh (HOPS.out k ak)
    have i0:(0:Int)≤(k:Int):=aa
    have i1:(k:Int) < (n:Int):=aa
    obtain ⟨R,hR⟩:=gx (bR L k)
    rw [hR] at hr HTK HOK HV
    clear hR
    go_wp2_with (first | (with_reducible refine gC rfl (.tmp 26) rfl b (o+k * 23) rfl R hr ?_))
    refine (vD R HV.out A5 n5 c5 _ _ (HOK.out.ext HX5.out) HS5.out aa).mono ?_
    rintro e w6 ⟨A6,n6,c6,rfl,hO6,he6⟩
    have HS6:=zh (show SlB w6 A6 n6 c6 ([toB ac,toB sq,toB (n:Int)] ++ gA (L.take (k+1))) by
     rw [HTK.out,pX]
     simpa [gA] using hO6.sl)
    have hn6:n6≤3+3000 * (k+1):=by
     have a1:=hO6.len
     have a2:=HS5.out.len
     have a3:=aAQ HV.out HOK.out
     rw [List.length_append,a2] at a1
     omega
    have HX6:=zh (HX5.out.trans he6)
    clear hO6 he6 hr HTK q2
    go_wp2_with fail
    go_roundw
    case rel=>exact ⟨k+1,A6,n6,c6,aa,ar,rfl,hn6,HS6,HX6⟩
    case measure=>simp [intOf];omega
   obtain rfl:k=n:=aa
   go_wp2_with fail
   go_ret
   refine ⟨A5,n5,c5,rfl,?_,aa,HE5.out⟩
   have:=HS5.out
   exact y6)
end
end Go.Proofs.YtgmnmjeccfnmbaaGreat
