/- readOp (the program's). -/
import Derived.ShutString
import Derived.ChangeOld
import Derived.Below
import Derived.SizedLaws
import Derived.Test.YtohmmcahpakokaaGreatC10
import Derived.Test.YtohmmcahpakokaaGreatC11
import Derived.Test.YtohmmcahpakokaaGreatC12
set_option maxRecDepth 100000
set_option maxHeartbeats 8000000
set_option linter.unusedSectionVars false
set_option linter.unusedVariables false
set_option linter.unusedSimpArgs false
namespace Go.Proofs.YtohmmcahpakokaaGreat
open Go.RowKit
attribute [local go_sem ↓] Go.wp_at_zero Go.wp_at_succ
theorem nb8_nil (i:Nat) (hi:i < 8):nb8 0 i=0:=by
 match i,hi with
 | 0,_ | 1,_ | 2,_ | 3,_ | 4,_ | 5,_ | 6,_ | 7,_=>rfl
structure OpV where
 k:Int
 tO:Int
 am:Int
 ul:Int
 va:Int
 lk:UInt64
 hs:UInt64
 pre:List UInt8
 prf:List UInt8
def OpR.v (R:OpR):OpV:=⟨R.k,R.tO,R.am,R.ul,R.va,R.lk,R.hs,R.pre,R.prf⟩
abbrev zeroO:Array Value:=#[.int .i64 0,.int .i64 0,.int .i64 0,.int .i64 0,.int .i64 0,.int .u8 0,.int .u8 0,.int .u8 0,.int .u8 0,.int .u8 0,.int .u8 0,.int .u8 0,.int .u8 0,.int .u8 0,.int .u8 0,.int .u8 0,.int .u8 0,.int .u8 0,.int .u8 0,.int .u8 0,.int .u8 0,.slice none 0 0,.slice none 0 0]
theorem retC {fn:Func} {p:Tmp} {ty:TypeId} (hres:fn.results=#[.cell p ty]) (tmps:Array Value) (w1:World) (g:Nat) (cs:Array Value) (hp:tmps.getD p undef=.pointer (some ⟨g,0,none⟩)) (hl:(loadVar ty ⟨g,0,none⟩).run Tryz.prog w1=.ok (.agg cs) w1) :
  (results fn tmps).run Tryz.prog w1=.ok (.agg cs) w1:=by
 have hp':tmps[p]?.getD undef=.pointer (some ⟨g,0,none⟩):=by simpa using hp
 simp [results,hres,hp',asAddr,hl]
structure VtR where
 k:Int
 sl:Int
 ro:Int
 ch:Int
 si:Int
 su:Int
 pa:UInt64
 va:UInt64
deriving DecidableEq
def wfI (z:Int):Prop:=(Lit.int .i64 z).wf=true
structure VtR.wf (v:VtR):Prop where
 k:wfI v.k
 sl:wfI v.sl
 ro:wfI v.ro
 ch:wfI v.ch
 si:wfI v.si
 su:wfI v.su
abbrev vtA (v:VtR):Array Value:=#[.int .i64 v.k,.int .i64 v.sl,.int .i64 v.ro,.int .i64 v.ch,.int .i64 v.si,.int .i64 v.su,.int .u8 (nb8 v.pa 0),.int .u8 (nb8 v.pa 1),.int .u8 (nb8 v.pa 2),.int .u8 (nb8 v.pa 3),.int .u8 (nb8 v.pa 4),.int .u8 (nb8 v.pa 5),.int .u8 (nb8 v.pa 6),.int .u8 (nb8 v.pa 7),.int .u8 (nb8 v.va 0),.int .u8 (nb8 v.va 1),.int .u8 (nb8 v.va 2),.int .u8 (nb8 v.va 3),.int .u8 (nb8 v.va 4),.int .u8 (nb8 v.va 5),.int .u8 (nb8 v.va 6),.int .u8 (nb8 v.va 7)]
def vtL (v:VtR):List Value:=(vtA v).toList
theorem vtL_length (v:VtR):(vtL v).length=22:=rfl
theorem vtL_one (v:VtR):∀ u ∈ vtL v,u.oneCell'=true:=by
 intro u hu
 simp only [vtL,List.mem_cons,List.not_mem_nil,or_false] at hu
 rcases hu with rfl | rfl | rfl | rfl | rfl | rfl | rfl | rfl | rfl | rfl | rfl | rfl | rfl | rfl | rfl | rfl | rfl | rfl | rfl | rfl | rfl | rfl <;> rfl
instance:RowT VtR where
 sz:=22
 z:=⟨0,0,0,0,0,0,0,0⟩
 enc:=vtL
 ok v w:=v.wf
 pos:=by decide
 len:=vtL_length
 one:=vtL_one
 ext _ _ _ h _:=h
end Go.Proofs.YtohmmcahpakokaaGreat
namespace Go.Proofs.YtohmmcahpakokaaGreat
open Go.ChangeShapes Go.WideShapes Go.ChangeAt Go.RowKit
theorem cellsNm:Tryz.prog.cellsOf 30=8:=by kernel_rfl
theorem cellsB1:Tryz.prog.cellsOf 5=1:=by kernel_rfl
theorem open_nmc {H:Type} {enc:TypeId × Value→H} {W:World} {base fuel:Nat} {held:Bool} {cs:List Value} {x:DataW H × List MemPlace}
  (h:DataW.trod enc Tryz.prog W base (fun _=>true) held fuel 30 cs=some x):∃ n:UInt64,cs=(nmc n).toList:=by
 obtain ⟨xs,m,_,_,hl,hxl,hf⟩:=DataW.trod_array Tryz.underlying30 h
 rw [cellsNm] at hl
 rw [cellsB1] at hf
 have hb:∀ i,i < 8→∃ b:UInt8,cs[i]?=some (.int .u8 (b.toNat:Int)):=by
  intro i hi
  have h1:=hf i hi
  rw [List.getElem?_eq_getElem (by omega)] at h1
  obtain ⟨z,e,_,wz⟩:=DataW.trod_int Tryz.underlying5 h1
  have h2:=wf_u8 wz
  refine ⟨toB z,?_⟩
  rw [← toB_eq,Int.emod_eq_of_lt h2.1 h2.2]
  have h3:((cs.drop (i * 1)).take 1)[0]?=some (.int .u8 z):=by rw [e];rfl
  rw [List.getElem?_take_of_lt (by omega),List.getElem?_drop] at h3
  simpa using h3
 have hc:∃ l:List UInt8,l.length=8∧cs=bcs l:=by
  match cs,hl,hb with
  | [c0,c1,c2,c3,c4,c5,c6,c7],_,hb =>
   obtain ⟨b0,e0⟩:=hb 0 (by omega)
   have e0:c0=.int .u8 (b0.toNat:Int):=Option.some.inj e0
   obtain ⟨b1,e1⟩:=hb 1 (by omega)
   have e1:c1=.int .u8 (b1.toNat:Int):=Option.some.inj e1
   obtain ⟨b2,e2⟩:=hb 2 (by omega)
   have e2:c2=.int .u8 (b2.toNat:Int):=Option.some.inj e2
   obtain ⟨b3,e3⟩:=hb 3 (by omega)
   have e3:c3=.int .u8 (b3.toNat:Int):=Option.some.inj e3
   obtain ⟨b4,e4⟩:=hb 4 (by omega)
   have e4:c4=.int .u8 (b4.toNat:Int):=Option.some.inj e4
   obtain ⟨b5,e5⟩:=hb 5 (by omega)
   have e5:c5=.int .u8 (b5.toNat:Int):=Option.some.inj e5
   obtain ⟨b6,e6⟩:=hb 6 (by omega)
   have e6:c6=.int .u8 (b6.toNat:Int):=Option.some.inj e6
   obtain ⟨b7,e7⟩:=hb 7 (by omega)
   have e7:c7=.int .u8 (b7.toNat:Int):=Option.some.inj e7
   exact ⟨[b0,b1,b2,b3,b4,b5,b6,b7],rfl,by rw [e0,e1,e2,e3,e4,e5,e6,e7];rfl⟩
 obtain ⟨l,hl8,rfl⟩:=hc
 exact ⟨ofNm l,by rw [nmc_toList,nmb_ofNm l hl8]⟩
end Go.Proofs.YtohmmcahpakokaaGreat
namespace Go.Proofs.YtohmmcahpakokaaGreat
open Go.ChangeShapes Go.WideShapes Go.ChangeAt Go.RowKit Go.Deep
theorem cellsI1:Tryz.prog.cellsOf 3=1:=by kernel_rfl
theorem spot_none' {w:World} {x:Addr} {k:IntKind} {n:Int} (h:w.cell? x=some (.int k n)):x.spot=none:=by
 unfold World.cell? at h
 cases hs:x.spot with
 | none=>rfl
 | some p=>rw [hs] at h;split at h <;> simp at h
end Go.Proofs.YtohmmcahpakokaaGreat
namespace Go.Proofs.YtohmmcahpakokaaGreat
open Go.ChangeShapes Go.WideShapes Go.ChangeAt Go.RowKit Go.Deep
section
variable {H:Type} {enc:TypeId × Value→H} {w:World} {base fuel:Nat} {held:Bool} {cs:List Value} {x:DataW H × List MemPlace}
theorem cut_at {α:Type} (cs:List α) (a n:Nat):cs.drop a=(cs.drop a).take n ++ cs.drop (a+n):=by
 rw [← List.drop_drop,List.take_append_drop]
theorem list2 {α:Type} {l:List α} (h:l.length=2):∃ a b,l=[a,b]:=by
 match l,h with
 | [a,b],_=>exact ⟨a,b,rfl⟩
end
end Go.Proofs.YtohmmcahpakokaaGreat
namespace Go.Proofs.YtohmmcahpakokaaGreat
open Go.RowKit
section
variable {β:Type} [DecidableEq β]
structure STO (lt:β→β→Bool):Prop where
 irrefl:∀ x,lt x x=false
 trans:∀ x y z,lt x y=true→lt y z=true→lt x z=true
 total:∀ x y,lt x y=false→lt y x=false→x=y
variable {lt:β→β→Bool}
theorem STO.asymm (h:STO lt) {x y:β} (hxy:lt x y=true):lt y x=false:=by
 cases hyx:lt y x with
 | false=>rfl
 | true=>have:=h.trans x y x hxy hyx;rw [h.irrefl] at this;cases this
theorem STO.ntrans (h:STO lt) {x y z:β} (h1:lt x y=false) (h2:lt y z=false):lt x z=false:=by
 cases hxz:lt x z with
 | false=>rfl
 | true =>
  cases hyx:lt y x with
  | true=>have:=h.trans y x z hyx hxz;rw [h2] at this;cases this
  | false =>
   obtain rfl:=h.total x y h1 hyx
   rw [h2] at hxz;cases hxz
def Asc (lt:β→β→Bool) (L:List β):Prop:=L.Pairwise fun x y=>lt x y=true
def insO (lt:β→β→Bool) (x:β):List β→List β
 | []=>[x]
 | y :: r=>if lt y x=true then y :: insO lt x r else if y=x then y :: r else x :: y :: r
def insAll (lt:β→β→Bool) (acc L:List β):List β:=L.foldl (fun acc x=>insO lt x acc) acc
def canonO (lt:β→β→Bool) (L:List β):List β:=insAll lt [] L
theorem mem_insO (h:STO lt) (x y:β) (L:List β):y ∈ insO lt x L ↔ y=x ∨ y ∈ L:=by
 induction L with
 | nil=>simp [insO]
 | cons z r ih =>
  unfold insO
  split
  ·simp only [List.mem_cons, ih]
   constructor
   ·rintro (h | h | h) <;> simp [h]
   ·rintro (h | h | h) <;> simp [h]
  ·split
   ·rename_i h1 h2; subst h2; simp only [List.mem_cons]
    constructor
    ·rintro (h | h) <;> simp [h]
    ·rintro (h | h | h) <;> simp [h]
   ·simp only [List.mem_cons]
theorem asc_insO (h:STO lt) (x:β) (L:List β) (hL:Asc lt L):Asc lt (insO lt x L):=by
 induction L with
 | nil=>simp [insO,Asc]
 | cons z r ih =>
  unfold Asc at hL ih ⊢
  obtain ⟨h1,h2⟩:=List.pairwise_cons.1 hL
  unfold insO
  split
  ·rename_i hz
   refine List.pairwise_cons.2 ⟨fun y hy=>?_,ih h2⟩
   rcases (mem_insO h x y r).1 hy with rfl | hy
   ·exact hz
   ·exact h1 y hy
  ·rename_i hz
   split
   ·exact hL
   ·rename_i hne
    have hxz:lt x z=true:=by
     cases hh:lt x z with
     | true=>rfl
     | false=>exact absurd (h.total z x (by simpa using hz) hh) hne
    refine List.pairwise_cons.2 ⟨fun y hy=>?_,hL⟩
    rcases List.mem_cons.1 hy with rfl | hy
    ·exact hxz
    ·exact h.trans _ _ _ hxz (h1 y hy)
theorem mem_insAll (h:STO lt) (y:β) (L acc:List β):y ∈ insAll lt acc L ↔ y ∈ acc ∨ y ∈ L:=by
 induction L generalizing acc with
 | nil=>simp [insAll]
 | cons x r ih =>
  show y ∈ insAll lt (insO lt x acc) r ↔ _
  rw [ih,mem_insO h,List.mem_cons]
  constructor
  ·rintro ((h | h) | h) <;> simp [h]
  ·rintro (h | h | h) <;> simp [h]
theorem asc_insAll (h:STO lt) (L acc:List β) (ha:Asc lt acc):Asc lt (insAll lt acc L):=by
 induction L generalizing acc with
 | nil=>exact ha
 | cons x r ih=>exact ih _ (asc_insO h x acc ha)
theorem mem_canonO (h:STO lt) (y:β) (L:List β):y ∈ canonO lt L ↔ y ∈ L:=by
 unfold canonO;rw [mem_insAll h];simp
theorem asc_canonO (h:STO lt) (L:List β):Asc lt (canonO lt L):=asc_insAll h L [] List.Pairwise.nil
theorem asc_uniq (h:STO lt):∀ (L M:List β),Asc lt L→Asc lt M→(∀ y,y ∈ L ↔ y ∈ M)→L=M
 | [],[],_,_,_=>rfl
 | [],y :: s,_,_,he=>by have:=(he y).2 (by simp);simp at this
 | x :: r,[],_,_,he=>by have:=(he x).1 (by simp);simp at this
 | x :: r,y :: s,hL,hM,he=>by
  unfold Asc at hL hM
  obtain ⟨a1,a2⟩:=List.pairwise_cons.1 hL
  obtain ⟨b1,b2⟩:=List.pairwise_cons.1 hM
  have hxy:x=y:=by
   rcases List.mem_cons.1 ((he x).1 (by simp)) with e | e
   ·exact e
   ·rcases List.mem_cons.1 ((he y).2 (by simp)) with e' | e'
    ·exact e'.symm
    ·have h1 := b1 x e
     have h2:=a1 y e'
     rw [h.asymm h1] at h2;cases h2
  subst hxy
  rw [asc_uniq h r s a2 b2 (fun z=>by
   have hz:=he z
   simp only [List.mem_cons] at hz
   constructor
   ·intro hr
    rcases hz.1 (Or.inr hr) with e | e
    ·subst e;have:=a1 z hr;rw [h.irrefl] at this;cases this
    ·exact e
   ·intro hs
    rcases hz.2 (Or.inr hs) with e | e
    ·subst e;have:=b1 z hs;rw [h.irrefl] at this;cases this
    ·exact e)]
def compA:β→List β→List β
 | _,[]=>[]
 | p,y :: r=>if y=p then compA p r else y :: compA y r
def compO:List β→List β
 | []=>[]
 | x :: r=>x :: compA x r
theorem mem_compA (y:β):∀ (L:List β) (p:β),y ∈ p :: compA p L ↔ y ∈ p :: L:=by
 intro L
 induction L with
 | nil=>intro p;rfl
 | cons x r ih =>
  intro p
  unfold compA
  split
  ·rename_i e; subst e
   rw [ih x];simp
  ·rename_i e
   rw [List.mem_cons,ih x,List.mem_cons,List.mem_cons,List.mem_cons]
theorem mem_compO (y:β) (L:List β):y ∈ compO L ↔ y ∈ L:=by
 cases L with
 | nil=>rfl
 | cons x r=>exact mem_compA y r x
def Wsc (lt:β→β→Bool) (L:List β):Prop:=L.Pairwise fun x y=>lt y x=false
theorem asc_compA (h:STO lt):∀ (L:List β) (p:β),Wsc lt (p :: L)→Asc lt (p :: compA p L):=by
 intro L
 induction L with
 | nil=>intro p _;exact List.pairwise_singleton _ _
 | cons x r ih =>
  intro p hW
  unfold Wsc at hW
  obtain ⟨h1,h2⟩:=List.pairwise_cons.1 hW
  obtain ⟨h3,h4⟩:=List.pairwise_cons.1 h2
  unfold compA
  split
  ·rename_i e;subst e;exact ih x h2
  ·rename_i e
   have hx:=ih x h2
   have hpx:lt p x=true:=by
    cases hh:lt p x with
    | true=>rfl
    | false=>exact absurd (h.total x p (h1 x (by simp)) hh) e
   refine List.pairwise_cons.2 ⟨fun y hy=>?_,hx⟩
   rcases List.mem_cons.1 hy with rfl | hy
   ·exact hpx
   ·exact h.trans _ _ _ hpx ((List.pairwise_cons.1 hx).1 y hy)
theorem asc_compO (h:STO lt) {L:List β} (hW:Wsc lt L):Asc lt (compO L):=by
 cases L with
 | nil=>exact List.Pairwise.nil
 | cons x r=>exact asc_compA h r x hW
theorem compO_canon (h:STO lt) {L M:List β} (hW:Wsc lt M) (he:∀ y,y ∈ M ↔ y ∈ L):compO M=canonO lt L :=
 asc_uniq h _ _ (asc_compO h hW) (asc_canonO h L) (fun y=>by rw [mem_compO,mem_canonO h,he])
theorem compO_snoc (L:List β) (x y:β):compO (L ++ [x,y])=if y=x then compO (L ++ [x]) else compO (L ++ [x]) ++ [y]:=by
 have key:∀ (L:List β) (p x:β),compA p (L ++ [x,y])=if y=x then compA p (L ++ [x]) else compA p (L ++ [x]) ++ [y]:=by
  intro L
  induction L with
  | nil =>
   intro p x
   simp only [List.nil_append,compA]
   by_cases h1:x=p
   ·subst h1;by_cases h2:y=x <;> simp [h2]
   ·by_cases h2:y=x <;> simp [h1,h2]
  | cons z r ih =>
   intro p x
   simp only [List.cons_append,compA]
   split
   ·exact ih p x
   ·rw [ih z x];split <;> simp
 cases L with
 | nil=>simp only [List.nil_append,compO,compA];split <;> simp
 | cons z r =>
  simp only [List.cons_append,compO]
  rw [key];split <;> simp
end
end Go.Proofs.YtohmmcahpakokaaGreat
namespace Go.Proofs.YtohmmcahpakokaaGreat
open Go.RowKit
attribute [local go_sem ↓] Go.wp_at_zero Go.wp_at_succ
def vHead (ac sq:Int) (n:Nat):Bool:=decide (0≤ac∧ac≤15∧0≤sq∧sq≤31∧1≤n∧n≤4)
def vTx (ac sq:Int) (L:List OpR):Bool:=vHead ac sq L.length && decide (∀ k,k < L.length→vOp (nthO L k)=true)
theorem vTx_head {ac sq:Int} {L:List OpR} (h:vHead ac sq L.length=false):vTx ac sq L=false:=by unfold vTx;rw [h,Bool.false_and]
theorem vTx_at {ac sq:Int} {L:List OpR} {k:Nat} (hk:k < L.length) (h:vOp (nthO L k)=false):vTx ac sq L=false:=by
 unfold vTx;rw [decide_eq_false (p:=∀ k,k < L.length→vOp (nthO L k)=true) (fun hh=>by rw [hh k hk] at h;cases h),Bool.and_false]
theorem vTx_yes {ac sq:Int} {L:List OpR} (h:vHead ac sq L.length=true) (h2:∀ k,k < L.length→vOp (nthO L k)=true):vTx ac sq L=true:=by
 unfold vTx;rw [h,decide_eq_true h2];rfl
theorem vTx_of {ac sq:Int} {L:List OpR} (h:vTx ac sq L=true):(0≤ac∧ac≤15∧0≤sq∧sq≤31∧1≤L.length∧L.length≤4)∧∀ k,k < L.length→vOp (nthO L k)=true:=by
 unfold vTx vHead at h;simp only [Bool.and_eq_true,decide_eq_true_eq] at h;exact h
def codeT (b:Bool):Int:=if b then 0 else 1
theorem validate_in (ac sq:Int) (A:Option Addr) (n c:Nat) (L:List OpR) (w:World) (hS:SlO w A n c L) (hh:0≤ac∧ac≤15∧0≤sq∧sq≤31∧1≤n∧n≤4) :
  Calls Tryz.prog 44 #[.agg (txA ac sq A n c)] w fun e w'=>e=.returned (.int .i64 (codeT (vTx ac sq L)))∧Ext w w':=by
 have hle:=hS.le
 have hcap:=hS.cap
 have HLEN:=zh hS.len
 have HE:=zh ((Ext.refl w).alloc' (.cells (txA ac sq A n c) 24))
 have HS:=zh hS
 clear hS
 have HH:=zh (show vHead ac sq L.length=true by rw [HLEN.out];exact decide_eq_true hh)
 have d1:decide (ac < 0)=false:=decide_eq_false (by omega)
 have d2:decide (16≤ac)=false:=decide_eq_false (by omega)
 have d3:decide (sq < 0)=false:=decide_eq_false (by omega)
 have d4:decide (32≤sq)=false:=decide_eq_false (by omega)
 have d5:decide ((n:Int) < 1)=false:=decide_eq_false (by omega)
 have d6:decide (4 < (n:Int))=false:=decide_eq_false (by omega)
 have hn4:n≤4:=by omega
 obtain ⟨b,o,rfl,hr,hb⟩:=HS.out.at (by omega)
 have HR:=zh hr
 have HBL:=zh hb
 clear hr hb hh
 go_enter Tryz.func44,Tryz.ntmps44
 go_wp2_with fail
 go_loopw [38] (fun i wr=>∃ k:Nat,k≤n∧i=.int .i64 (k:Int)∧Hid (∀ j,j < k→vOp (nthO L j)=true)∧Ext w wr) (fun i _=>n - (intOf i).toNat)
 case atStart=>exact ⟨0,Nat.zero_le _,rfl,zh (fun j hj=>by omega),HE.out⟩
 case round =>
  obtain ⟨k,hk,rfl,HP,hX⟩:=hrel
  have HX:=zh hX
  clear hX
  by_cases hlt:k < n
  ·have hr := op_at (rangeAt_keep HR.out (HX.out.block b HBL.out)) (k := k) (by rw [HLEN.out]; exact hlt)
   have HQ:=zh (fun (hx:vOp (nthO L k)=true)=>show ∀ j,j < k+1→vOp (nthO L j)=true from fun j hj=>by
    rcases Nat.lt_or_ge j k with h | h
    ·exact HP.out j h
    ·obtain rfl : j = k := by omega
     exact hx)
   have HN:=zh (fun (hx:vOp (nthO L k)=false)=>show codeT (vTx ac sq L)=1 by rw [vTx_at (by rw [HLEN.out];exact hlt) hx];rfl)
   have HOK:=zh ((HS.out.nth hlt).ext HX.out)
   have i0:(0:Int)≤(k:Int):=by omega
   have i1:(k:Int) < (n:Int):=by omega
   obtain ⟨R,hR⟩:∃ R,nthO L k=R:=⟨_,rfl⟩
   rw [hR] at hr HQ HN HOK
   clear hR
   have hnew:=new_op wr R
   go_wp2_with (first | (with_reducible refine wpList_loadO rfl (.tmp 40) rfl b (o+k * 23) rfl R hr ?_) | (with_reducible refine wpList_newO rfl (.tmp 4) (.tmp 41) rfl _ rfl R rfl rfl ?_) | (with_reducible refine wpList_loadO rfl (.tmp 4) rfl wr.heap.size 0 rfl R hnew ?_))
   have HA:=zh ((Ext.refl wr).alloc' (.cells (opA R) 69))
   refine (validOp_any R _ (HOK.out.ext HA.out)).mono ?_
   rintro e w1 ⟨rfl,he1⟩
   have HX1:=zh (HX.out.trans (HA.out.trans he1))
   clear he1 hr
   cases hv:vOp R with
   | true =>
    have HQ':=zh (HQ.out hv)
    clear hv
    go_wp2_with fail
    go_roundw
    case rel=>exact ⟨k+1,by omega,by go_num,HQ',HX1.out⟩
    case measure=>simp [intOf];omega
   | false =>
    have HN':=zh (HN.out hv)
    clear hv
    go_wp2_with fail
    go_ret
    exact ⟨by rw [HN'.out];rfl,HX1.out⟩
  ·obtain rfl : k = n := by omega
   have HV:=zh (show vTx ac sq L=true from vTx_yes HH.out (fun j hj=>HP.out j (by rw [HLEN.out] at hj;exact hj)))
   go_wp2_with fail
   go_ret
   exact ⟨by rw [HV.out];rfl,HX.out⟩
theorem validate_out (ac sq:Int) (A:Option Addr) (n c:Nat) (L:List OpR) (w:World) (hS:SlO w A n c L) (hh:¬ (0≤ac∧ac≤15∧0≤sq∧sq≤31∧1≤n∧n≤4)) :
  Calls Tryz.prog 44 #[.agg (txA ac sq A n c)] w fun e w'=>e=.returned (.int .i64 (codeT (vTx ac sq L)))∧Ext w w':=by
 have hle:=hS.le
 have hcap:=hS.cap
 have HLEN:=zh hS.len
 have HE:=zh ((Ext.refl w).alloc' (.cells (txA ac sq A n c) 24))
 have HS:=zh hS
 clear hS
 have HV:=zh (show codeT (vTx ac sq L)=1 by rw [vTx_head (by rw [HLEN.out];exact decide_eq_false hh)];rfl)
 have hc:ac < 0 ∨ (decide (ac < 0)=false∧16≤ac) ∨ (decide (ac < 0)=false∧decide (16≤ac)=false∧sq < 0) ∨ (decide (ac < 0)=false∧decide (16≤ac)=false∧decide (sq < 0)=false∧32≤sq) ∨ (decide (ac < 0)=false∧decide (16≤ac)=false∧decide (sq < 0)=false∧decide (32≤sq)=false∧(n:Int) < 1) ∨ (decide (ac < 0)=false∧decide (16≤ac)=false∧decide (sq < 0)=false∧decide (32≤sq)=false∧decide ((n:Int) < 1)=false∧4 < (n:Int)):=by
  simp only [decide_eq_false_iff_not];omega
 clear hh HLEN HS
 rcases hc with d1 | ⟨d1,d2⟩ | ⟨d1,d2,d3⟩ | ⟨d1,d2,d3,d4⟩ | ⟨d1,d2,d3,d4,d5⟩ | ⟨d1,d2,d3,d4,d5,d6⟩
 all_goals (
  go_enter Tryz.func44,Tryz.ntmps44
  go_wp2_with fail
  go_ret
  exact ⟨by rw [HV.out];rfl,HE.out⟩)
theorem validate_any (ac sq:Int) (A:Option Addr) (n c:Nat) (L:List OpR) (w:World) (hS:SlO w A n c L) :
  Calls Tryz.prog 44 #[.agg (txA ac sq A n c)] w fun e w'=>e=.returned (.int .i64 (codeT (vTx ac sq L)))∧Ext w w':=by
 by_cases hh:0≤ac∧ac≤15∧0≤sq∧sq≤31∧1≤n∧n≤4
 ·exact validate_in ac sq A n c L w hS hh
 ·exact validate_out ac sq A n c L w hS hh
def encOps (L:List OpR):List UInt8:=L.flatMap encOp
theorem encOps_append (a b:List OpR):encOps (a ++ b)=encOps a ++ encOps b:=by simp [encOps]
def encTx (ac sq:Int) (L:List OpR):List UInt8:=[toB ac,toB sq,toB (L.length:Int)] ++ encOps L
theorem encOp_len {R:OpR} {w:World} (hv:vOp R=true) (hR:R.ok w):(encOp R).length≤3000:=by
 have h1:=hR.pre.len
 have h2:=hR.prf.len
 have b1:=vOp_pre hv
 have b2:=vOp_prf hv
 rcases kind_cases R.k with h | h | h | h | h | h | h
 ·rw [encOp_1 h];simp [beI_length]
 ·rw [encOp_2 h];simp [beI_length,nmb_length]
 ·rw [encOp_3 h];simp [beI_length,nmb_length,blob_length];omega
 ·rw [encOp_4 h];simp [beI_length,nmb_length]
 ·rw [encOp_5 h];simp [beI_length]
 ·rw [encOp_6 h];simp [blob_length];omega
 ·exact absurd (vOp_kind hv) h
theorem OwnB.len {w:World} {base:Nat} {e:TypeId} {A:Option Addr} {n c:Nat} {l:List UInt8} (h:OwnB w base e A n c l):l.length=n:=h.sl.len
theorem own_lit3 (w:World) (base:Nat) (e:TypeId) (x y z:Int) (g:Nat) (hg:w.heap.size=g) (hb:base≤g) (x' y' z':Int) (hx:x'=((toB x).toNat:Int)) (hy:y'=((toB y).toNat:Int)) (hz:z'=((toB z).toNat:Int)):OwnB (w.alloc (.cells #[.int .u8 x',.int .u8 y',.int .u8 z'] e)) base e (some ⟨g,0,none⟩) 3 3 [toB x,toB y,toB z]:=by
 subst hg;subst hx;subst hy;subst hz
 exact own_cells (heap_alloc_new w _) hb rfl (Nat.le_refl _) (by omega) rfl rfl
theorem toB_wrapped (z:Int):IntKind.u8.wrap z=((toB z).toNat:Int):=toB_wrap z
theorem encode_any (ac sq:Int) (A:Option Addr) (n c:Nat) (L:List OpR) (w:World) (hS:SlO w A n c L) (hv:vTx ac sq L=true) :
  Calls Tryz.prog 110 #[.agg (txA ac sq A n c)] w fun e w'=>∃ A' n' c',e=.returned (.slice A' n' c')∧OwnB w' w.heap.size 5 A' n' c' (encTx ac sq L)∧n'≤13000∧Ext w w':=by
 obtain ⟨⟨h1,h2,h3,h4,h5,h6⟩,hops⟩:=vTx_of hv
 have hlen:=hS.len
 rw [hlen] at h5 h6
 have hle:=hS.le
 have hcap:=hS.cap
 have hE:=(Ext.refl w).alloc' (.cells (txA ac sq A n c) 24)
 obtain ⟨b,o,rfl,hr0,hb0⟩:=hS.at (by omega)
 have HSW:=zh (hS.ext hE)
 have HLEN:=zh hlen
 have HR0:=zh hr0
 have HBL:=zh hb0
 have HOPS:=zh hops
 have HE:=zh hE
 obtain ⟨w1,hw1⟩:∃ w1,w1=w.alloc (.cells (txA ac sq (some ⟨b,o,none⟩) n c) 24):=⟨_,rfl⟩
 have HW1:=zh hw1
 have HT1:=zh (toB_wrapped (n:Int))
 clear hS hE hr0 hb0 hops hlen hv hw1
 go_enter Tryz.func110,Tryz.ntmps110
 go_wp2_with fail
 go_loopw [20,3] (fun i v wr=>∃ (k:Nat) (A4:Option Addr) (n4 c4:Nat),k≤n∧i=.int .i64 (k:Int)∧v=.slice A4 n4 c4∧n4≤3+3000 * k∧OwnB wr w1.heap.size 5 A4 n4 c4 ([toB ac,toB sq,toB (n:Int)] ++ encOps (L.take k))∧Ext w1 wr) (fun i _ _=>n - (intOf i).toNat)
 case atStart =>
  refine ⟨0,_,3,3,Nat.zero_le _,rfl,rfl,Nat.le_refl _,?_,?_⟩
  ·rw [HW1.out]
   simp only [encOps,List.take_zero,List.flatMap_nil,List.append_nil]
   exact own_lit3 _ _ _ _ _ _ _ (by simp) (by simp) _ _ _ (by first | exact toB_eq _ | (rw [← toB_eq];omega)) (by first | exact toB_eq _ | (rw [← toB_eq];omega)) (by first | exact toB_eq _ | (rw [← toB_eq];omega))
  ·rw [HW1.out];exact (Ext.refl _).alloc' _
 case round =>
  obtain ⟨k,A4,n4,c4,hk,rfl,rfl,hn4,hO,hX⟩:=hrel
  have HO:=zh hO
  have HX:=zh hX
  clear hO hX
  by_cases hlt:k < n
  ·have HE2 := zh (show Ext w wr from by rw [HW1.out] at HX; exact HE.out.trans HX.out)
   have hr:=op_at (rangeAt_keep HR0.out (HE2.out.block b HBL.out)) (k:=k) (by rw [HLEN.out];exact hlt)
   have HTK:=zh (take_nthO (L:=L) (k:=k) (by rw [HLEN.out];exact hlt))
   have HOK:=zh (show (nthO L k).ok w1 by rw [HW1.out];exact HSW.out.nth hlt)
   have HV:=zh (HOPS.out k (by rw [HLEN.out];exact hlt))
   have i0:(0:Int)≤(k:Int):=by omega
   have i1:(k:Int) < (n:Int):=by omega
   obtain ⟨R,hR⟩:∃ R,nthO L k=R:=⟨_,rfl⟩
   rw [hR] at hr HTK HOK HV
   clear hR
   have hnew:=new_op wr R
   go_wp2_with (first | (with_reducible refine wpList_loadO rfl (.tmp 22) rfl b (o+k * 23) rfl R hr ?_) | (with_reducible refine wpList_newO rfl (.tmp 5) (.tmp 23) rfl _ rfl R rfl rfl ?_) | (with_reducible refine wpList_loadO rfl (.tmp 5) rfl wr.heap.size 0 rfl R hnew ?_))
   refine (appendOp_any R HV.out w1 A4 n4 c4 _ _ HOK.out (HX.out.alloc' _) (HO.out.alloc _) (by omega)).mono ?_
   rintro e w2 ⟨A5,n5,c5,rfl,hO5,hX5⟩
   have HO7:=zh (show OwnB w2 w1.heap.size 5 A5 n5 c5 ([toB ac,toB sq,toB (n:Int)] ++ encOps (L.take (k+1))) by
    rw [HTK.out,encOps_append]
    simpa [encOps] using hO5)
   have hn5:n5≤3+3000 * (k+1):=by
    have a1:=hO5.len
    have a2:=HO.out.len
    have a3:=encOp_len HV.out HOK.out
    rw [List.length_append,a2] at a1
    omega
   have HX5:=zh hX5
   clear hO5 hX5 hr hnew HO HTK
   go_wp2_with fail
   go_roundw
   case rel=>exact ⟨k+1,A5,n5,c5,by omega,by go_num,rfl,hn5,HO7.out,HX5.out⟩
   case measure=>simp [intOf];omega
  ·obtain rfl : k = n := by omega
   go_wp2_with fail
   go_ret
   refine ⟨A4,n4,c4,rfl,own_mono (base:=w1.heap.size) ?_ (by rw [HW1.out];simp),by omega,by rw [HW1.out] at HX;exact HE.out.trans HX.out⟩
   have:=HO.out
   unfold encTx
   rw [List.take_of_length_le (Nat.le_of_eq HLEN.out)] at this
   rw [HLEN.out]
   exact this
theorem st_facts {w:World} {g:Nat} {t:TypeId} {ac sq:Int} {A:Option Addr} {n c:Nat} {S:Option Addr} {m d:Nat} (h:Blk w g t (stA ac sq A n c S m d)):w.cell? ⟨g,0,none⟩=some (.int .i64 ac)∧w.cell? ⟨g,1,none⟩=some (.int .i64 sq)∧w.cell? ⟨g,2,none⟩=some (.slice A n c)∧w.cell? ⟨g,3,none⟩=some (.slice S m d) :=
 ⟨h.cell 0,h.cell 1,h.cell 2,h.cell 3⟩
end Go.Proofs.YtohmmcahpakokaaGreat
