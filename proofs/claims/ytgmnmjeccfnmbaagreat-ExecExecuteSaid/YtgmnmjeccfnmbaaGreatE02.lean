import Derived.ProofKit
import Derived.OpenShut
import Derived.Deep.Slices
import Derived.DeepKeys
import Derived.Test.YtgmnmjeccfnmbaaGreatE01
set_option maxRecDepth 100000
set_option maxHeartbeats 8000000
set_option linter.unusedVariables false
set_option linter.unusedSimpArgs false
namespace Go.Proofs.YtgmnmjeccfnmbaaGreat
open Go.Proofs.Tryz
section
open Go.RowKit
attribute [local go_sem ↓] Go.wp_at_zero Go.wp_at_succ
def ncs (ns:List UInt64):List Value:=ns.flatMap fun n=>bcs (nmb n)
theorem aKl:ncs []=[]:=rfl
theorem iT (n:UInt64) (r:List UInt64):ncs (n :: r)=bcs (nmb n) ++ ncs r:=by simp [ncs]
theorem eG (a b:List UInt64):ncs (a ++ b)=ncs a ++ ncs b:=by simp [ncs]
theorem cR (ns:List UInt64):(ncs ns).length=ns.length * 8:=by
 induction ns with
 | nil=>rfl
 | cons n r ih=>rw [iT,List.length_append,aT,aK,ih,List.length_cons];omega
theorem aAE (ns:List UInt64):ncs ns=bcs (ns.flatMap nmb):=by
 induction ns with
 | nil=>rfl
 | cons n r ih=>rw [iT,ih,← fK];rfl
theorem lU (ns:List UInt64):∀ u ∈ ncs ns,u.oneCell'=true:=by rw [aAE];exact dU _
theorem sD (ns:List UInt64) (k:Nat):(ncs ns).drop (k * 8)=ncs (ns.drop k):=by
 induction k generalizing ns with
 | zero=>simp
 | succ k ih =>
  cases ns with
  | nil=>simp [ncs]
  | cons n r =>
   rw [iT,List.drop_succ_cons,← ih r,show (k+1) * 8=(bcs (nmb n)).length+k * 8 from by rw [aT,aK];omega,List.drop_append,List.drop_of_length_le aa]
   simp
theorem xK (ns:List UInt64) (k:Nat):(ncs ns).take (k * 8)=ncs (ns.take k):=by
 induction k generalizing ns with
 | zero=>simp [ncs]
 | succ k ih =>
  cases ns with
  | nil=>simp [ncs]
  | cons n r =>
   rw [iT,List.take_succ_cons,iT,← ih r,show (k+1) * 8=(bcs (nmb n)).length+k * 8 from by rw [aT,aK];omega,List.take_append,List.take_of_length_le aa]
   simp
structure SlN (w:World) (A:Option Addr) (n c:Nat) (ns:List UInt64):Prop where
 len:ns.length=n
 le:n≤c
 cap:c≤9223372036854775807
 rd:Rd w A (ncs ns)
section
variable {w w':World} {A:Option Addr} {n c:Nat} {ns:List UInt64}
theorem SlN.ext (h:SlN w A n c ns) (e:Ext w w'):SlN w' A n c ns:=⟨h.len,h.le,h.cap,h.rd.ext e⟩
theorem SlN.at (h:SlN w A n c ns) (hn:0 < n):∃ b o,A=some ⟨b,o,none⟩∧w.rangeAt b o (ncs ns)∧b < w.heap.size :=
 h.rd.at (by intro e;have:=congrArg List.length e;rw [cR,h.len] at this;simp at this;omega)
theorem aEY {k:Nat} (hk:k < ns.length):((ncs ns).drop (k * 8)).take 8=bcs (nmb (ns.getD k 0)):=by
 have e:ns[k]=ns.getD k 0:=by simp [hk]
 rw [sD,List.drop_eq_getElem_cons hk,iT,List.take_append_of_le_length fp,List.take_of_length_le fp,e]
theorem aBD {b o k:Nat} (h:w.rangeAt b o (ncs ns)) (hk:k < ns.length):w.rangeAt b (o+k * 8) (bcs (nmb (ns.getD k 0))):=by
 have h1:=aQ (k:=8) (bG (k:=k * 8) h)
 rwa [aEY hk] at h1
theorem SlN.cut (h:SlN w A n c ns) {k:Nat} (hk:k≤n) (hkc:k < c):SlN w (A.map (·.add (k * 8))) (n - k) (c - k) (ns.drop k):=by
 refine ⟨nC,mf,sw,?_⟩
 have:=h.rd.cut (n:=n) (k:=k) (c:=c) (size:=8) (by rw [cR,h.len]) hk h.le
 rw [if_neg aa,sD] at this
 exact this
theorem SlN.upto (h:SlN w A n c ns) {k:Nat} (hk:k≤n):SlN w A k c (ns.take k):=by
 refine ⟨mc,mf,h.cap,?_⟩
 have:=h.rd.take (k * 8)
 rwa [xK] at this
theorem SlN.of_own {base:Nat} {e:TypeId} (h:w.ownsRow base e 8 (.slice A n c) n (ncs ns)):SlN w A n c ns:=by
 have hl:ns.length=n:=by have:=h.1;rw [cR] at this;omega
 exact ⟨hl,(eI h).1,(eI h).2,Rd.of_own h⟩
theorem SlN.of_blk {g:Nat} {t:TypeId} (h:Blk w g t (ncs ns).toArray) (hn:ns.length=n) (hc:n≤9223372036854775807):SlN w (some ⟨g,0,none⟩) n n ns :=
 ⟨hn,Nat.le_refl _,hc,by have:=Rd.of_blk h;simpa using this⟩
end
theorem cY:Elem prog 22 50 (.agg zcs.toArray) 8 8:=⟨underlying22,by kernel_rfl,rfl,by decide⟩
theorem aBK (cs vs:List Value) (o:Nat) (h:o+vs.length≤cs.length):((vs.zipIdx 0).foldl (fun a p=>a.setIfInBounds (o+p.2) p.1) cs.toArray)=(cs.take o ++ vs ++ cs.drop (o+vs.length)).toArray:=by
 apply Array.ext_getElem?
 intro j
 rw [jS]
 simp only [List.getElem?_toArray,List.size_toArray,Nat.add_zero]
 have ht:(cs.take o).length=o:=ko
 by_cases h1:j < o
 ·rw [if_neg aa,List.append_assoc,List.getElem?_append_left (by rw [ht];exact h1),List.getElem?_take,if_pos h1]
 by_cases h2:j < o+vs.length
 ·rw [if_pos ⟨aa,h2,aa⟩,List.getElem?_append_left (by rw [List.length_append,ht];exact h2),List.getElem?_append_right (by rw [ht];omega),ht]
 rw [if_neg aa,List.getElem?_append_right (by rw [List.length_append,ht];omega),List.length_append,ht,List.getElem?_drop]
 congr 1;omega
theorem aJB {w:World} {g k:Nat} {t:TypeId} {ns:List UInt64} (h:Blk w g t (ncs ns).toArray) (hk:k < ns.length) (n:UInt64):Blk (w.setCells g (k * 8) (nmc n).toList) g t (ncs (ns.set k n)).toArray:=by
 have h1:=sS (o:=k * 8) (vs:=(nmc n).toList) h
 have hl8:(nmc n).toList.length=8:=by rw [bW,aT,aK]
 rw [aBK _ _ _ (by rw [hl8,cR];omega),hl8,xK,show k * 8+8=(k+1) * 8 from aa,sD,bW,List.append_assoc,← iT,← eG] at h1
 have hs:ns.set k n=ns.take k ++ n :: ns.drop (k+1):=px
 rw [hs,bW]
 exact h1
theorem aAs {w:World} {g o m:Nat} {t:TypeId} {cs:Array Value} (h:Blk w g t cs) (hm:o+m≤cs.size):w.there g o m:=fun j hj=>by
 exact ⟨by rw [h.cell (o+j)];simp;omega,h.frozen (o+j)⟩
def nW (F:Nat→UInt64) (m k:Nat):List UInt64:=(List.range k).map F ++ List.replicate (m - k) 0
theorem lN (F:Nat→UInt64) (m k:Nat) (h:k≤m):(nW F m k).length=m:=by simp [nW];omega
theorem aCC (F:Nat→UInt64) (m k:Nat) (h:k < m):(nW F m k).set k (F k)=nW F m (k+1):=by
 unfold nW
 rw [List.range_succ,List.map_append,List.set_append_right _ _ dr,show m - k=(m - (k+1))+1 from aa,List.replicate_succ]
 simp
theorem aAt (F:Nat→UInt64) (m:Nat):nW F m m=(List.range m).map F:=by simp [nW]
theorem aDn:nmb 0=List.replicate 8 0:=by decide
theorem xR (m:Nat):madeCells (Value.agg zcs.toArray).cells (m * 8)=(ncs (List.replicate m 0)).toArray:=by
 have h:ncs (List.replicate m 0)=List.replicate (m * 8) (.int .u8 0):=by
  rw [aAE]
  have:(List.replicate m (0:UInt64)).flatMap nmb=List.replicate (m * 8) 0:=by
   rw [List.flatMap_replicate,aDn,List.flatten_replicate_replicate]
  rw [this];simp [bcs,bv]
 rw [h]
 apply Array.ext_getElem?
 intro i
 have h8:zcs.length=8:=rfl
 have hz:∀ j,j < 8→zcs.toArray[j]! = .int .u8 0:=by
  intro j hj
  match j,hj with
  | 0,_ | 1,_ | 2,_ | 3,_ | 4,_ | 5,_ | 6,_ | 7,_=>rfl
 simp only [madeCells,Value.cells]
 by_cases hi:i < m * 8
 ·have h9 := hz (i % 8) aa
  simp [hi,h8]
  simpa using h9
 simp [hi]
end
section
open Go.RowKit
theorem aDH (ds cs:Array Value) (o:Nat):ds.zipIdx.foldl (fun cs (x:Value × Nat)=>cs.setIfInBounds (o+x.2) x.1) cs=(ds.toList.zipIdx 0).foldl (fun a p=>a.setIfInBounds (o+p.2) p.1) cs:=by
 rw [← Array.foldl_toList,Array.toList_zipIdx]
theorem yA (ds cs:Array Value) (h:ds.size=cs.size):(ds.toList.zipIdx 0).foldl (fun a p=>a.setIfInBounds (0+p.2) p.1) cs=ds:=by
 exact xy
@[go_sem] theorem aJj (n:UInt64) (Z:Array Value) (hZ:Z.size=8):Array.foldl (fun cs x=>cs.setIfInBounds x.snd x.fst) Z (nmc n).zipIdx 0 (nmc n).size=nmc n:=by
 have h:=aDH (nmc n) Z 0
 rw [yA _ _ (by rw [dD,hZ])] at h
 simpa using h
@[go_sem] theorem aML (n:UInt64) (Z:Array Value) (hZ:Z.size=8):Array.foldl (fun cs x=>cs.setIfInBounds x.snd x.fst) Z (nmc n).zipIdx 0 8=nmc n:=by
 have h:=aJj n Z hZ
 rwa [dD] at h
attribute [go_sem] dD
def nb8 (n:UInt64) (i:Nat):Int:=(((nmb n).getD i 0).toNat:Int)
theorem gI (n:UInt64):#[.int .u8 (nb8 n 0),.int .u8 (nb8 n 1),.int .u8 (nb8 n 2),.int .u8 (nb8 n 3),.int .u8 (nb8 n 4),.int .u8 (nb8 n 5),.int .u8 (nb8 n 6),.int .u8 (nb8 n 7)]=nmc n:=by
 unfold nmc nb8
 rw [show bcs (nmb n)=bcs [(nmb n).getD 0 0,(nmb n).getD 1 0,(nmb n).getD 2 0,(nmb n).getD 3 0,(nmb n).getD 4 0,(nmb n).getD 5 0,(nmb n).getD 6 0,(nmb n).getD 7 0] from congrArg bcs (sC n)]
 rfl
attribute [go_sem] gI
theorem dM {w:World} {g:Nat} {t:TypeId} {n:UInt64} (h:Blk w g t (nmc n)):∀ i,i < 8→w.cell? ⟨g,i,none⟩=some (.int .u8 (nb8 n i)):=fun i hi=>by
 rw [h.cell i];exact jR n i hi
theorem mT {w:World} {b o:Nat} {n:UInt64} (h:w.rangeAt b o (bcs (nmb n))):∀ i,i < 8→w.cell? ⟨b,o+i,none⟩=some (.int .u8 (nb8 n i)):=fun i hi=>by
 refine h i _ ?_
 have hl:=aK n
 simp [bcs,bv,nb8,hl,hi]
theorem aCO (n:UInt64) (w:World):(Instr.buildSlice 22 1 #[(0,.agg (nmc n))]).run prog w=.ok (.slice (some ⟨w.heap.size,0,none⟩) 1 1) (w.alloc (.cells (nmc n) 50)):=by
 obtain ⟨i,hi,hz,hs,hby⟩:=cY.get
 have hsz:=dD n
 have hst:(sizeOf 50).run prog w=.ok 8 w:=by simp [sizeOf,typeInfo,hi,hs]
 have hzv:(zeroValue 50).run prog w=.ok (.agg zcs.toArray) w:=by simp [zeroValue,typeInfo,hi,hz]
 have hf:∀ Z:Array Value,Z.size=8→Instr.fill (fun i=>some (i * 8,8)) Z [(0,.agg (nmc n))]=some (nmc n):=by
  intro Z hZ
  simp only [Instr.fill,Value.cells,hsz,Nat.zero_mul]
  rw [if_neg (by simp [hZ]),aDH,yA _ _ (by rw [hsz,hZ])]
 simp [Instr.buildSlice,run_underlying cY.ut,hst,hzv,Value.cells]
 rw [hf _ dr]
 simp [newRow]
def lL (n:Int):Int:=if n=2 then 1024 else if n=1 then 32 else 0
def eT (n:Int):Int:=if n=2 then 370 else if n=1 then 186 else 0
theorem kO (n:Int) (w:World) :
  Calls prog 183 #[.int .i64 n] w fun e w'=>e=.returned (.int .i64 (lL n))∧w=w':=by
 by_cases h2:n=2
 ·subst h2
  exact zy
 by_cases h1:n=1
 ·subst h1
  exact zy
 have e:lL n=0:=by simp [lL,h1,h2]
 have b2:(n == 2)=false:=by simp [h2]
 have b1:(n == 1)=false:=by simp [h1]
 rw [e];clear e h1 h2
 exact zy
theorem kI (n:Int) (w:World) :
  Calls prog 147 #[.int .i64 n] w fun e w'=>e=.returned (.int .i64 (lL n))∧w=w':=by
 by_cases h2:n=2
 ·subst h2
  exact zz
 by_cases h1:n=1
 ·subst h1
  exact zz
 have e:lL n=0:=by simp [lL,h1,h2]
 have b2:(n == 2)=false:=by simp [h2]
 have b1:(n == 1)=false:=by simp [h1]
 rw [e];clear e h1 h2
 exact zz
theorem rM (n:Int) (w:World) :
  Calls prog 182 #[.int .i64 n] w fun e w'=>e=.returned (.int .i64 (eT n))∧w=w':=by
 by_cases h2:n=2
 ·subst h2
  exact z8
 by_cases h1:n=1
 ·subst h1
  exact z8
 have e:eT n=0:=by simp [eT,h1,h2]
 have b2:(n == 2)=false:=by simp [h2]
 have b1:(n == 1)=false:=by simp [h1]
 rw [e];clear e h1 h2
 exact z8
theorem lP (n:Int) (w:World) :
  Calls prog 146 #[.int .i64 n] w fun e w'=>e=.returned (.int .i64 (eT n))∧w=w':=by
 by_cases h2:n=2
 ·subst h2
  exact Aa
 by_cases h1:n=1
 ·subst h1
  exact Aa
 have e:eT n=0:=by simp [eT,h1,h2]
 rw [e];clear e
 by_cases hlo:n < 1
 ·go_enter func146, ntmps146
  go_wp2
  go_ret
  exact ⟨rfl,rfl⟩
 have hhi:2 < n:=aa
 exact Aa
theorem aMe (l:List UInt8) (h:2≤l.length):aZ l 0 2=(l[0]'(by omega)).toNat * 256+(l[1]'(by omega)).toNat:=by
 unfold aZ
 match l,h with
 | a :: b :: r,_=>simp [bT]
theorem or2 (x y:UInt8):bits .or .i64 (IntKind.i64.wrap ((x.toNat:Int) * 256)) (y.toNat:Int)=((x.toNat * 256+y.toNat:Nat):Int):=by
 have hx:=x.toNat_lt
 have hy:=y.toNat_lt
 have e:IntKind.i64.wrap ((x.toNat:Int) * 256)=((x.toNat * 256:Nat):Int):=dt
 have ho:x.toNat * 256 ||| y.toNat=x.toNat * 256+y.toNat:=by rw [show x.toNat * 256=x.toNat * 2 ^ 8 from rfl,xE _ _ 8 aa]
 have f:∀ a:Nat,a < 9223372036854775808→(BitVec.ofInt 64 (a:Int)).toNat=a:=fun a ha=>by
  rw [BitVec.ofInt_natCast,BitVec.toNat_ofNat];exact Nat.mod_eq_of_lt aa
 rw [e]
 show IntKind.i64.wrap ((BitVec.ofInt 64 ((x.toNat * 256:Nat):Int) ||| BitVec.ofInt 64 ((y.toNat:Nat):Int)).toNat:Int)=_
 rw [BitVec.toNat_or,f _ aa,f _ aa,ho,IntKind.wrap_i64]
 omega
theorem aLY (x y:UInt8):bits .or .i64 ((x.toNat:Int) * 256) (y.toNat:Int)=(x.toNat:Int) * 256+(y.toNat:Int):=by
 have hx:=x.toNat_lt
 have h:=or2 x y
 rw [show IntKind.i64.wrap ((x.toNat:Int) * 256)=(x.toNat:Int) * 256 from dt] at h
 rw [h];omega
end
section
open Go.RowKit
attribute [local go_sem ↓] Go.wp_at_zero Go.wp_at_succ
theorem eY (z:Int):IntKind.u8.wrap z=((toB z).toNat:Int):=by rw [← bM,IntKind.wrap_u8]
theorem kX {P:Program} {t e:TypeId} {ops:Array Oper} {o:Oper} {a:Act} {w:World} {K:Act→World→Prop} {Q:Exit→Act→World→Prop} {X:Prop} (E:Elem P t e (.int .u8 0) 1 1) (hgd:o.guard=none) (s x:Operand)
  (ho:o.op=.call { callee:=.builtin .append,args:=#[s,x],argTypes:=#[t,t] })
  (base:Nat) (A:Option Addr) (n c:Nat) (l:List UInt8) (hs:a.eval s=.slice A n c) (hown:OwnB w base e A n c l)
  (A2:Option Addr) (m c2:Nat) (l2:List UInt8) (hx:a.eval x=.slice A2 m c2) (hr:SlB w A2 m c2 l2)
  (hb:n+m≤140737488355328) (hbase:base≤w.heap.size)
  (h:∀ A' c' w',OwnB w' base e A' (n+m) c' (l ++ l2)→w.grownBy w' (Value.ownBlock (.slice A n c))→K (a.put o.dst (.slice A' (n+m) c')) w'):if Region.wanted o (yielded ops a.tmps)=true then Oper.wp P o a w K Q else X:=by
 have hw:Region.wanted o (yielded ops a.tmps)=true:=di
 rw [if_pos hw]
 refine oB E s x ho base A n c (bcs l) hs hown A2 m c2 (bcs l2) hx hr.rd ff (dU l2) aa aa hbase fun A' c' w' h2 h3=>h A' c' w' ?_ h3
 unfold OwnB;rw [fK];exact h2
theorem aBB {w:World} {base:Nat} {e:TypeId} {A:Option Addr} {n c:Nat} {l:List UInt8} (h:OwnB w base e A n c l):∀ k,Value.ownBlock (.slice A n c)=some k→base≤k∧k < w.heap.size:=fun k hk=>World.ownsRow.lt h k hk
theorem uY {w0 w w':World} {base:Nat} {e:TypeId} {A:Option Addr} {n c:Nat} {l:List UInt8} (h:OwnB w base e A n c l) (hb:Below base w0 w) (hs:base≤w.heap.size) (hg:w.grownBy w' (Value.ownBlock (.slice A n c))):Below base w0 w' :=
 hb.grown hg hs (fun k hk=>(aBB h k hk).1)
end
section
open Go.RowKit
def pN (c:UInt8):Lit:=.int .u8 (c.toNat:Int)
theorem aGk (c:UInt8):(Lit.int .u8 (c.toNat:Int)).wf=true:=by
 have:=c.toNat_lt
 simp [Lit.wf,IntKind.min,IntKind.max,IntKind.signed,IntKind.bits];omega
theorem aKs (c:UInt8):prog.keyLits 1 5 [.int .u8 (c.toNat:Int)]=some [pN c]:=by
 unfold Program.keyLits
 rw [underlying5]
 simp only
 rw [if_pos ⟨trivial,aGk c⟩];rfl
theorem aEb:prog.cellsOf 5=1:=by kernel_rfl
theorem tZ:prog.cellsOf 50=8:=by kernel_rfl
theorem aGl (n:UInt64):prog.keyLits 2 50 (bcs (nmb n))=some ((nmb n).map pN):=by
 unfold Program.keyLits
 rw [underlying50]
 simp only
 rw [if_pos (by rw [aT,aK,tZ]),aEb]
 rw [sC n]
 generalize (nmb n).getD 0 0=x0
 generalize (nmb n).getD 1 0=x1
 generalize (nmb n).getD 2 0=x2
 generalize (nmb n).getD 3 0=x3
 generalize (nmb n).getD 4 0=x4
 generalize (nmb n).getD 5 0=x5
 generalize (nmb n).getD 6 0=x6
 generalize (nmb n).getD 7 0=x7
 rw [show List.range 8=[0,1,2,3,4,5,6,7] from rfl]
 simp only [bcs,bv,List.map_cons,List.map_nil,List.mapM_cons,List.mapM_nil,Nat.zero_mul,Nat.one_mul,Nat.mul_one,List.drop_zero,List.drop_succ_cons,List.take_succ_cons,List.take_zero,aKs]
 rfl
theorem mO {a b:UInt64} (h:(nmb a).map pN=(nmb b).map pN):a=b:=by
 refine aKk ?_
 have hf:∀ x y:UInt8,pN x=pN y→x=y:=fun x y e=>by
  unfold pN at e;injection e with _ e;exact UInt8.toNat_inj.1 aa
 exact List.map_inj_right hf |>.1 h
theorem cE (a b:UInt64) (w:World):(binOp .eql 50 (.agg (nmc a)) (.agg (nmc b))).run prog w=.ok (.bool (decide (a=b))) w:=by
 have hE:=run_equalIn_deep (P:=prog) 9998 2 50 ab
 have hfm:∀ n:UInt64,(Value.agg (nmc n)).formed prog 50=true:=fun n=>by
  simp [Value.formed,underlying50,dD,tZ]
 have hk:∀ n:UInt64,prog.keyLits 2 50 (Value.agg (nmc n)).cells.toList=some ((nmb n).map pN):=fun n=>by
  show prog.keyLits 2 _ (nmc n).toList=_
  rw [bW];exact aGl n
 obtain ⟨r,hr,hiff⟩:=hE w 2 2 _ _ _ _ (hfm a) (hfm b) (hk a) (hk b)
 rw [run_eql_struct]
 have hr':(Op.equalIn 10000 50 (.agg (nmc a)) (.agg (nmc b))).run prog w=.ok r w:=hr
 rw [hr']
 have:r=decide (a=b):=by
  by_cases h:a=b
  ·subst h;simp [hiff.2 rfl]
  have:r ≠ true:=fun e=>h (mO (hiff.1 e))
  simp [h,this]
 rw [this];rfl
end
section
open Go.RowKit
attribute [local go_sem ↓] Go.wp_at_zero Go.wp_at_succ
theorem aMj (w:World):(Instr.makeSlice 34 (.int .i64 0) (.int .i64 144)).run prog w=.ok (.slice (some ⟨w.heap.size,0,none⟩) 0 144) (w.alloc (.cells (madeCells (Value.int .u8 0).cells 144) 5)):=by
 obtain ⟨i,hi,hz,hs,hby⟩:=bU.get
 have h:=run_make (P:=prog) w 34 5 i (.int .u8 0) bU.ut hi hz .i64 .i64 0 144 aa aa f7 aa
 simpa [hs] using h
theorem tQ (ns:List UInt64) (k:Nat) (hk:k < ns.length):(ns.take (k+1)).flatMap nmb=(ns.take k).flatMap nmb ++ nmb (ns.getD k 0):=by
 have e:ns[k]=ns.getD k 0:=by simp [hk]
 rw [List.take_succ_eq_append_getElem hk,List.flatMap_append,e];simp
theorem aEV (A:Option Addr) (n c:Nat) (ns:List UInt64) (w:World) (h:SlN w A n c ns) (hm:n≤1000000) :
  Calls prog 240 #[.slice A n c] w fun e w'=>e=.returned (.agg (nmc (dY 34 (ns.flatMap nmb))))∧Ext w w':=by
 have hmk:=aMj
 have hlen:=h.len
 go_enter func240,ntmps240
 go_wp2_with fail
 go_loopw [3,9] (fun o i wr=>∃ (k:Nat) (A':Option Addr) (c':Nat),k≤n∧i=.int .i64 (k:Int)∧o=.slice A' (8 * k) c'∧OwnB wr (w.heap.size+1) 5 A' (8 * k) c' ((ns.take k).flatMap nmb)∧Below (w.heap.size+1) (w.alloc (.cells zcs.toArray 50)) wr∧w.heap.size+1≤wr.heap.size) (fun _ i _=>n - (intOf i).toNat)
 case atStart=>exact ⟨0,_,_,aa,rfl,rfl,OwnB.made _ _ _ 144 _ dr (Nat.le_refl _) aa (size_madeCells _ _),Below.alloc (Below.refl _ _) dr _,dr⟩
 case round =>
  obtain ⟨k,A',c',hk,rfl,rfl,hO,hB,hsz⟩:=hrel
  by_cases hlt:k < n
  ·have hrk := h.ext (((Ext.refl w).alloc' _).trans qz)
   obtain ⟨b,o,rfl,hra,hbl⟩:=hrk.at aa
   have hnm:=aBD hra (k:=k) aa
   have HF:=zh (tQ ns k aa)
   generalize ns.getD k 0=x at *
   generalize (ns.take k).flatMap nmb=l at *
   go_wp2_with (first | (with_reducible refine aM rfl (.tmp 11) rfl b (o+k * 8) rfl x hnm ?_) | (refine nP rfl (.tmp 5) (.tmp 12) rfl wr.heap.size x rfl rfl rfl ?_) | (at_builtin;go_must (refine cB bU rfl (.tmp 13) (.tmp 14) rfl (w.heap.size+1) _ _ _ l rfl (hO.alloc _) _ _ _ (nmb x) rfl ?r1 ?b1 ?c1 (w.alloc (.cells zcs.toArray 50)) ?w1 ?_)))
   case r1=>exact SlB.blkN (Blk.new wr _ (nmc x))
   case b1=>omega
   case c1=>simp;omega
   case w1=>exact Below.alloc hB hsz _
   exact AM
  obtain rfl:k=n:=aa
  have HF:=zh (show (ns.take k).flatMap nmb=ns.flatMap nmb by rw [List.take_of_length_le aa])
  rw [HF.out] at hO
  clear HF
  go_wp2_with fail
  refine zcl (iC 34 _ _ _ _ _ hO.sl aa) fun w3 he3=>?_
  exact uz
theorem uM (A:Option Addr) (n c:Nat) (ns:List UInt64) (w:World) (h:SlN w A n c ns) (hm:n≤1000000) :
  Calls prog 204 #[.slice A n c] w fun e w'=>e=.returned (.agg (nmc (dY 34 (ns.flatMap nmb))))∧Ext w w':=by
 have hlen:=h.len
 go_enter func204,ntmps204
 go_wp2_with fail
 go_loopw [3,4] (fun o i wr=>∃ (k:Nat) (A':Option Addr) (c':Nat),k≤n∧i=.int .i64 (k:Int)∧o=.slice A' (8 * k) c'∧OwnB wr (w.heap.size+1) 5 A' (8 * k) c' ((ns.take k).flatMap nmb)∧Below (w.heap.size+1) (w.alloc (.cells zcs.toArray 50)) wr∧w.heap.size+1≤wr.heap.size) (fun _ i _=>n - (intOf i).toNat)
 case atStart=>exact ⟨0,_,_,aa,rfl,rfl,OwnB.nil _ _ _,Below.refl _ _,dr⟩
 case round =>
  obtain ⟨k,A',c',hk,rfl,rfl,hO,hB,hsz⟩:=hrel
  by_cases hlt:k < n
  ·have hrk := h.ext (((Ext.refl w).alloc' _).trans qz)
   obtain ⟨b,o,rfl,hra,hbl⟩:=hrk.at aa
   have hnm:=aBD hra (k:=k) aa
   have HF:=zh (tQ ns k aa)
   generalize ns.getD k 0=x at *
   generalize (ns.take k).flatMap nmb=l at *
   go_wp2_with (at_builtin;go_must (refine cB bU rfl (.tmp 11) (.tmp 15) rfl (w.heap.size+1) _ _ _ l rfl hO _ _ _ (nmb x) rfl ?r1 ?b1 hsz (w.alloc (.cells zcs.toArray 50)) hB ?_))
   case r1=>exact ⟨aK x,Nat.le_refl _,aa,.inr ⟨b,o+k * 8,rfl,hnm⟩⟩
   case b1=>omega
   exact AM
  obtain rfl:k=n:=aa
  have HF:=zh (show (ns.take k).flatMap nmb=ns.flatMap nmb by rw [List.take_of_length_le aa])
  rw [HF.out] at hO
  clear HF
  go_wp2_with fail
  refine zcl (dA 34 _ _ _ _ _ hO.sl aa) fun w3 he3=>?_
  exact uz
def qE (seed:UInt64) (c:Nat):UInt64:=dY 32 (nmb seed ++ [toB (c:Int)])
def aBz (seed:UInt64) (c:Nat):UInt64:=cS (qE seed c) (c:Int) 0 15
def xG (seed:UInt64):UInt64:=dY 34 (((List.range 18).map (aBz seed)).flatMap nmb)
def dig (m:UInt64) (c:Nat):Int:=(qT m).getD c 0
def qG (seed m:UInt64) (c:Nat):UInt64:=cS (qE seed c) (c:Int) 0 (dig m c).toNat
def gQ (seed m:UInt64):List UInt64:=(List.range 18).map (qG seed m)
def dO (l:List UInt64) (k:Nat):UInt64:=l.getD k 0
theorem lH {w:World} {ns:List UInt64} {b o k:Nat} (h:w.rangeAt b o (ncs ns)) (hk:k < ns.length):w.rangeAt b (o+k * 8) (bcs (nmb (dO ns k))):=aBD h hk
def pM (m:UInt64) (sig:List UInt64) (c:Nat):UInt64:=cS (dO sig c) (c:Int) (dig m c) (15 - dig m c).toNat
def aO (m:UInt64) (sig:List UInt64):UInt64:=dY 34 (((List.range 18).map (pM m sig)).flatMap nmb)
theorem aMh (F:Nat→UInt64) (w:World):(Instr.makeSlice 22 (.int .i64 18) (.int .i64 18)).run prog w=.ok (.slice (some ⟨w.heap.size,0,none⟩) 18 18) (w.alloc (.cells (ncs (nW F 18 0)).toArray 50)):=by
 obtain ⟨i,hi,hz,hs,hby⟩:=cY.get
 have h:=run_make (P:=prog) w 22 50 i (.agg zcs.toArray) cY.ut hi hz .i64 .i64 18 18 aa aa f7 aa
 rw [hs,show (18:Int).toNat * 8=18 * 8 from rfl,xR] at h
 simpa [nW] using h
theorem dL {w:World} {g:Nat} {t:TypeId} {n:UInt64} (h:Blk w g t (nmc n)):w.rangeAt g 0 (bcs (nmb n)):=by have:=aC h;rwa [bW] at this
theorem tE (seed:UInt64) (k:Nat) (w:World):Calls prog 167 #[.agg (nmc seed),.int .i64 (k:Int)] w fun e w'=>e=.returned (.agg (nmc (qE seed k)))∧Ext w w':=aBn seed k w
theorem aJz (seed:UInt64) (k:Nat) (w:World):Calls prog 166 #[.agg (nmc (qE seed k)),.int .i64 (k:Int),.int .i64 0,.int .i64 15] w fun e w'=>e=.returned (.agg (nmc (aBz seed k)))∧Ext w w' :=
 nE _ k 0 15 w (by omega) (by omega) (by omega) (by omega)
theorem Rd.newN (w:World) (t:TypeId) (n:UInt64) (g:Nat) (hg:w.heap.size=g):Rd (w.alloc (.cells (nmc n) t)) (some ⟨g,0,none⟩) (ncs [n]):=by
 subst hg;have:=Rd.of_blk (Blk.new w t (nmc n));rw [bW] at this;simpa [ncs] using this
theorem tF (seed:UInt64) (w:World) :
  Calls prog 164 #[.agg (nmc seed)] w fun e w'=>e=.returned (.agg (nmc (xG seed)))∧Ext w w':=by
 go_enter func164,ntmps164
 go_wp2_with fail
 go_loopw [3,4] (fun o i wr=>∃ (k:Nat) (A:Option Addr) (c:Nat),k≤18∧i=.int .i64 (k:Int)∧o=.slice A k c∧wr.ownsRow (w.heap.size+2) 50 8 (.slice A k c) k (ncs ((List.range k).map (aBz seed)))∧Below (w.heap.size+2) ((w.alloc (.cells (nmc seed) 50)).alloc (.cells zcs.toArray 50)) wr∧w.heap.size+2≤wr.heap.size) (fun _ i _=>18 - (intOf i).toNat)
 case atStart=>exact ⟨0,_,_,aa,rfl,rfl,World.ownsRow_nil _ _ _ _,Below.refl _ _,dr⟩
 case round =>
  obtain ⟨k,A,c,hk,rfl,rfl,hO,hB,hsz⟩:=hrel
  have hS:Blk wr w.heap.size 50 (nmc seed):=((Blk.new w _ _).alloc _).below hB aa
  have hZ:Blk wr (w.heap.size+1) 50 zcs.toArray:=(Blk.newAt _ _ _ _ dr).below hB aa
  by_cases hlt:k < 18
  ·have hrs := dL hS
   have HR:=zh (show (List.range (k+1)).map (aBz seed)=(List.range k).map (aBz seed) ++ [aBz seed k] by rw [List.range_succ,List.map_append];rfl)
   go_wp2_with (with_reducible refine aM rfl (.tmp 1) rfl w.heap.size 0 rfl seed hrs ?_)
   refine zcl (tE seed k _) fun w1 he1=>?_
   go_wp2_with fail
   refine zcl (aJz _ _ _) fun w2 he2=>?_
   have hE2:=Ext.trans he1 he2
   have hO2:=bC hO hE2
   have hB2:=Below.trans hB (hE2.mono hsz)
   have hsz2:w.heap.size+2≤w2.heap.size:=Nat.le_trans hsz hE2.size
   go_wp2_with (at_builtin;go_must (refine fS cY rfl (.tmp 9) (.tmp 15) rfl (w.heap.size+2) _ _ _ _ rfl (hO2.alloc _) _ _ _ (ncs [aBz seed k]) rfl (Rd.newN _ _ _ _ rfl) kn (lU _) ?b1 ?c1 ?d1 ((w.alloc (.cells (nmc seed) 50)).alloc (.cells zcs.toArray 50)) ?w1 ?_))
   case b1=>omega
   case c1=>omega
   case d1=>simp;omega
   case w1=>exact Below.alloc hB2 hsz2 _
   intro A1 c1 w3 ho3 hw3 hs3
   go_wp2_with fail
   go_roundw
   case rel=>exact ⟨k+1,A1,c1,aa,ar,ar,ln,hw3,aa⟩
   case measure=>simp [intOf];omega
  obtain rfl:k=18:=aa
  go_wp2_with fail
  refine zcl (uM _ _ _ _ _ (SlN.of_own hO) aa) fun w3 he3=>?_
  have hb0:=hZ.ext he3
  go_wp2_with (with_reducible refine bE rfl _ _ rfl (w.heap.size+1) 0 _ rfl rfl (eC hb0) ?_)
  refine bodyPost_ret (v:=.agg (nmc (xG seed))) (eQ rfl _ _ (w.heap.size+1) _ rfl (blkN hb0 _)) rfl ⟨rfl,Below.setCells' (Below.trans ((((Ext.refl w).alloc' _).alloc' _).trans qz) (he3.mono aa)) aa _ _⟩
theorem aMm (l:List UInt8):∀ z ∈ dg l,0≤z∧z≤15:=by
 intro z hz
 simp only [dg,List.mem_flatMap] at hz
 obtain ⟨c,_,hc⟩:=hz
 have:=c.toNat_lt
 simp at hc
 omega
theorem aJu (m:UInt64):∀ z ∈ qT m,0≤z∧z≤15:=by
 intro z hz
 unfold qT at hz
 rw [List.mem_append] at hz
 rcases hz with h | h
 ·exact aMm _ z h
 have hd:=aBX (nmb m)
 rw [aK] at hd
 simp at h
 omega
theorem aBZ (m:UInt64) (c:Nat) (hc:c < 18):0≤dig m c∧dig m c≤15:=by
 have hl:=iN m
 refine aJu m _ ?_
 unfold dig
 have:(qT m).getD c 0=(qT m)[c]' aa:=by simp [hl,hc]
 rw [this]
 exact List.getElem_mem _
theorem pH {w:World} {b o:Nat} {m:UInt64} (h:w.rangeAt b o (ics (qT m))) (k:Nat) (hk:k < 18):w.cell? ⟨b,o+k,none⟩=some (.int .i64 (dig m k)):=by
 have hl:=iN m
 refine h k _ ?_
 simp [ics,iv,dig,hl,hk]
theorem aEa (seed m:UInt64) (k:Nat) (hk:k < 18) (w:World):Calls prog 166 #[.agg (nmc (qE seed k)),.int .i64 (k:Int),.int .i64 0,.int .i64 (dig m k)] w fun e w'=>e=.returned (.agg (nmc (qG seed m k)))∧Ext w w':=by
 have hb:=aBZ m k hk
 have:=nE (qE seed k) k 0 (dig m k) w aa aa aa aa
 rwa [Int.sub_zero] at this
theorem aJS (m:UInt64) (sig:List UInt64) (k:Nat) (hk:k < 18) (w:World):Calls prog 239 #[.agg (nmc (dO sig k)),.int .i64 (k:Int),.int .i64 (dig m k),.int .i64 15] w fun e w'=>e=.returned (.agg (nmc (pM m sig k)))∧Ext w w':=by
 have hb:=aBZ m k hk
 exact aHX _ k (dig m k) 15 w aa aa aa aa
theorem aJy (m:UInt64) (sig:List UInt64) (k:Nat) (hk:k < 18) (w:World):Calls prog 166 #[.agg (nmc (dO sig k)),.int .i64 (k:Int),.int .i64 (dig m k),.int .i64 15] w fun e w'=>e=.returned (.agg (nmc (pM m sig k)))∧Ext w w':=by
 have hb:=aBZ m k hk
 exact nE _ k (dig m k) 15 w aa aa aa aa
theorem oP (seed m:UInt64) (w:World) :
  Calls prog 111 #[.agg (nmc seed),.agg (nmc m)] w fun e w'=>∃ A c,e=.returned (.slice A 18 c)∧SlN w' A 18 c (gQ seed m)∧Ext w w':=by
 go_enter func111,ntmps111
 go_wp2_with (with_reducible refine aM rfl (.tmp 3) rfl (w.heap.size+1) 0 rfl m ?h1 ?_)
 case h1=>exact dL (Blk.newAt _ _ _ _ dr)
 go_wp2_with fail
 refine (mA m _).mono ?_
 rintro e w0 ⟨b,cd,rfl,hra,hbg,he0⟩
 go_wp2_with fail
 have hS0:Blk w0 w.heap.size 50 (nmc seed):=((Blk.new w _ _).alloc _).ext he0
 have hE0:Ext w w0:=(((Ext.refl w).alloc' _).alloc' _).trans he0
 have hbl:=jL hra gu
 go_loopw [6,7] (fun v i wr=>∃ (k:Nat) (A:Option Addr) (c:Nat),k≤18∧i=.int .i64 (k:Int)∧v=.slice A k c∧wr.ownsRow w0.heap.size 50 8 (.slice A k c) k (ncs ((List.range k).map (qG seed m)))∧Ext w0 wr) (fun _ i _=>18 - (intOf i).toNat)
 case atStart=>exact ⟨0,_,_,aa,rfl,rfl,World.ownsRow_nil _ _ _ _,Ext.refl _⟩
 case round =>
  obtain ⟨k,A,c,hk,rfl,rfl,hO,hB⟩:=hrel
  by_cases hlt:k < 18
  ·exact tp
  obtain rfl:k=18:=aa
  go_wp2_with fail
  go_ret
  exact ⟨A,c,rfl,SlN.of_own hO,hE0.trans hB⟩
theorem aFV {fn:Func} {p q:Tmp} (hres:fn.results=#[.cell p 50,.tmp q]) (tmps:Array Value) (w1:World) (g:Nat) (r:UInt64) (v:Value) (hp:tmps.getD p undef=.pointer (some ⟨g,0,none⟩)) (hq:tmps.getD q undef=v) (hb:Blk w1 g 50 (nmc r)) :
  (results fn tmps).run prog w1=.ok (.tuple #[.agg (nmc r),v]) w1:=by
 have hp':tmps[p]?.getD undef=.pointer (some ⟨g,0,none⟩):=qk
 have hq':tmps[q]?.getD undef=v:=qj
 simp [results,hres,hp',hq',asAddr,run_loadVar_row w1 g 50 50 (nmc r) (0,0) _ hb underlying50 rfl (fJ r)]
theorem uN (m:UInt64) (A:Option Addr) (c:Nat) (sig:List UInt64) (w:World) (h:SlN w A 18 c sig) :
  Calls prog 220 #[.agg (nmc m),.slice A 18 c] w fun e w'=>e=.returned (.tuple #[.agg (nmc (aO m sig)),.bool true])∧Ext w w':=by
 have hmk:=aMh (pM m sig)
 obtain ⟨b1,o1,rfl,hr1,hb1⟩:=h.at aa
 have hlen:=h.len
 go_enter func220,ntmps220
 go_wp2_with (with_reducible refine aM rfl (.tmp 2) rfl w.heap.size 0 rfl m ?h1 ?_)
 case h1=>exact dL (((Blk.new w _ _).alloc _).alloc _)
 go_wp2_with fail
 refine (aFr m _).mono ?_
 rintro e w0 ⟨b,cd,rfl,hra,hbg,he0⟩
 go_wp2_with fail
 have hZ0:Blk w0 (w.heap.size+1) 50 zcs.toArray:=((Blk.newAt _ _ _ _ dr).alloc _).ext he0
 have hT0:Blk w0 (w.heap.size+2) 50 (ncs (nW (pM m sig) 18 0)).toArray:=(Blk.newAt _ _ _ _ dr).ext he0
 have hE0:Ext w w0:=((((Ext.refl w).alloc' _).alloc' _).alloc' _).trans he0
 have hbw:b ≠ w.heap.size+2:=by simp at hbg;omega
 go_loopw [17] (fun i wr=>∃ (k:Nat),k≤18∧i=.int .i64 (k:Int)∧Blk wr (w.heap.size+1) 50 zcs.toArray∧Blk wr (w.heap.size+2) 50 (ncs (nW (pM m sig) 18 k)).toArray∧wr.rangeAt b 0 (ics (qT m))∧Ext w wr) (fun i _=>18 - (intOf i).toNat)
 case atStart=>exact ⟨0,aa,rfl,hZ0,hT0,hra,hE0⟩
 case round =>
  obtain ⟨k,hk,rfl,hZ,hT,hra,hE⟩:=hrel
  by_cases hlt:k < 18
  ·have hcd := pH hra k hlt
   rw [Nat.zero_add] at hcd
   have hrs:=lH (aY hr1 (hE.block b1 hb1)) (k:=k) aa
   go_wp2_with (with_reducible refine aM rfl (.tmp 26) rfl b1 (o1+k * 8) rfl (dO sig k) hrs ?_)
   refine zcl (aJS m sig k hlt _) fun w2 hE2=>?_
   have hT2:=hT.ext hE2
   have hF:=zh (aCC (pM m sig) 18 k hlt)
   have hth:w2.there (w.heap.size+2) (k * 8) 8:=aAs hT2 (by rw [List.size_toArray,cR,lN _ _ _ hk];omega)
   have hra2:=aY hra (hE2.block b (jL hra gu))
   go_wp2_with (with_reducible refine bE rfl _ _ rfl (w.heap.size+2) (k * 8) _ rfl rfl hth ?_)
   go_roundw
   case rel=>exact ⟨k+1,aa,ar,(hZ.ext hE2).setCells_far aa _ _,by rw [← hF.out];exact aJB hT2 (by rw [lN _ _ _ hk];exact hlt) _,World.rangeAt_setCells_apart hra2 _ _ _ (.inl hbw),Below.setCells' (Ext.trans hE hE2) aa _ _⟩
   case measure=>simp [intOf];omega
  obtain rfl:k=18:=aa
  rw [aAt] at hT
  have hsl:SlN wr (some ⟨w.heap.size+2,0,none⟩) 18 18 ((List.range 18).map (pM m sig)):=SlN.of_blk hT dr aa
  go_wp2_with fail
  refine zcl (aEV _ _ _ _ _ hsl aa) fun w3 he3=>?_
  have hb0:=hZ.ext he3
  go_wp2_with (with_reducible refine bE rfl _ _ rfl (w.heap.size+1) 0 _ rfl rfl (eC hb0) ?_)
  refine bodyPost_ret (v:=.tuple #[.agg (nmc (aO m sig)),.bool true]) (aFV rfl _ _ (w.heap.size+1) _ _ rfl rfl (blkN hb0 _)) rfl ⟨rfl,Below.setCells' (Ext.trans hE he3) aa _ _⟩
theorem eZ (m:UInt64) (A:Option Addr) (c1:Nat) (sig:List UInt64) (w:World) (h:SlN w A 18 c1 sig) :
  Calls prog 148 #[.agg (nmc m),.slice A 18 c1] w fun e w'=>e=.returned (.tuple #[.agg (nmc (aO m sig)),.bool true])∧Ext w w':=by
 obtain ⟨b1,o1,rfl,hr1,hb1⟩:=h.at aa
 have hlen:=h.len
 go_enter func148,ntmps148
 go_wp2_with (with_reducible refine aM rfl (.tmp 2) rfl w.heap.size 0 rfl m ?h1 ?_)
 case h1=>exact dL ((Blk.new w _ _).alloc _)
 go_wp2_with fail
 refine (mA m _).mono ?_
 rintro e w0 ⟨b,cd,rfl,hra,hbg,he0⟩
 go_wp2_with fail
 have hZ0:Blk w0 (w.heap.size+1) 50 zcs.toArray:=(Blk.newAt _ _ _ _ dr).ext he0
 have hE0:Ext w w0:=(((Ext.refl w).alloc' _).alloc' _).trans he0
 have hbl:=jL hra gu
 have hb1l:b1 < w0.heap.size:=Nat.lt_of_lt_of_le hb1 hE0.size
 have hr10:=aY hr1 (hE0.block b1 hb1)
 go_loopw [7,8] (fun v i wr=>∃ (k:Nat) (A:Option Addr) (c:Nat),k≤18∧i=.int .i64 (k:Int)∧v=.slice A k c∧wr.ownsRow w0.heap.size 50 8 (.slice A k c) k (ncs ((List.range k).map (pM m sig)))∧Ext w0 wr) (fun _ i _=>18 - (intOf i).toNat)
 case atStart=>exact ⟨0,_,_,aa,rfl,rfl,World.ownsRow_nil _ _ _ _,Ext.refl _⟩
 case round =>
  obtain ⟨k,A,c,hk,rfl,rfl,hO,hB⟩:=hrel
  by_cases hlt:k < 18
  ·have HR := zh (show (List.range (k + 1)).map (pM m sig) = (List.range k).map (pM m sig) ++ [pM m sig k] by rw [List.range_succ, List.map_append]; rfl)
   have hk8:(k:Int) < 18:=aa
   have SS:∀ w',Ext w0 w'→(∀ i,i < 8→w'.cell? ⟨b1,o1+k * 8+i,none⟩=some (.int .u8 (nb8 (dO sig k) i)))∧w'.cell? ⟨b1,o1+k * 8,none⟩=some (.int .u8 (nb8 (dO sig k) 0))∧w'.cell? ⟨b,k,none⟩=some (.int .i64 (dig m k)):=fun w' hx =>
    ⟨mT (lH (aY hr10 (hx.block b1 hb1l)) (k:=k) aa),mT (lH (aY hr10 (hx.block b1 hb1l)) (k:=k) aa) 0 aa,(hx.cell (p:=⟨b,k,none⟩) hbl).trans gi⟩
   have HSS:=zh SS
   clear SS
   have hszr:=hB.size
   have hX0:Ext wr wr.drew:=(Ext.refl wr).drew'
   have hG:∀ (w2:World) (o:Obj),w0.heap.size≤w2.heap.size→w0.heap.size≤(w2.alloc o).heap.size:=fun w2 o h=>gj
   have HG:=zh hG
   clear hG
   go_wp2_with fail
   go_region_held3 (fun w'=>(∀ i,i < 8→w'.cell? ⟨b1,o1+k * 8+i,none⟩=some (.int .u8 (nb8 (dO sig k) i)))∧w'.cell? ⟨b1,o1+k * 8,none⟩=some (.int .u8 (nb8 (dO sig k) 0))∧w'.cell? ⟨b,k,none⟩=some (.int .i64 (dig m k))) (first | exact HSS.out _ (hB.trans hX0) | exact HSS.out _ (hB.trans hX2) | exact HSS.out _ ((hB.trans hX2).alloc' _) | exact HSS.out _ hw3) (first | (go_at_call 166;refine (aJy m sig k hlt _).mono ?_;rintro e w2 ⟨rfl,he2⟩;have hX2:=hX0.trans he2;have hO2:=bC hO hX2;have hsz2:=Nat.le_trans hszr hX2.size) | (refine rL cY rfl (.tmp 19) (.tmp 30) rfl w0.heap.size A k c (ncs ((List.range k).map (pM m sig))) dp (hO2.alloc _) (some ⟨w2.heap.size,0,none⟩) 1 1 (ncs [pM m sig k]) dp (Rd.newN _ _ _ _ rfl) kn (lU _) aa aa (HG.out _ _ hsz2) w0 (Below.alloc (Below.trans hB (hX2.mono hszr)) hsz2 _) ?_;intro A1 c1 w3 ho3 hw3 hs3))
   exact Ba
  obtain rfl:k=18:=aa
  go_wp2_with fail
  refine zcl (uM _ _ _ _ _ (SlN.of_own hO) aa) fun w3 he3=>?_
  have hb0:=(hZ0.ext hB).ext he3
  go_wp2_with (with_reducible refine bE rfl _ _ rfl (w.heap.size+1) 0 _ rfl rfl (eC hb0) ?_)
  refine bodyPost_ret (v:=.tuple #[.agg (nmc (aO m sig)),.bool true]) (aFV rfl _ _ (w.heap.size+1) _ _ rfl rfl (blkN hb0 _)) rfl ⟨rfl,Below.setCells' ((hE0.trans hB).trans he3) aa _ _⟩
end
section
open Go.RowKit
def nQ:Nat→Nat→Nat→Nat
 | 0,_,k=>k
 | f+1,n,k=>if k < n - k then nQ f n (2 * k) else k
def spl (n:Nat):Nat:=nQ n n 1
theorem aIi (f n k:Nat) (h1:1≤k) (h2:k < n):1≤nQ f n k∧nQ f n k < n:=by
 induction f generalizing k with
 | zero=>exact ⟨h1,h2⟩
 | succ f ih =>
  unfold nQ
  split
  ·exact ih (2 * k) aa aa
  exact ⟨h1,h2⟩
theorem fW (n:Nat) (h:2≤n):1≤spl n∧spl n < n:=aIi n n 1 (by omega) (by omega)
theorem wL (f n k:Nat) (h:¬ k < n - k):nQ f n k=k:=by
 cases f with
 | zero=>rfl
 | succ f=>unfold nQ;rw [if_neg h]
theorem aCI (f n k:Nat) (hk:1≤k) (hf:n - k≤f) (h:k < n - k):nQ f n k=nQ (f - 1) n (2 * k):=by
 cases f with
 | zero=>omega
 | succ f=>rw [nQ,if_pos h];rfl
def sH (x:UInt64):UInt64:=dY 17 (nmb x)
def dS (l:List UInt64):UInt64 :=
 if h:2≤l.length then jE 18 (dS (l.take (spl l.length))) (dS (l.drop (spl l.length)))
 else match l with
  | []=>dY 16 []
  | x :: _=>sH x
termination_by l.length
decreasing_by
 ·have:=fW _ h;simp;omega
 have:=fW _ h;simp;omega
theorem aGT:dS []=dY 16 []:=by rw [dS];simp
theorem aAA (x:UInt64):dS [x]=sH x:=by rw [dS];simp
theorem qI (l:List UInt64) (h:2≤l.length):dS l=jE 18 (dS (l.take (spl l.length))) (dS (l.drop (spl l.length))):=by rw [dS,dif_pos h]
def gP (l:List UInt64) (i:Nat):List UInt64 :=
 if h:2≤l.length then
  if i < spl l.length then gP (l.take (spl l.length)) i ++ [dS (l.drop (spl l.length))]
  else gP (l.drop (spl l.length)) (i - spl l.length) ++ [dS (l.take (spl l.length))]
 else []
termination_by l.length
decreasing_by
 ·have:=fW _ h;simp;omega
 have:=fW _ h;simp;omega
theorem uQ (l:List UInt64) (i:Nat) (h:¬ 2≤l.length):gP l i=[]:=by rw [gP,dif_neg h]
theorem tH (l:List UInt64) (i:Nat) (h:2≤l.length) (hi:i < spl l.length):gP l i=gP (l.take (spl l.length)) i ++ [dS (l.drop (spl l.length))]:=by rw [gP,dif_pos h,if_pos hi]
theorem qM (l:List UInt64) (i:Nat) (h:2≤l.length) (hi:¬ i < spl l.length):gP l i=gP (l.drop (spl l.length)) (i - spl l.length) ++ [dS (l.take (spl l.length))]:=by rw [gP,dif_pos h,if_neg hi]
def eK (i n:Nat):Nat :=
 if h:2≤n then (if i < spl n then eK i (spl n) else eK (i - spl n) (n - spl n))+1 else 0
termination_by n
decreasing_by
 ·have:=fW _ h;omega
 have:=fW _ h;omega
theorem jO (i n:Nat) (h:¬ 2≤n):eK i n=0:=by rw [eK,dif_neg h]
theorem gX (i n:Nat) (h:2≤n) (hi:i < spl n):eK i n=eK i (spl n)+1:=by rw [eK,dif_pos h,if_pos hi]
theorem fO (i n:Nat) (h:2≤n) (hi:¬ i < spl n):eK i n=eK (i - spl n) (n - spl n)+1:=by rw [eK,dif_pos h,if_neg hi]
theorem rZ (l:List UInt64) (i:Nat):(gP l i).length=eK i l.length:=by
 generalize hn:l.length=n
 induction n using Nat.strongRecOn generalizing l i with
 | _ n ih =>
  subst hn
  by_cases h:2≤l.length
  ·have hb := fW _ h
   by_cases hi:i < spl l.length
   ·rw [tH l i h hi,gX _ _ h hi,List.length_append,ih (spl l.length) hb.2 (l.take (spl l.length)) i gj];rfl
   rw [qM l i h hi,fO _ _ h hi,List.length_append,ih (l.length - spl l.length) aa (l.drop (spl l.length)) _ dr];rfl
  rw [uQ l i h,jO _ _ h];rfl
def bD (leaf:UInt64) (i n:Nat) (path:List UInt64):UInt64 :=
 if h:2≤n then
  if i < spl n then jE 18 (bD leaf i (spl n) path.dropLast) (path.getLastD 0)
  else jE 18 (path.getLastD 0) (bD leaf (i - spl n) (n - spl n) path.dropLast)
 else sH leaf
termination_by n
decreasing_by
 ·have:=fW _ h;omega
 have:=fW _ h;omega
theorem oZ (leaf:UInt64) (i n:Nat) (path:List UInt64) (h:¬ 2≤n):bD leaf i n path=sH leaf:=by rw [bD,dif_neg h]
theorem tV (leaf:UInt64) (i n:Nat) (path:List UInt64) (h:2≤n) (hi:i < spl n):bD leaf i n path=jE 18 (bD leaf i (spl n) path.dropLast) (path.getLastD 0):=by rw [bD,dif_pos h,if_pos hi]
theorem qU (leaf:UInt64) (i n:Nat) (path:List UInt64) (h:2≤n) (hi:¬ i < spl n):bD leaf i n path=jE 18 (path.getLastD 0) (bD leaf (i - spl n) (n - spl n) path.dropLast):=by rw [bD,dif_pos h,if_neg hi]
theorem aDR (l:List UInt64) (i:Nat) (hi:i < l.length):bD (l.getD i 0) i l.length (gP l i)=dS l:=by
 generalize hn:l.length=n
 induction n using Nat.strongRecOn generalizing l i with
 | _ n ih =>
  subst hn
  by_cases h:2≤l.length
  ·have hb := fW _ h
   by_cases hk:i < spl l.length
   ·rw [tV _ _ _ _ h hk, qI l h, tH l i h hk]
    have e:=ih (spl l.length) hb.2 (l.take (spl l.length)) i gj gj
    have e2:(l.take (spl l.length)).getD i 0=l.getD i 0:=by simp [List.getElem?_take,hk]
    rw [e2] at e
    rw [List.dropLast_concat,List.getLastD_concat,e]
   rw [qU _ _ _ _ h hk,qI l h,qM l i h hk]
   have e:=ih (l.length - spl l.length) aa (l.drop (spl l.length)) (i - spl l.length) gj dr
   have e2:(l.drop (spl l.length)).getD (i - spl l.length) 0=l.getD i 0:=by
    simp [List.getElem?_drop,show spl l.length+(i - spl l.length)=i from aa]
   rw [e2] at e
   rw [List.dropLast_concat,List.getLastD_concat,e]
  have h1:l.length=1:=aa
  obtain ⟨x,rfl⟩:=List.length_eq_one_iff.1 h1
  obtain rfl:i=0:=by simp at hi;omega
  rw [oZ _ _ _ _ dr,aAA];rfl
end
section
open Go.RowKit
attribute [local go_sem ↓] Go.wp_at_zero Go.wp_at_succ
theorem pD (n:Nat) (w:World) (h2:2≤n) (hm:n≤1000000) :
  Calls prog 247 #[.int .i64 (n:Int)] w fun e w'=>e=.returned (.int .i64 (spl n:Int))∧w=w':=by
 go_enter func247,ntmps247
 exact uj
theorem gF (n:Nat) (w:World) (h2:2≤n) (hm:n≤1000000) :
  Calls prog 162 #[.int .i64 (n:Int)] w fun e w'=>e=.returned (.int .i64 (spl n:Int))∧w=w':=by
 go_enter func162,ntmps162
 exact uj
theorem aED (x:UInt64) (w:World) :
  Calls prog 248 #[.agg (nmc x)] w fun e w'=>e=.returned (.agg (nmc (sH x)))∧Ext w w':=by
 go_enter func248,ntmps248
 go_wp2_with fail
 refine (iC 17 _ _ _ (nmb x) _ ?h1 aa).mono ?_
 case h1=>exact SlB.blkN ((Blk.new w _ (nmc x)).alloc _)
 rintro e w3 ⟨rfl,he3⟩
 have hb0:Blk w3 (w.heap.size+1) 50 zcs.toArray:=(Blk.newAt _ _ _ _ dr).ext he3
 go_wp2_with (with_reducible refine bE rfl _ _ rfl (w.heap.size+1) 0 _ rfl rfl (eC hb0) ?_)
 refine bodyPost_ret (v:=.agg (nmc (sH x))) (eQ rfl _ _ (w.heap.size+1) _ rfl (blkN hb0 _)) rfl ⟨rfl,Below.setCells' ((((Ext.refl w).alloc' _).alloc' _).trans he3) aa _ _⟩
theorem lQ (N:Nat):∀ (n:Nat) (A:Option Addr) (c:Nat) (ns:List UInt64) (w:World),n≤N→n≤1000000→SlN w A n c ns →
  Calls prog 105 #[.slice A n c] w fun e w'=>e=.returned (.agg (nmc (dS ns)))∧Ext w w':=by
 induction N with
 | zero =>
  intro n A c ns w hn _ h
  obtain rfl:n=0:=aa
  obtain rfl:ns=[]:=List.eq_nil_of_length_eq_zero h.len
  have HR:=zh aGT
  go_enter func105,ntmps105
  go_wp2_with fail
  refine zcl (dA 16 none 0 0 [] _ (SlB.nil _) aa) fun w3 he3=>?_
  have hb0:Blk w3 w.heap.size 50 zcs.toArray:=(Blk.new w _ _).ext he3
  go_wp2_with (with_reducible refine bE rfl _ _ rfl w.heap.size 0 _ rfl rfl (eC hb0) ?_)
  refine bodyPost_ret (v:=.agg (nmc (dY 16 []))) (eQ rfl _ _ w.heap.size _ rfl (blkN hb0 _)) rfl ⟨by rw [HR.out],Below.setCells' (((Ext.refl w).alloc' _).trans he3) aa _ _⟩
 | succ N ih =>
  intro n A c ns w hn hmx h
  by_cases h0:n≤N
  ·exact ih n A c ns w h0 hmx h
  by_cases h1:n=1
  ·subst h1
   obtain ⟨x,rfl⟩:=List.length_eq_one_iff.1 h.len
   obtain ⟨b,o,rfl,hra,hbl⟩:=h.at aa
   have hnm:=(lH hra (k:=0) dr)
   rw [Nat.zero_mul,Nat.add_zero] at hnm
   have HR:=zh (aAA x)
   have hnm2:(w.alloc (.cells zcs.toArray 50)).rangeAt b o (bcs (nmb x)):=World.rangeAt_alloc hnm _
   go_enter func105,ntmps105
   go_wp2_with fail
   refine zcl (dA 17 _ _ _ (nmb x) _ ⟨aK x,Nat.le_refl _,aa,.inr ⟨b,o,rfl,hnm2⟩⟩ aa) fun w3 he3=>?_
   have hb0:Blk w3 w.heap.size 50 zcs.toArray:=(Blk.new w _ _).ext he3
   go_wp2_with (with_reducible refine bE rfl _ _ rfl w.heap.size 0 _ rfl rfl (eC hb0) ?_)
   refine bodyPost_ret (v:=.agg (nmc (sH x))) (eQ rfl _ _ w.heap.size _ rfl (blkN hb0 _)) rfl ⟨by rw [HR.out],Below.setCells' (((Ext.refl w).alloc' _).trans he3) aa _ _⟩
  by_cases h00:n=0
  ·exact ih n A c ns w aa hmx h
  have hn2:2≤n:=aa
  have hlen:=h.len
  have hle:=h.le
  have hcap:=h.cap
  have hsb:=fW n hn2
  have HR:=zh (qI ns aa)
  rw [hlen] at HR
  have e0:((n:Int) == 0)=false:=gj
  have e1:((n:Int) == 1)=false:=gj
  obtain ⟨k,hk⟩:∃ k,k=spl n:=⟨_,rfl⟩
  have Hk:=zh hk
  rw [← hk] at hsb HR
  clear hk
  have IH:=zh ih
  clear ih
  have hE1:Ext w (w.alloc (.cells zcs.toArray 50)).drew:=((Ext.refl w).alloc' _).drew'
  have hX:Ext (w.alloc (.cells zcs.toArray 50)).drew (w.alloc (.cells zcs.toArray 50)).drew:=Ext.refl _
  have hz:Blk (w.alloc (.cells zcs.toArray 50)).drew w.heap.size 50 zcs.toArray:=(Blk.new w _ _).drew
  have hs1:=(h.upto (k:=k) aa).ext hE1
  have hs2:=(h.cut (k:=k) aa aa).ext hE1
  have b1:k≤n:=aa
  have b2:k≤c:=aa
  have b3:¬ c=k:=aa
  go_enter func105,ntmps105
  go_wp2_with (go_at_call 162;refine (gF n _ hn2 aa).mono ?_;rintro e w1 ⟨rfl,rfl⟩;rw [← Hk.out])
  go_region_held3 (fun _=>True) (trivial) (first | (go_at_call 105;refine (IH.out _ _ _ _ _ aa aa (by first | exact hs1.ext hX | exact hs2.ext hX)).mono ?_;rintro e w1 ⟨rfl,he1⟩;have hX:=Ext.trans hX he1) | (go_at_call 163;refine (oO 18 _ _ _).mono ?_;rintro e w1 ⟨rfl,he1⟩;have hX:=Ext.trans hX he1;have hst:=bF (hz.ext hX) (jE 18 (dS (ns.take k)) (dS (ns.drop k)))))
  go_wp2_with fail
  refine bodyPost_ret (v:=.agg (nmc (jE 18 (dS (ns.take k)) (dS (ns.drop k))))) (eQ rfl _ _ w.heap.size _ rfl (blkN (hz.ext hX) _)) rfl ⟨by rw [HR.out],Below.setCells' (hE1.trans hX) (Nat.le_refl _) _ _⟩
theorem aJv (i n:Nat) (w:World) (hi:i < n) (hm:n≤1000000) :
  Calls prog 241 #[.int .i64 (i:Int),.int .i64 (n:Int)] w fun e w'=>e=.returned (.int .i64 (eK i n:Int))∧w=w':=by
 have e1:decide (n≤i)=false:=decide_eq_false aa
 have e0:decide ((i:Int) < 0)=false:=decide_eq_false aa
 go_enter func241,ntmps241
 go_wp2_with fail
 go_loop [0,1,5] (fun vi vn vd=>∃ (i' n' d:Nat),vi=.int .i64 (i':Int)∧vn=.int .i64 (n':Int)∧vd=.int .i64 (d:Int)∧i' < n'∧d+n'≤n∧Hid (d+eK i' n'=eK i n)) (fun _ vn _=>(intOf vn).toNat)
 case atStart=>exact ⟨i,n,0,rfl,rfl,rfl,hi,aa,Nat.zero_add _⟩
 case round =>
  obtain ⟨i',n',d,rfl,rfl,rfl,hi',hd,hs⟩:=hrel
  by_cases h2:2≤n'
  ·have hsb := fW n' h2
   have h2':(1:Int) < (n':Int):=aa
   obtain ⟨k,hk⟩:∃ k,k=spl n':=⟨_,rfl⟩
   have Hk:=zh hk
   rw [← hk] at hsb
   clear hk
   by_cases hlt:i' < k
   ·have hs2 : Hid (d + 1 + eK i' k = eK i n) := zh jz
    have hk':(i':Int) < (k:Int):=aa
    go_wp2_with (go_at_call 247;refine (pD n' _ h2 aa).mono ?_;rintro e w1 ⟨rfl,rfl⟩;rw [← Hk.out])
    exact AF
   have hs2:Hid (d+1+eK (i' - k) (n' - k)=eK i n):=zh kd
   have hk':¬ (i':Int) < (k:Int):=aa
   go_wp2_with (go_at_call 247;refine (pD n' _ h2 aa).mono ?_;rintro e w1 ⟨rfl,rfl⟩;rw [← Hk.out])
   exact xb
  exact BQ
theorem aDa (i n:Nat) (w:World) (hi:i < n) (hm:n≤1000000) :
  Calls prog 206 #[.int .i64 (i:Int),.int .i64 (n:Int)] w fun e w'=>e=.returned (.int .i64 (eK i n:Int))∧w=w':=by
 have e1:decide (n≤i)=false:=decide_eq_false aa
 have e0:decide ((i:Int) < 0)=false:=decide_eq_false aa
 go_enter func206,ntmps206
 go_wp2_with fail
 go_loop [0,1,5] (fun vi vn vd=>∃ (i' n' d:Nat),vi=.int .i64 (i':Int)∧vn=.int .i64 (n':Int)∧vd=.int .i64 (d:Int)∧i' < n'∧d+n'≤n∧Hid (d+eK i' n'=eK i n)) (fun _ vn _=>(intOf vn).toNat)
 case atStart=>exact ⟨i,n,0,rfl,rfl,rfl,hi,aa,Nat.zero_add _⟩
 case round =>
  obtain ⟨i',n',d,rfl,rfl,rfl,hi',hd,hs⟩:=hrel
  by_cases h2:2≤n'
  ·have hsb := fW n' h2
   have h2':(1:Int) < (n':Int):=aa
   obtain ⟨k,hk⟩:∃ k,k=spl n':=⟨_,rfl⟩
   have Hk:=zh hk
   rw [← hk] at hsb
   clear hk
   by_cases hlt:i' < k
   ·have hs2 : Hid (d + 1 + eK i' k = eK i n) := zh jz
    have hk':(i':Int) < (k:Int):=aa
    go_wp2_with (go_at_call 162;refine (gF n' _ h2 aa).mono ?_;rintro e w1 ⟨rfl,rfl⟩;rw [← Hk.out])
    exact AF
   have hs2:Hid (d+1+eK (i' - k) (n' - k)=eK i n):=zh kd
   have hk':¬ (i':Int) < (k:Int):=aa
   go_wp2_with (go_at_call 162;refine (gF n' _ h2 aa).mono ?_;rintro e w1 ⟨rfl,rfl⟩;rw [← Hk.out])
   exact xb
  exact BQ
section
variable {P:Program} {t e:TypeId} {z:Value} {size bytes:Nat}
theorem aCS (E:Elem P t e z size bytes) (ty:TypeId) (w:World) (A:Option Addr) (n:Nat) (xs:List Value) (hra:Rd w A xs) (hla:xs.length=n * size)
  (A2:Option Addr) (m c2:Nat) (ys:List Value) (hr:Rd w A2 ys) (hl:ys.length=m * size) (hm:0 < m)
  (hb:(n+m) * bytes≤140737488355328) (h63:n+m≤4611686018427387904) :
  ∃ A' c' w',(Builtin.append_ #[t,t] ty #[.slice A n n,.slice A2 m c2]).run P w=.ok (.slice A' (n+m) c') w'∧w'.ownsRow w.heap.size e size (.slice A' (n+m) c') (n+m) (xs ++ ys)∧Ext w w':=by
 obtain ⟨i,hi,hz,hs,hby⟩:=E.get
 subst hs;subst hby
 have hp:=E.pos
 obtain ⟨ad2,rfl,hcb⟩:=hr.src (by rw [hl];exact Nat.mul_pos hm hp)
 rcases A with _ | ad
 ·have hx:xs=[]:=by
   rcases hra with h | ⟨b,o,h,_⟩
   ·exact h
   cases h
  subst hx
  have hn:n=0:=by
   rcases Nat.eq_zero_or_pos n with h | h
   ·exact h
   have:=Nat.mul_pos h hp;simp at hla;omega
  subst hn
  have hrun:=run_append_nil (P:=P) w t ty e i z E.ut hi hz ad2 m c2 ys hl hcb hm aa (by have hb:=hb;simp only [Nat.zero_add] at hb;omega)
  have hge:=grownCap_ge w m 0 e
  have hcm:grownCap w m 0 e≤maxLen:=grownCap_le_maxLen w m 0 e gm
  simp only [Nat.zero_add,List.nil_append]
  refine ⟨_,_,_,hrun,⟨hl,.inr ⟨w.heap.size,_,_,rfl,Nat.le_refl _,heap_alloc_new w.drew _,hge,hcm,?_,?_⟩⟩,(Ext.refl w).drew'.alloc' _⟩
  ·simp only [Array.size_append, List.size_toArray, size_zeroCells, E.zs, hl, ← Nat.add_mul]
   congr 1;omega
  simp only [Array.toList_append]
  rw [← hl]
  exact List.take_left
 have hca:∀ j v,xs[j]?=some v→w.cell? (ad.add j)=some v:=by
  intro j v hv
  obtain ⟨ad',h,hc⟩:=hra.src (by have:=(List.getElem?_eq_some_iff.1 hv).1;omega)
  injection h with h;subst h;exact hc j v hv
 have hg:n < n+m:=aa
 have hrun:=run_append_grow (P:=P) w t ty e i z E.ut hi hz ad n n xs hla hca ad2 m c2 ys hl hcb hg aa (growslice_fits hg hb)
 refine ⟨_,_,_,hrun,⟨fh,.inr ⟨w.heap.size,_,_,rfl,Nat.le_refl _,heap_alloc_new w.drew _,grownCap_ge w _ _ _,grownCap_le_maxLen w _ _ _ gm,?_,?_⟩⟩,(Ext.refl w).drew'.alloc' _⟩
 ·simp only [Array.size_append, List.size_toArray, size_zeroCells, E.zs, hla, hl, ← Nat.add_mul]
  have:=grownCap_ge w (n+m) n e
  congr 1;omega
 exact ye
end
theorem vZ (i n:Nat):eK i n≤n:=by
 induction n using Nat.strongRecOn generalizing i with
 | _ n ih =>
  by_cases h:2≤n
  ·have hb := fW n h
   by_cases hi:i < spl n
   ·rw [gX i n h hi];have:=ih (spl n) hb.2 i;omega
   rw [fO i n h hi];have:=ih (n - spl n) aa (i - spl n);omega
  rw [jO i n h];omega
theorem oM (N:Nat):∀ (n i:Nat) (A:Option Addr) (c:Nat) (ns:List UInt64) (w:World),n≤N→n≤1000000→i < n→SlN w A n c ns →
  Calls prog 109 #[.slice A n c,.int .i64 (i:Int)] w fun e w'=>∃ A' c',e=.returned (.tuple #[.slice A' (eK i n) c',.bool true])∧w'.ownsRow w.heap.size 50 8 (.slice A' (eK i n) c') (eK i n) (ncs (gP ns i))∧Ext w w':=by
 induction N with
 | zero=>intro n i A c ns w hn _ hi h;omega
 | succ N ih =>
  intro n i A c ns w hn hmx hi h
  by_cases h0:n≤N
  ·exact ih n i A c ns w h0 hmx hi h
  have e0:decide ((i:Int) < 0)=false:=decide_eq_false aa
  have e1:decide (n≤i)=false:=decide_eq_false aa
  by_cases h1:n=1
  ·subst h1
   have HD:=zh (jO i 1 aa)
   have HP:=zh (uQ ns i (by rw [h.len];omega))
   go_enter func109,ntmps109
   go_wp2_with fail
   go_ret2
   rw [HD.out,HP.out]
   exact ⟨none,0,rfl,World.ownsRow_nil _ _ _ _,Ext.refl w⟩
  have hn2:2≤n:=aa
  have hlen:=h.len
  have hle:=h.le
  have hcap:=h.cap
  have hsb:=fW n hn2
  have n1:((n:Int) == 1)=false:=gj
  obtain ⟨k,hk⟩:∃ k,k=spl n:=⟨_,rfl⟩
  have Hk:=zh hk
  rw [← hk] at hsb
  have IH:=zh ih
  clear ih
  have hs1:=h.upto (k:=k) aa
  have hs2:=h.cut (k:=k) aa aa
  have b1:k≤n:=aa
  have b2:k≤c:=aa
  have b3:¬ c=k:=aa
  by_cases hlt:i < k
  ·have HD := zh (gX i n hn2 qf)
   have HP:=zh (tH ns i aa (by rw [hlen,← hk];exact hlt))
   rw [← hk] at HD
   rw [hlen,← hk] at HP
   clear hk
   have hdl:=vZ i k
   have hlt':(i:Int) < (k:Int):=aa
   go_enter func109,ntmps109
   go_wp2_with (go_at_call 162;refine (gF n _ hn2 aa).mono ?_;rintro e w1 ⟨rfl,rfl⟩;rw [← Hk.out])
   refine (IH.out k i A c (ns.take k) _ aa aa hlt hs1).mono ?_
   rintro e w1 ⟨A1,c1,rfl,ho1,he1⟩
   go_wp2_with fail
   refine zcl (lQ n (n - k) _ _ (ns.drop k) _ aa aa (hs2.ext he1)) fun w2 he2=>?_
   have ho2:=bC ho1 he2
   have hE2:=Ext.trans he1 he2
   have hsz:=hE2.size
   generalize eK i k=d at *
   go_wp2_with (at_builtin;go_must (refine fS cY rfl (.tmp 36) (.tmp 41) rfl w.heap.size _ _ _ _ rfl (ho2.alloc _) _ _ _ (ncs [dS (ns.drop k)]) rfl (Rd.newN _ _ _ _ rfl) kn (lU _) ?b1 ?c1 ?d1 w ?w1 ?_))
   case b1=>omega
   case c1=>omega
   case d1=>simp;omega
   case w1=>exact Below.alloc hE2 hsz _
   exact yz
  have HD:=zh (fO i n hn2 fg)
  have HP:=zh (qM ns i aa (by rw [hlen,← hk];exact hlt))
  rw [← hk] at HD
  rw [hlen,← hk] at HP
  clear hk
  have hdl:=vZ (i - k) (n - k)
  have hlt':¬ (i:Int) < (k:Int):=aa
  go_enter func109,ntmps109
  go_wp2_with (go_at_call 162;refine (gF n _ hn2 aa).mono ?_;rintro e w1 ⟨rfl,rfl⟩;rw [← Hk.out])
  rw [show (i:Int) - (k:Int)=((i - k:Nat):Int) from aa]
  refine (IH.out (n - k) (i - k) _ (c - k) (ns.drop k) _ aa aa aa hs2).mono ?_
  rintro e w1 ⟨A1,c1,rfl,ho1,he1⟩
  go_wp2_with fail
  refine zcl (lQ n k _ _ (ns.take k) _ aa aa (hs1.ext he1)) fun w2 he2=>?_
  have ho2:=bC ho1 he2
  have hE2:=Ext.trans he1 he2
  have hsz:=hE2.size
  generalize eK (i - k) (n - k)=d at *
  go_wp2_with (at_builtin;go_must (refine fS cY rfl (.tmp 53) (.tmp 58) rfl w.heap.size _ _ _ _ rfl (ho2.alloc _) _ _ _ (ncs [dS (ns.take k)]) rfl (Rd.newN _ _ _ _ rfl) kn (lU _) ?b1 ?c1 ?d1 w ?w1 ?_))
  case b1=>omega
  case c1=>omega
  case d1=>simp;omega
  case w1=>exact Below.alloc hE2 hsz _
  exact yz
theorem aAH (ns:List UInt64) (d:Nat) (h:ns.length=d+1):ns.dropLast=ns.take d∧ns.getLastD 0=dO ns d:=by
 constructor
 ·rw [List.dropLast_eq_take,h];rfl
 unfold dO
 rcases List.eq_nil_or_concat ns with rfl | ⟨l,x,rfl⟩
 ·simp at h
 simp only [List.concat_eq_append,List.length_append,List.length_cons,List.length_nil,Nat.zero_add,Nat.add_right_cancel_iff] at h
 subst h
 rw [List.concat_eq_append,List.getLastD_concat];simp
theorem aCb (N:Nat):∀ (leaf:UInt64) (n i m:Nat) (A:Option Addr) (c:Nat) (ns:List UInt64) (w:World),n≤N→n≤1000000→i < n→m=eK i n→SlN w A m c ns →
  Calls prog 242 #[.agg (nmc leaf),.int .i64 (i:Int),.int .i64 (n:Int),.slice A m c] w fun e w'=>e=.returned (.agg (nmc (bD leaf i n ns)))∧Ext w w':=by
 induction N with
 | zero=>intro leaf n i m A c ns w hn _ hi;omega
 | succ N ih =>
  intro leaf n i m A c ns w hn hmx hi hm h
  by_cases h0:n≤N
  ·exact ih leaf n i m A c ns w h0 hmx hi hm h
  have HM:=zh hm
  clear hm
  by_cases h1:n=1
  ·subst h1
   have HC:=zh (oZ leaf i 1 ns aa)
   have hrl:=dL ((Blk.new w 50 (nmc leaf)).alloc (.cells zcs.toArray 50))
   go_enter func242,ntmps242
   go_wp2_with (refine aM rfl (.tmp 4) rfl w.heap.size 0 rfl leaf hrl ?_)
   refine zcl (aED _ _) fun w3 he3=>?_
   exact vq
  have hn2:2≤n:=aa
  have hsb:=fW n hn2
  have n1:((n:Int) == 1)=false:=gj
  obtain ⟨k,hk⟩:∃ k,k=spl n:=⟨_,rfl⟩
  have Hk:=zh hk
  rw [← hk] at hsb
  have IH:=zh ih
  clear ih
  obtain ⟨d,rfl⟩:∃ d,m=d+1:=by
   exact AU
  have hdb:d+1≤n:=by have:=HM.out;have:=vZ i n;omega
  obtain ⟨b,o,rfl,hra,hbl⟩:=h.at aa
  have hlen:=h.len
  have hle:=h.le
  have hcap:=h.cap
  have hlt2:=aAH ns d hlen
  have hE1:Ext w ((w.alloc (.cells (nmc leaf) 50)).alloc (.cells zcs.toArray 50)).drew:=(((Ext.refl w).alloc' _).alloc' _).drew'
  have hX:Ext ((w.alloc (.cells (nmc leaf) 50)).alloc (.cells zcs.toArray 50)).drew ((w.alloc (.cells (nmc leaf) 50)).alloc (.cells zcs.toArray 50)).drew:=Ext.refl _
  have hz:Blk ((w.alloc (.cells (nmc leaf) 50)).alloc (.cells zcs.toArray 50)).drew (w.heap.size+1) 50 zcs.toArray:=(Blk.newAt _ _ _ _ dr).drew
  have hlf:Blk ((w.alloc (.cells (nmc leaf) 50)).alloc (.cells zcs.toArray 50)).drew w.heap.size 50 (nmc leaf):=((Blk.new w _ _).alloc _).drew
  have hnm:=aY (lH hra (k:=d) aa) (hE1.block b hbl)
  have hbl1:=Nat.lt_of_lt_of_le hbl hE1.size
  have SS:∀ w',Below (w.heap.size+1) ((w.alloc (.cells (nmc leaf) 50)).alloc (.cells zcs.toArray 50)).drew w'→(∀ i,i < 8→w'.cell? ⟨w.heap.size,i,none⟩=some (.int .u8 (nb8 leaf i)))∧(∀ i,i < 8→w'.cell? ⟨b,o+d * 8+i,none⟩=some (.int .u8 (nb8 (dO ns d) i)))∧w'.cell? ⟨b,o+d * 8,none⟩=some (.int .u8 (nb8 (dO ns d) 0)):=fun w' hx =>
   ⟨dM (hlf.below hx aa),mT (aY hnm (hx.block b aa)),mT (aY hnm (hx.block b aa)) 0 aa⟩
  have HB:w.heap.size+1≤((w.alloc (.cells (nmc leaf) 50)).alloc (.cells zcs.toArray 50)).drew.heap.size:=dr
  have HSS:=zh SS
  clear SS hnm
  have hs1:=(h.upto (k:=d) aa).ext hE1
  have b1:(d:Int) < (d:Int)+1:=aa
  have b2:d≤c:=aa
  by_cases hlt:i < k
  ·have HC := zh (tV leaf i n ns hn2 qf)
   rw [← hk,hlt2.1,hlt2.2] at HC
   have hdk:d=eK i k:=ov
   have Hdk:=zh hdk
   clear hk hlt2 hdk
   have hlt':(i:Int) < (k:Int):=aa
   go_enter func242,ntmps242
   go_wp2_with (go_at_call 247;refine (pD n _ hn2 aa).mono ?_;rintro e w1 ⟨rfl,rfl⟩;rw [← Hk.out])
   go_region_held3 (fun w'=>(∀ i,i < 8→w'.cell? ⟨w.heap.size,i,none⟩=some (.int .u8 (nb8 leaf i)))∧(∀ i,i < 8→w'.cell? ⟨b,o+d * 8+i,none⟩=some (.int .u8 (nb8 (dO ns d) i)))∧w'.cell? ⟨b,o+d * 8,none⟩=some (.int .u8 (nb8 (dO ns d) 0))) (first | with_reducible exact HSS.out _ (Below.setCells' (Below.mono hX HB) (Nat.le_refl _) _ _) | with_reducible exact HSS.out _ (Below.mono hX HB)) (first | (go_at_call 242;refine (IH.out leaf k i d _ c (ns.take d) _ aa aa hlt Hdk.out (hs1.ext hX)).mono ?_;rintro e w1 ⟨rfl,he1⟩;have hX:=Ext.trans hX he1) | (go_at_call 249;refine (aDg 18 _ _ _).mono ?_;rintro e w2 ⟨rfl,he2⟩;have hX:=Ext.trans hX he2;have hst:=bF (hz.ext hX) (jE 18 (bD leaf i k (ns.take d)) (dO ns d))))
   go_wp2_with fail
   refine bodyPost_ret (v:=.agg (nmc (jE 18 (bD leaf i k (ns.take d)) (dO ns d)))) (eQ rfl _ _ (w.heap.size+1) _ rfl (blkN (hz.ext hX) _)) rfl ⟨ia,Below.setCells' (hE1.trans hX) aa _ _⟩
  have HC:=zh (qU leaf i n ns hn2 fg)
  rw [← hk,hlt2.1,hlt2.2] at HC
  have hdk:d=eK (i - k) (n - k):=ox
  have Hdk:=zh hdk
  clear hk hlt2 hdk
  have hlt':¬ (i:Int) < (k:Int):=aa
  have hsub:IntKind.i64.wrap ((i:Int) - (k:Int))=((i - k:Nat):Int):=dt
  have hsub2:IntKind.i64.wrap ((n:Int) - (k:Int))=((n - k:Nat):Int):=dt
  go_enter func242,ntmps242
  go_wp2_with (go_at_call 247;refine (pD n _ hn2 aa).mono ?_;rintro e w1 ⟨rfl,rfl⟩;rw [← Hk.out])
  go_region_held3 (fun w'=>(∀ i,i < 8→w'.cell? ⟨w.heap.size,i,none⟩=some (.int .u8 (nb8 leaf i)))∧(∀ i,i < 8→w'.cell? ⟨b,o+d * 8+i,none⟩=some (.int .u8 (nb8 (dO ns d) i)))∧w'.cell? ⟨b,o+d * 8,none⟩=some (.int .u8 (nb8 (dO ns d) 0))) (first | with_reducible exact HSS.out _ (Below.setCells' (Below.mono hX HB) (Nat.le_refl _) _ _) | with_reducible exact HSS.out _ (Below.mono hX HB)) (first | (go_at_call 242;refine (IH.out leaf (n - k) (i - k) d _ c (ns.take d) _ aa aa aa Hdk.out (hs1.ext hX)).mono ?_;rintro e w1 ⟨rfl,he1⟩;have hX:=Ext.trans hX he1) | (go_at_call 249;refine (aDg 18 _ _ _).mono ?_;rintro e w2 ⟨rfl,he2⟩;have hX:=Ext.trans hX he2;have hst:=bF (hz.ext hX) (jE 18 (dO ns d) (bD leaf (i - k) (n - k) (ns.take d)))))
  go_wp2_with fail
  refine bodyPost_ret (v:=.agg (nmc (jE 18 (dO ns d) (bD leaf (i - k) (n - k) (ns.take d))))) (eQ rfl _ _ (w.heap.size+1) _ rfl (blkN (hz.ext hX) _)) rfl ⟨ia,Below.setCells' (hE1.trans hX) aa _ _⟩
theorem aFl (leaf:UInt64) (n i m:Nat) (A:Option Addr) (c:Nat) (ns:List UInt64) (w:World) (hmx:n≤1000000) (hi:i < n) (hm:m=eK i n) (h:SlN w A m c ns) :
  Calls prog 222 #[.agg (nmc leaf),.int .i64 (i:Int),.int .i64 (n:Int),.slice A m c] w fun e w'=>e=.returned (.tuple #[.agg (nmc (bD leaf i n ns)),.bool true])∧Ext w w':=by
 have hrl:=dL ((Blk.new w 50 (nmc leaf)).alloc (.cells zcs.toArray 50))
 have hs:=h.ext (((Ext.refl w).alloc' (.cells (nmc leaf) 50)).alloc' (.cells zcs.toArray 50))
 have HM:=zh hm
 clear hm
 have hq:((m:Int) != (m:Int))=false:=dr
 go_enter func222,ntmps222
 go_wp2_with (first | (go_at_call 241;refine (aJv i n _ hi hmx).mono ?_;rintro e w1 ⟨rfl,rfl⟩;rw [← HM.out]) | (refine aM rfl (.tmp 4) rfl w.heap.size 0 rfl leaf hrl ?_))
 refine zcl (aCb n leaf n i m A c ns _ (Nat.le_refl _) hmx hi HM.out hs) fun w3 he3=>?_
 exact vp
theorem cW (w:World) (g:Nat) (hg:w.heap.size=g) (r:UInt64):(storeCells ⟨g,0,none⟩ (nmc r).toList).run prog (w.alloc (.cells zcs.toArray 50))=.ok () (w.alloc (.cells (nmc r) 50)):=by
 subst hg
 rw [bF (Blk.new w _ _) r,eD _ _ _ _ (by rw [dD];rfl)]
theorem zA (w:World) (g:Nat) (hg:w.heap.size=g) (r:UInt64):(storeCells ⟨g,0,none⟩ (nmc r).toList).run prog (w.alloc (.cells zcs.toArray 50)).drew=.ok () (w.alloc (.cells (nmc r) 50)).drew:=cW w.drew g hg r
theorem aLq {w4 w':World} {g:Nat} (h:Ext w4 w'):∀ b,b ≠ g→b < w4.heap.size→w'.heap[b]?=w4.heap[b]?:=fun b _ hb=>h.block b hb
theorem pO (w:World) (g:Nat) (vs:List Value):∀ (o b:Nat),b ≠ g→(w.setCells g o vs).heap[b]?=w.heap[b]?:=by
 induction vs generalizing w with
 | nil=>intro o b _;rfl
 | cons v r ih=>intro o b hb;rw [World.setCells,ih _ (o+1) b hb,Below.heap_setCell _ _ _ _ hb]
theorem aNo {w4 w':World} {g o:Nat} {vs:List Value} (h:Ext w4 w'):∀ b,b ≠ g→b < w4.heap.size→(w'.setCells g o vs).heap[b]?=w4.heap[b]?:=fun b hg hb=>(pO w' g vs o b hg).trans (h.block b hb)
theorem zO (N:Nat):∀ (leaf:UInt64) (n i m:Nat) (A:Option Addr) (c:Nat) (ns:List UInt64) (w:World),n≤N→n≤1000000→i < n→m=eK i n→SlN w A m c ns →
  Calls prog 207 #[.agg (nmc leaf),.int .i64 (i:Int),.int .i64 (n:Int),.slice A m c] w fun e w'=>e=.returned (.agg (nmc (bD leaf i n ns)))∧Ext w w':=by
 induction N with
 | zero=>intro leaf n i m A c ns w hn _ hi;omega
 | succ N ih =>
  intro leaf n i m A c ns w hn hmx hi hm h
  by_cases h0:n≤N
  ·exact ih leaf n i m A c ns w h0 hmx hi hm h
  have HM:=zh hm
  clear hm
  by_cases h1:n=1
  ·subst h1
   have HC:=zh (oZ leaf i 1 ns aa)
   go_enter func207,ntmps207
   go_wp2_with fail
   refine (dA 17 _ _ _ (nmb leaf) _ ?h1 aa).mono ?_
   case h1=>exact SlB.blkN ((Blk.new w _ (nmc leaf)).alloc _)
   rintro e w3 ⟨rfl,he3⟩
   exact vq
  have hn2:2≤n:=aa
  have hsb:=fW n hn2
  have n1:((n:Int) == 1)=false:=gj
  obtain ⟨k,hk⟩:∃ k,k=spl n:=⟨_,rfl⟩
  have Hk:=zh hk
  rw [← hk] at hsb
  have IH:=zh ih
  clear ih
  obtain ⟨d,rfl⟩:∃ d,m=d+1:=by
   exact AU
  have hdb:d+1≤n:=by have:=HM.out;have:=vZ i n;omega
  obtain ⟨b,o,rfl,hra,hbl⟩:=h.at aa
  have hlen:=h.len
  have hle:=h.le
  have hcap:=h.cap
  have hlt2:=aAH ns d hlen
  have hnm:=lH hra (k:=d) aa
  have SS:∀ w',Ext w w'→(∀ i,i < 8→w'.cell? ⟨b,o+d * 8+i,none⟩=some (.int .u8 (nb8 (dO ns d) i)))∧w'.cell? ⟨b,o+d * 8,none⟩=some (.int .u8 (nb8 (dO ns d) 0)):=fun w' hx =>
   ⟨mT (aY hnm (hx.block b hbl)),mT (aY hnm (hx.block b hbl)) 0 aa⟩
  have HSS:=zh SS
  clear SS hnm
  have b1:(d:Int) < (d:Int)+1:=aa
  have b2:d≤c:=aa
  have wd:IntKind.i64.wrap ((d:Int)+1 - 1)=(d:Int):=dt
  have wd2:IntKind.i64.wrap (d:Int)=(d:Int):=dt
  go_enter func207,ntmps207
  go_wp2_with fail
  have hX0:Ext w ((w.alloc (.cells (nmc leaf) 50)).alloc (.cells zcs.toArray 50)).drew:=(((Ext.refl w).alloc' _).alloc' _).drew'
  have hst1:=zA ((w.alloc (.cells (nmc leaf) 50)).alloc (.cells zcs.toArray 50)) (w.heap.size+1+1) dr (dO ns d)
  have hXa:Ext w (((w.alloc (.cells (nmc leaf) 50)).alloc (.cells zcs.toArray 50)).alloc (.cells zcs.toArray 50)).drew:=((((Ext.refl w).alloc' _).alloc' _).alloc' _).drew'
  have hXb:Ext w (((w.alloc (.cells (nmc leaf) 50)).alloc (.cells zcs.toArray 50)).alloc (.cells (nmc (dO ns d)) 50)).drew:=((((Ext.refl w).alloc' _).alloc' _).alloc' _).drew'
  go_region_held3 (fun w'=>(∀ i,i < 8→w'.cell? ⟨b,o+d * 8+i,none⟩=some (.int .u8 (nb8 (dO ns d) i)))∧w'.cell? ⟨b,o+d * 8,none⟩=some (.int .u8 (nb8 (dO ns d) 0))) (first | (exact HSS.out _ hX0;done) | (exact HSS.out _ hXa;done) | (exact HSS.out _ hXb;done)) (first | (go_at_call 162;refine (gF n _ hn2 aa).mono ?_;rintro e w1 ⟨rfl,rfl⟩;rw [← Hk.out]))
  all_goals
   rw [← Hk.out]
   have hE4:=hXb
   have hlf:Blk (((w.alloc (.cells (nmc leaf) 50)).alloc (.cells zcs.toArray 50)).alloc (.cells (nmc (dO ns d)) 50)).drew w.heap.size 50 (nmc leaf):=(((Blk.new w _ _).alloc _).alloc _).drew
   have hz:Blk (((w.alloc (.cells (nmc leaf) 50)).alloc (.cells zcs.toArray 50)).alloc (.cells (nmc (dO ns d)) 50)).drew (w.heap.size+1) 50 zcs.toArray:=((Blk.newAt _ _ _ _ dr).alloc _).drew
   have hup:Blk (((w.alloc (.cells (nmc leaf) 50)).alloc (.cells zcs.toArray 50)).alloc (.cells (nmc (dO ns d)) 50)).drew (w.heap.size+1+1) 50 (nmc (dO ns d)):=(Blk.newAt _ _ _ _ dr).drew
   have hs1:=(h.upto (k:=d) aa).ext hE4
   clear hst1 hXa hXb hX0 HSS
   generalize (((w.alloc (.cells (nmc leaf) 50)).alloc (.cells zcs.toArray 50)).alloc (.cells (nmc (dO ns d)) 50)).drew=w4 at *
   have hX:Ext w4 w4.drew:=(Ext.refl w4).drew'
   have SS2:∀ w':World,(∀ b,b ≠ w.heap.size+1→b < w4.heap.size→w'.heap[b]?=w4.heap[b]?)→(∀ i,i < 8→w'.cell? ⟨w.heap.size,i,none⟩=some (.int .u8 (nb8 leaf i)))∧(∀ i,i < 8→w'.cell? ⟨w.heap.size+1+1,i,none⟩=some (.int .u8 (nb8 (dO ns d) i))):=fun w' hx =>
    ⟨dM (w:=w') (show Blk w' _ _ _ from (hx _ aa hlf.lt).trans hlf),dM (w:=w') (show Blk w' _ _ _ from (hx _ aa hup.lt).trans hup)⟩
   have HS2:=zh SS2
   clear SS2
   by_cases hlt:i < k
   ·have HC := zh (tV leaf i n ns hn2 qf)
    rw [← hk,hlt2.1,hlt2.2] at HC
    have hdk:d=eK i k:=ov
    have Hdk:=zh hdk
    clear hk hlt2 hdk
    have hlt':(i:Int) < (k:Int):=aa
    go_wp2_with fail
    go_region_held3 (fun w'=>(∀ i,i < 8→w'.cell? ⟨w.heap.size,i,none⟩=some (.int .u8 (nb8 leaf i)))∧(∀ i,i < 8→w'.cell? ⟨w.heap.size+1+1,i,none⟩=some (.int .u8 (nb8 (dO ns d) i)))) (first | with_reducible exact HS2.out _ (aNo hX) | with_reducible exact HS2.out _ (aLq hX)) (first | (go_at_call 207;refine (IH.out leaf k i d _ c (ns.take d) _ aa aa hlt Hdk.out (hs1.ext hX)).mono ?_;rintro e w1 ⟨rfl,he1⟩;have hX:=Ext.trans hX he1) | (go_at_call 163;refine (oO 18 _ _ _).mono ?_;rintro e w2 ⟨rfl,he2⟩;have hX:=Ext.trans hX he2;have hst:=bF (hz.ext hX) (jE 18 (bD leaf i k (ns.take d)) (dO ns d))))
    go_wp2_with fail
    refine bodyPost_ret (v:=.agg (nmc (jE 18 (bD leaf i k (ns.take d)) (dO ns d)))) (eQ rfl _ _ (w.heap.size+1) _ rfl (blkN (hz.ext hX) _)) rfl ⟨ia,Below.setCells' (hE4.trans hX) aa _ _⟩
   have HC:=zh (qU leaf i n ns hn2 fg)
   rw [← hk,hlt2.1,hlt2.2] at HC
   have hdk:d=eK (i - k) (n - k):=ox
   have Hdk:=zh hdk
   clear hk hlt2 hdk
   have hlt':¬ (i:Int) < (k:Int):=aa
   have hsub:IntKind.i64.wrap ((i:Int) - (k:Int))=((i - k:Nat):Int):=dt
   have hsub2:IntKind.i64.wrap ((n:Int) - (k:Int))=((n - k:Nat):Int):=dt
   go_wp2_with fail
   go_region_held3 (fun w'=>(∀ i,i < 8→w'.cell? ⟨w.heap.size,i,none⟩=some (.int .u8 (nb8 leaf i)))∧(∀ i,i < 8→w'.cell? ⟨w.heap.size+1+1,i,none⟩=some (.int .u8 (nb8 (dO ns d) i)))) (first | with_reducible exact HS2.out _ (aNo hX) | with_reducible exact HS2.out _ (aLq hX)) (first | (go_at_call 207;refine (IH.out leaf (n - k) (i - k) d _ c (ns.take d) _ aa aa aa Hdk.out (hs1.ext hX)).mono ?_;rintro e w1 ⟨rfl,he1⟩;have hX:=Ext.trans hX he1) | (go_at_call 163;refine (oO 18 _ _ _).mono ?_;rintro e w2 ⟨rfl,he2⟩;have hX:=Ext.trans hX he2;have hst:=bF (hz.ext hX) (jE 18 (dO ns d) (bD leaf (i - k) (n - k) (ns.take d)))))
   go_wp2_with fail
   refine bodyPost_ret (v:=.agg (nmc (jE 18 (dO ns d) (bD leaf (i - k) (n - k) (ns.take d))))) (eQ rfl _ _ (w.heap.size+1) _ rfl (blkN (hz.ext hX) _)) rfl ⟨ia,Below.setCells' (hE4.trans hX) aa _ _⟩
theorem zN (leaf:UInt64) (n i m:Nat) (A:Option Addr) (c:Nat) (ns:List UInt64) (w:World) (hmx:n≤1000000) (hi:i < n) (hm:m=eK i n) (h:SlN w A m c ns) :
  Calls prog 150 #[.agg (nmc leaf),.int .i64 (i:Int),.int .i64 (n:Int),.slice A m c] w fun e w'=>e=.returned (.tuple #[.agg (nmc (bD leaf i n ns)),.bool true])∧Ext w w':=by
 have hrl:=dL ((Blk.new w 50 (nmc leaf)).alloc (.cells zcs.toArray 50))
 have hs:=h.ext (((Ext.refl w).alloc' (.cells (nmc leaf) 50)).alloc' (.cells zcs.toArray 50))
 have HM:=zh hm
 clear hm
 have hq:((m:Int) != (m:Int))=false:=dr
 go_enter func150,ntmps150
 go_wp2_with (first | (go_at_call 206;refine (aDa i n _ hi hmx).mono ?_;rintro e w1 ⟨rfl,rfl⟩;rw [← HM.out]) | (refine aM rfl (.tmp 4) rfl w.heap.size 0 rfl leaf hrl ?_))
 refine zcl (zO n leaf n i m A c ns _ (Nat.le_refl _) hmx hi HM.out hs) fun w3 he3=>?_
 exact vp
end
end Go.Proofs.YtgmnmjeccfnmbaaGreat
