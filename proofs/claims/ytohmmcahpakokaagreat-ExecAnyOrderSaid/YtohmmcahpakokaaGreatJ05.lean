import Derived.DeepKeys
import Derived.Test.YtohmmcahpakokaaGreatJ04
set_option maxRecDepth 100000
set_option maxHeartbeats 8000000
set_option linter.unusedVariables false
set_option linter.unusedSimpArgs false
namespace Go.Proofs.YtohmmcahpakokaaGreat
section
open Go.RowKit
attribute [local go_sem ↓] Go.wp_at_zero Go.wp_at_succ
def ncs (ns:List UInt64):List Value:=ns.flatMap fun n=>bcs (nmb n)
theorem iP (n:UInt64) (r:List UInt64):ncs (n :: r)=bcs (nmb n) ++ ncs r:=by simp [ncs]
theorem eY (a b:List UInt64):ncs (a ++ b)=ncs a ++ ncs b:=by simp [ncs]
theorem cZ (ns:List UInt64):(ncs ns).length=ns.length * 8:=by
 induction ns with
 | nil=>rfl
 | cons n r ih=>rw [iP,List.length_append,aJ,aG,ih,List.length_cons];omega
theorem xW (ns:List UInt64):ncs ns=bcs (ns.flatMap nmb):=by
 induction ns with
 | nil=>rfl
 | cons n r ih=>rw [iP,ih,← eJ];rfl
theorem nF (ns:List UInt64):∀ u ∈ ncs ns,u.oneCell'=true:=by rw [xW];exact dW _
theorem pU (ns:List UInt64) (k:Nat):(ncs ns).drop (k * 8)=ncs (ns.drop k):=by
 induction k generalizing ns with
 | zero=>simp
 | succ k ih =>
  cases ns with
  | nil=>simp [ncs]
  | cons n r =>
   rw [iP,List.drop_succ_cons,← ih r,show (k+1) * 8=(bcs (nmb n)).length+k * 8 from by rw [aJ,aG];omega,List.drop_append,List.drop_of_length_le (by omega)]
   simp
theorem uP (ns:List UInt64) (k:Nat):(ncs ns).take (k * 8)=ncs (ns.take k):=by
 induction k generalizing ns with
 | zero=>simp [ncs]
 | succ k ih =>
  cases ns with
  | nil=>simp [ncs]
  | cons n r =>
   rw [iP,List.take_succ_cons,iP,← ih r,show (k+1) * 8=(bcs (nmb n)).length+k * 8 from by rw [aJ,aG];omega,List.take_append,List.take_of_length_le (by omega)]
   simp
structure SlN (w:World) (A:Option Addr) (n c:Nat) (ns:List UInt64):Prop where
 len:ns.length=n
 le:n≤c
 cap:c≤9223372036854775807
 rd:Rd w A (ncs ns)
section
variable {w w':World} {A:Option Addr} {n c:Nat} {ns:List UInt64}
theorem SlN.ext (h:SlN w A n c ns) (e:Ext w w'):SlN w' A n c ns:=⟨h.len,h.le,h.cap,h.rd.ext e⟩
theorem SlN.at (h:SlN w A n c ns) (hn:0 < n):∃ b o,A=some ⟨b,o,none⟩∧w.rangeAt b o (ncs ns)∧b < w.heap.size :=
 h.rd.at (by intro e;have:=congrArg List.length e;rw [cZ,h.len] at this;simp at this;omega)
theorem aDk {k:Nat} (hk:k < ns.length):((ncs ns).drop (k * 8)).take 8=bcs (nmb (ns.getD k 0)):=by
 have e:ns[k]=ns.getD k 0:=by simp [hk]
 rw [pU,List.drop_eq_getElem_cons hk,iP,List.take_append_of_le_length (by rw [aJ,aG];exact Nat.le_refl _),List.take_of_length_le (by rw [aJ,aG];exact Nat.le_refl _),e]
theorem aAe {b o k:Nat} (h:w.rangeAt b o (ncs ns)) (hk:k < ns.length):w.rangeAt b (o+k * 8) (bcs (nmb (ns.getD k 0))):=by
 have h1:=aU (k:=8) (bR (k:=k * 8) h)
 rwa [aDk hk] at h1
theorem SlN.cut (h:SlN w A n c ns) {k:Nat} (hk:k≤n) (hkc:k < c):SlN w (A.map (·.add (k * 8))) (n - k) (c - k) (ns.drop k):=by
 refine ⟨by rw [List.length_drop,h.len],by have:=h.le;omega,by have:=h.cap;omega,?_⟩
 have:=h.rd.cut (n:=n) (k:=k) (c:=c) (size:=8) (by rw [cZ,h.len]) hk h.le
 rw [if_neg (by omega),pU] at this
 exact this
theorem SlN.upto (h:SlN w A n c ns) {k:Nat} (hk:k≤n):SlN w A k c (ns.take k):=by
 refine ⟨by rw [List.length_take,h.len];omega,by have:=h.le;omega,h.cap,?_⟩
 have:=h.rd.take (k * 8)
 rwa [uP] at this
theorem SlN.of_own {base:Nat} {e:TypeId} (h:w.ownsRow base e 8 (.slice A n c) n (ncs ns)):SlN w A n c ns:=by
 have hl:ns.length=n:=by have:=h.1;rw [cZ] at this;omega
 exact ⟨hl,(dN h).1,(dN h).2,Rd.of_own h⟩
theorem SlN.of_blk {g:Nat} {t:TypeId} (h:Blk w g t (ncs ns).toArray) (hn:ns.length=n) (hc:n≤9223372036854775807):SlN w (some ⟨g,0,none⟩) n n ns :=
 ⟨hn,Nat.le_refl _,hc,by have:=Rd.of_blk h;simpa using this⟩
end
theorem dC:Elem Tryz.prog 37 30 (.agg zcs.toArray) 8 8:=⟨Tryz.underlying37,by kernel_rfl,rfl,by decide⟩
theorem aAm (cs vs:List Value) (o:Nat) (h:o+vs.length≤cs.length):((vs.zipIdx 0).foldl (fun a p=>a.setIfInBounds (o+p.2) p.1) cs.toArray)=(cs.take o ++ vs ++ cs.drop (o+vs.length)).toArray:=by
 apply Array.ext_getElem?
 intro j
 rw [iJ]
 simp only [List.getElem?_toArray,List.size_toArray,Nat.add_zero]
 have ht:(cs.take o).length=o:=by rw [List.length_take];omega
 by_cases h1:j < o
 ·rw [if_neg (by omega),List.append_assoc,List.getElem?_append_left (by rw [ht];exact h1),List.getElem?_take,if_pos h1]
 by_cases h2:j < o+vs.length
 ·rw [if_pos ⟨by omega,h2,by omega⟩,List.getElem?_append_left (by rw [List.length_append,ht];exact h2),List.getElem?_append_right (by rw [ht];omega),ht]
 rw [if_neg (by omega),List.getElem?_append_right (by rw [List.length_append,ht];omega),List.length_append,ht,List.getElem?_drop]
 congr 1;omega
theorem aHA {w:World} {g k:Nat} {t:TypeId} {ns:List UInt64} (h:Blk w g t (ncs ns).toArray) (hk:k < ns.length) (n:UInt64):Blk (w.setCells g (k * 8) (nmc n).toList) g t (ncs (ns.set k n)).toArray:=by
 have h1:=qK (o:=k * 8) (vs:=(nmc n).toList) h
 have hl8:(nmc n).toList.length=8:=by rw [bF,aJ,aG]
 rw [aAm _ _ _ (by rw [hl8,cZ];omega),hl8,uP,show k * 8+8=(k+1) * 8 from by omega,pU,bF,List.append_assoc,← iP,← eY] at h1
 have hs:ns.set k n=ns.take k ++ n :: ns.drop (k+1):=by rw [List.set_eq_take_append_cons_drop,if_pos hk]
 rw [hs,bF]
 exact h1
theorem xM {w:World} {g o m:Nat} {t:TypeId} {cs:Array Value} (h:Blk w g t cs) (hm:o+m≤cs.size):w.there g o m:=fun j hj=>by
 exact ⟨by rw [h.cell (o+j)];simp;omega,h.frozen (o+j)⟩
def mB (F:Nat→UInt64) (m k:Nat):List UInt64:=(List.range k).map F ++ List.replicate (m - k) 0
theorem jW (F:Nat→UInt64) (m k:Nat) (h:k≤m):(mB F m k).length=m:=by simp [mB];omega
theorem aBc (F:Nat→UInt64) (m k:Nat) (h:k < m):(mB F m k).set k (F k)=mB F m (k+1):=by
 unfold mB
 rw [List.range_succ,List.map_append,List.set_append_right _ _ (by simp),show m - k=(m - (k+1))+1 from by omega,List.replicate_succ]
 simp
theorem xN (F:Nat→UInt64) (m:Nat):mB F m m=(List.range m).map F:=by simp [mB]
theorem aBC:nmb 0=List.replicate 8 0:=by decide
theorem uV (m:Nat):madeCells (Value.agg zcs.toArray).cells (m * 8)=(ncs (List.replicate m 0)).toArray:=by
 have h:ncs (List.replicate m 0)=List.replicate (m * 8) (.int .u8 0):=by
  rw [xW]
  have:(List.replicate m (0:UInt64)).flatMap nmb=List.replicate (m * 8) 0:=by
   rw [List.flatMap_replicate,aBC,List.flatten_replicate_replicate]
  rw [this];simp [bcs,bv]
 rw [h]
 apply Array.ext_getElem?
 intro i
 have h8:zcs.length=8:=rfl
 have hz:∀ j,j < 8→zcs.toArray[j]! = .int .u8 0:=by
  intro j hj
  match j,hj with
  | 0,_ | 1,_ | 2,_ | 3,_ | 4,_ | 5,_ | 6,_ | 7,_=>rfl
 simp only [madeCells,Value.cells]
 by_cases hi:i < m * 8
 ·have h9 := hz (i % 8) (by omega)
  simp [hi,h8]
  simpa using h9
 simp [hi]
end
section
open Go.RowKit
theorem aBZ (ds cs:Array Value) (o:Nat):ds.zipIdx.foldl (fun cs (x:Value × Nat)=>cs.setIfInBounds (o+x.2) x.1) cs=(ds.toList.zipIdx 0).foldl (fun a p=>a.setIfInBounds (o+p.2) p.1) cs:=by
 rw [← Array.foldl_toList,Array.toList_zipIdx]
theorem vD (ds cs:Array Value) (h:ds.size=cs.size):(ds.toList.zipIdx 0).foldl (fun a p=>a.setIfInBounds (0+p.2) p.1) cs=ds:=by
 apply Array.ext_getElem?
 intro j
 rw [iJ]
 by_cases hj:j < ds.size
 ·rw [if_pos (by simp;omega)];simp
 rw [if_neg (by simp;omega),Array.getElem?_eq_none (by omega),Array.getElem?_eq_none (by omega)]
@[go_sem] theorem aHr (n:UInt64) (Z:Array Value) (hZ:Z.size=8):Array.foldl (fun cs x=>cs.setIfInBounds x.snd x.fst) Z (nmc n).zipIdx 0 (nmc n).size=nmc n:=by
 have h:=aBZ (nmc n) Z 0
 rw [vD _ _ (by rw [cP,hZ])] at h
 simpa using h
@[go_sem] theorem aKL (n:UInt64) (Z:Array Value) (hZ:Z.size=8):Array.foldl (fun cs x=>cs.setIfInBounds x.snd x.fst) Z (nmc n).zipIdx 0 8=nmc n:=by
 have h:=aHr n Z hZ
 rwa [cP] at h
attribute [go_sem] cP
def nb8 (n:UInt64) (i:Nat):Int:=(((nmb n).getD i 0).toNat:Int)
theorem gH (n:UInt64):#[.int .u8 (nb8 n 0),.int .u8 (nb8 n 1),.int .u8 (nb8 n 2),.int .u8 (nb8 n 3),.int .u8 (nb8 n 4),.int .u8 (nb8 n 5),.int .u8 (nb8 n 6),.int .u8 (nb8 n 7)]=nmc n:=by
 unfold nmc nb8
 rw [show bcs (nmb n)=bcs [(nmb n).getD 0 0,(nmb n).getD 1 0,(nmb n).getD 2 0,(nmb n).getD 3 0,(nmb n).getD 4 0,(nmb n).getD 5 0,(nmb n).getD 6 0,(nmb n).getD 7 0] from congrArg bcs (pT n)]
 rfl
attribute [go_sem] gH
theorem fK {w:World} {g:Nat} {t:TypeId} {n:UInt64} (h:Blk w g t (nmc n)):∀ i,i < 8→w.cell? ⟨g,i,none⟩=some (.int .u8 (nb8 n i)):=fun i hi=>by
 rw [h.cell i];exact iI n i hi
theorem aCv {w:World} {b o:Nat} {n:UInt64} (h:w.rangeAt b o (bcs (nmb n))):∀ i,i < 8→w.cell? ⟨b,o+i,none⟩=some (.int .u8 (nb8 n i)):=fun i hi=>by
 refine h i _ ?_
 have hl:=aG n
 simp [bcs,bv,nb8,hl,hi]
theorem aBj (n:UInt64) (w:World):(Instr.buildSlice 37 1 #[(0,.agg (nmc n))]).run Tryz.prog w=.ok (.slice (some ⟨w.heap.size,0,none⟩) 1 1) (w.alloc (.cells (nmc n) 30)):=by
 obtain ⟨i,hi,hz,hs,hby⟩:=dC.get
 have hsz:=cP n
 have hst:(sizeOf 30).run Tryz.prog w=.ok 8 w:=by simp [sizeOf,typeInfo,hi,hs]
 have hzv:(zeroValue 30).run Tryz.prog w=.ok (.agg zcs.toArray) w:=by simp [zeroValue,typeInfo,hi,hz]
 have hf:∀ Z:Array Value,Z.size=8→Instr.fill (fun i=>some (i * 8,8)) Z [(0,.agg (nmc n))]=some (nmc n):=by
  intro Z hZ
  simp only [Instr.fill,Value.cells,hsz,Nat.zero_mul]
  rw [if_neg (by simp [hZ]),aBZ,vD _ _ (by rw [hsz,hZ])]
 simp [Instr.buildSlice,run_underlying dC.ut,hst,hzv,Value.cells]
 rw [hf _ (by simp)]
 simp [newRow]
end
section
open Go.RowKit
attribute [local go_sem ↓] Go.wp_at_zero Go.wp_at_succ
def dA (v lo hi:Int):Bool:=decide (lo≤v∧v≤hi)
theorem aN (v lo hi:Int) (w:World) :
  Calls Tryz.prog 73 #[.int .i64 v,.int .i64 lo,.int .i64 hi] w fun e w'=>e=.returned (.bool (dA v lo hi))∧w=w':=by
 by_cases h1:lo≤v
 ·by_cases h2 : v ≤ hi
  ·have HV := zh (show dA v lo hi = true by unfold dA; simp only [decide_eq_true_eq]; exact ⟨h1, h2⟩)
   go_enter Tryz.func73,Tryz.ntmps73
   go_wp2_with fail
   go_ret
   exact ⟨by rw [HV.out];rfl,rfl⟩
  have HV:=zh (show dA v lo hi=false by unfold dA;simp only [decide_eq_false_iff_not];omega)
  have d2:decide (v≤hi)=false:=decide_eq_false h2
  clear h2
  go_enter Tryz.func73,Tryz.ntmps73
  go_wp2_with fail
  go_ret
  exact ⟨by rw [HV.out];rfl,rfl⟩
 have HV:=zh (show dA v lo hi=false by unfold dA;simp only [decide_eq_false_iff_not];omega)
 have d1:decide (lo≤v)=false:=decide_eq_false h1
 clear h1
 go_enter Tryz.func73,Tryz.ntmps73
 go_wp2_with fail
 go_ret
 exact ⟨by rw [HV.out];rfl,rfl⟩
theorem eG (v lo hi:Int) (h:lo≤v∧v≤hi) (w:World) :
  Calls Tryz.prog 73 #[.int .i64 v,.int .i64 lo,.int .i64 hi] w fun e w'=>e=.returned (.bool true)∧w=w':=by
 rw [← show dA v lo hi=true by unfold dA;simp only [decide_eq_true_eq];exact h];exact aN v lo hi w
theorem aEG (v lo hi:Int) (h:v < lo ∨ hi < v) (w:World) :
  Calls Tryz.prog 73 #[.int .i64 v,.int .i64 lo,.int .i64 hi] w fun e w'=>e=.returned (.bool false)∧w=w':=by
 rw [← show dA v lo hi=false by unfold dA;simp only [decide_eq_false_iff_not];omega];exact aN v lo hi w
@[go_sem] theorem aKK (n:UInt64):Array.foldl (fun (cs:Array Value) (x:Value × Nat)=>cs.setIfInBounds x.snd x.fst) #[.int .u8 0,.int .u8 0,.int .u8 0,.int .u8 0,.int .u8 0,.int .u8 0,.int .u8 0,.int .u8 0,.slice none 0 0] (nmc n).zipIdx 0 8=#[.int .u8 (nb8 n 0),.int .u8 (nb8 n 1),.int .u8 (nb8 n 2),.int .u8 (nb8 n 3),.int .u8 (nb8 n 4),.int .u8 (nb8 n 5),.int .u8 (nb8 n 6),.int .u8 (nb8 n 7),.slice none 0 0]:=by
 rw [← gH n]
 kernel_rfl
@[go_sem] theorem aKJ (i:Int) (n:UInt64):Array.foldl (fun (cs:Array Value) (x:Value × Nat)=>cs.setIfInBounds (1+x.snd) x.fst) #[.int .i64 i,.int .u8 0,.int .u8 0,.int .u8 0,.int .u8 0,.int .u8 0,.int .u8 0,.int .u8 0,.int .u8 0] (nmc n).zipIdx 0 8=#[.int .i64 i,.int .u8 (nb8 n 0),.int .u8 (nb8 n 1),.int .u8 (nb8 n 2),.int .u8 (nb8 n 3),.int .u8 (nb8 n 4),.int .u8 (nb8 n 5),.int .u8 (nb8 n 6),.int .u8 (nb8 n 7)]:=by
 rw [← gH n]
 kernel_rfl
theorem aI {w:World} {base:Nat} {e:TypeId} {size:Nat} {A:Option Addr} {n c:Nat} {xs:List Value} {X:Nat} {t:TypeId} {cs:Array Value} (h:w.ownsRow base e size (.slice A n c) n xs) (hb:Blk w X t cs) (hne:t ≠ e):some X ≠ Value.ownBlock (.slice A n c):=by
 rcases h.2 with ⟨hv,_⟩ | ⟨g,cap,cur,hv,_,hh,_⟩
 ·rw [hv];simp [Value.ownBlock]
 rw [hv]
 simp only [Value.ownBlock]
 intro e1
 injection e1 with e1
 subst e1
 unfold Blk at hb
 rw [hh] at hb
 injection hb with hb
 injection hb with _ hb
 exact hne hb.symm
theorem aDI {w:World} {X B:Nat} {t t':TypeId} {cs cs':Array Value} (h:Blk w X t cs) (h':Blk w B t' cs') (hne:t ≠ t'):X ≠ B:=by
 intro e;subst e
 unfold Blk at h h'
 rw [h] at h'
 injection h' with h'
 injection h' with _ h'
 exact hne h'
theorem dY (z:Int):IntKind.u8.wrap z=((toB z).toNat:Int):=by rw [← bT,IntKind.wrap_u8]
theorem tI {P:Program} {t e:TypeId} {ops:Array Oper} {o:Oper} {a:Act} {w:World} {K:Act→World→Prop} {Q:Exit→Act→World→Prop} {X:Prop} (E:Elem P t e (.int .u8 0) 1 1) (hgd:o.guard=none) (s x:Operand)
  (ho:o.op=.call { callee:=.builtin .append,args:=#[s,x],argTypes:=#[t,t] })
  (base:Nat) (A:Option Addr) (n c:Nat) (l:List UInt8) (hs:a.eval s=.slice A n c) (hown:OwnB w base e A n c l)
  (A2:Option Addr) (m c2:Nat) (l2:List UInt8) (hx:a.eval x=.slice A2 m c2) (hr:SlB w A2 m c2 l2)
  (hb:n+m≤140737488355328) (hbase:base≤w.heap.size)
  (h:∀ A' c' w',OwnB w' base e A' (n+m) c' (l ++ l2)→w.grownBy w' (Value.ownBlock (.slice A n c))→K (a.put o.dst (.slice A' (n+m) c')) w'):if Region.wanted o (yielded ops a.tmps)=true then Oper.wp P o a w K Q else X:=by
 have hw:Region.wanted o (yielded ops a.tmps)=true:=by simp [Region.wanted,hgd]
 rw [if_pos hw]
 refine nZ E s x ho base A n c (bcs l) hs hown A2 m c2 (bcs l2) hx hr.rd (by rw [aJ,hr.len,Nat.mul_one]) (dW l2) (by omega) (by omega) hbase fun A' c' w' h2 h3=>h A' c' w' ?_ h3
 unfold OwnB;rw [eJ];exact h2
theorem aGH {w:World} {base:Nat} {e:TypeId} {A:Option Addr} {n c:Nat} {l:List UInt8} (h:OwnB w base e A n c l):∀ k,Value.ownBlock (.slice A n c)=some k→base≤k∧k < w.heap.size:=fun k hk=>World.ownsRow.lt h k hk
theorem sI {w0 w w':World} {base:Nat} {e:TypeId} {A:Option Addr} {n c:Nat} {l:List UInt8} (h:OwnB w base e A n c l) (hb:Below base w0 w) (hs:base≤w.heap.size) (hg:w.grownBy w' (Value.ownBlock (.slice A n c))):Below base w0 w' :=
 hb.grown hg hs (fun k hk=>(aGH h k hk).1)
end
section
open Go.RowKit
def pZ (c:UInt8):Lit:=.int .u8 (c.toNat:Int)
theorem aEo (c:UInt8):(Lit.int .u8 (c.toNat:Int)).wf=true:=by
 have:=c.toNat_lt
 simp [Lit.wf,IntKind.min,IntKind.max,IntKind.signed,IntKind.bits];omega
theorem aIp (c:UInt8):Tryz.prog.keyLits 1 5 [.int .u8 (c.toNat:Int)]=some [pZ c]:=by
 unfold Program.keyLits
 rw [Tryz.underlying5]
 simp only
 rw [if_pos ⟨trivial,aEo c⟩];rfl
theorem aCt:Tryz.prog.cellsOf 5=1:=by kernel_rfl
theorem vV:Tryz.prog.cellsOf 30=8:=by kernel_rfl
theorem aIo (n:UInt64):Tryz.prog.keyLits 2 30 (bcs (nmb n))=some ((nmb n).map pZ):=by
 unfold Program.keyLits
 rw [Tryz.underlying30]
 simp only
 rw [if_pos (by rw [aJ,aG,vV]),aCt]
 rw [pT n]
 generalize (nmb n).getD 0 0=x0
 generalize (nmb n).getD 1 0=x1
 generalize (nmb n).getD 2 0=x2
 generalize (nmb n).getD 3 0=x3
 generalize (nmb n).getD 4 0=x4
 generalize (nmb n).getD 5 0=x5
 generalize (nmb n).getD 6 0=x6
 generalize (nmb n).getD 7 0=x7
 rw [show List.range 8=[0,1,2,3,4,5,6,7] from rfl]
 simp only [bcs,bv,List.map_cons,List.map_nil,List.mapM_cons,List.mapM_nil,Nat.zero_mul,Nat.one_mul,Nat.mul_one,List.drop_zero,List.drop_succ_cons,List.take_succ_cons,List.take_zero,aIp]
 rfl
theorem pY {a b:UInt64} (h:(nmb a).map pZ=(nmb b).map pZ):a=b:=by
 refine aIg ?_
 have hf:∀ x y:UInt8,pZ x=pZ y→x=y:=fun x y e=>by
  unfold pZ at e;injection e with _ e;exact UInt8.toNat_inj.1 (by omega)
 exact List.map_inj_right hf |>.1 h
theorem cO (a b:UInt64) (w:World):(binOp .eql 30 (.agg (nmc a)) (.agg (nmc b))).run Tryz.prog w=.ok (.bool (decide (a=b))) w:=by
 have hE:=run_equalIn_deep (P:=Tryz.prog) 9998 2 30 (by kernel_rfl)
 have hfm:∀ n:UInt64,(Value.agg (nmc n)).formed Tryz.prog 30=true:=fun n=>by
  simp [Value.formed,Tryz.underlying30,cP,vV]
 have hk:∀ n:UInt64,Tryz.prog.keyLits 2 30 (Value.agg (nmc n)).cells.toList=some ((nmb n).map pZ):=fun n=>by
  show Tryz.prog.keyLits 2 _ (nmc n).toList=_
  rw [bF];exact aIo n
 obtain ⟨r,hr,hiff⟩:=hE w 2 2 _ _ _ _ (hfm a) (hfm b) (hk a) (hk b)
 rw [run_eql_struct]
 have hr':(Op.equalIn 10000 30 (.agg (nmc a)) (.agg (nmc b))).run Tryz.prog w=.ok r w:=hr
 rw [hr']
 have:r=decide (a=b):=by
  by_cases h:a=b
  ·subst h;simp [hiff.2 rfl]
  have:r ≠ true:=fun e=>h (pY (hiff.1 e))
  simp [h,this]
 rw [this];rfl
end
end Go.Proofs.YtohmmcahpakokaaGreat
