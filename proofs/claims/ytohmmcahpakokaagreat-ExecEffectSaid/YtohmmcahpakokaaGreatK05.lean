import Derived.ProofKit
import Derived.OpenShut
import Derived.Deep.Slices
import Derived.DeepKeys
import Derived.Test.YtohmmcahpakokaaGreatK04
set_option maxRecDepth 100000
set_option maxHeartbeats 8000000
set_option linter.unusedVariables false
set_option linter.unusedSimpArgs false
namespace Go.Proofs.YtohmmcahpakokaaGreat
open Go.RowKit
attribute [local go_sem ↓] Go.wp_at_zero Go.wp_at_succ
def ncs (ns:List UInt64):List Value:=ns.flatMap fun n=>bcs (nmb n)
theorem ncs_cons (n:UInt64) (r:List UInt64):ncs (n :: r)=bcs (nmb n) ++ ncs r:=by simp [ncs]
theorem ncs_append (a b:List UInt64):ncs (a ++ b)=ncs a ++ ncs b:=by simp [ncs]
theorem ncs_length (ns:List UInt64):(ncs ns).length=ns.length * 8:=by
 induction ns with
 | nil=>rfl
 | cons n r ih=>rw [ncs_cons,List.length_append,bcs_length,nmb_length,ih,List.length_cons];omega
theorem ncs_bytes (ns:List UInt64):ncs ns=bcs (ns.flatMap nmb):=by
 induction ns with
 | nil=>rfl
 | cons n r ih=>rw [ncs_cons,ih,← bcs_append];rfl
theorem ncs_one (ns:List UInt64):∀ u ∈ ncs ns,u.oneCell'=true:=by rw [ncs_bytes];exact bcs_one _
theorem ncs_drop (ns:List UInt64) (k:Nat):(ncs ns).drop (k * 8)=ncs (ns.drop k):=by
 induction k generalizing ns with
 | zero=>simp
 | succ k ih =>
  cases ns with
  | nil=>simp [ncs]
  | cons n r =>
   rw [ncs_cons,List.drop_succ_cons,← ih r,show (k+1) * 8=(bcs (nmb n)).length+k * 8 from by rw [bcs_length,nmb_length];omega,List.drop_append,List.drop_of_length_le (by omega)]
   simp
theorem ncs_take (ns:List UInt64) (k:Nat):(ncs ns).take (k * 8)=ncs (ns.take k):=by
 induction k generalizing ns with
 | zero=>simp [ncs]
 | succ k ih =>
  cases ns with
  | nil=>simp [ncs]
  | cons n r =>
   rw [ncs_cons,List.take_succ_cons,ncs_cons,← ih r,show (k+1) * 8=(bcs (nmb n)).length+k * 8 from by rw [bcs_length,nmb_length];omega,List.take_append,List.take_of_length_le (by omega)]
   simp
structure SlN (w:World) (A:Option Addr) (n c:Nat) (ns:List UInt64):Prop where
 len:ns.length=n
 le:n≤c
 cap:c≤9223372036854775807
 rd:Rd w A (ncs ns)
section
variable {w w':World} {A:Option Addr} {n c:Nat} {ns:List UInt64}
theorem SlN.ext (h:SlN w A n c ns) (e:Ext w w'):SlN w' A n c ns:=⟨h.len,h.le,h.cap,h.rd.ext e⟩
theorem SlN.at (h:SlN w A n c ns) (hn:0 < n):∃ b o,A=some ⟨b,o,none⟩∧w.rangeAt b o (ncs ns)∧b < w.heap.size :=
 h.rd.at (by intro e;have:=congrArg List.length e;rw [ncs_length,h.len] at this;simp at this;omega)
theorem ncs_one_at {k:Nat} (hk:k < ns.length):((ncs ns).drop (k * 8)).take 8=bcs (nmb (ns.getD k 0)):=by
 have e:ns[k]=ns.getD k 0:=by simp [hk]
 rw [ncs_drop,List.drop_eq_getElem_cons hk,ncs_cons,List.take_append_of_le_length (by rw [bcs_length,nmb_length];exact Nat.le_refl _),List.take_of_length_le (by rw [bcs_length,nmb_length];exact Nat.le_refl _),e]
theorem name_at {b o k:Nat} (h:w.rangeAt b o (ncs ns)) (hk:k < ns.length):w.rangeAt b (o+k * 8) (bcs (nmb (ns.getD k 0))):=by
 have h1:=rangeAt_take (k:=8) (rangeAt_drop (k:=k * 8) h)
 rwa [ncs_one_at hk] at h1
theorem SlN.cut (h:SlN w A n c ns) {k:Nat} (hk:k≤n) (hkc:k < c):SlN w (A.map (·.add (k * 8))) (n - k) (c - k) (ns.drop k):=by
 refine ⟨by rw [List.length_drop,h.len],by have:=h.le;omega,by have:=h.cap;omega,?_⟩
 have:=h.rd.cut (n:=n) (k:=k) (c:=c) (size:=8) (by rw [ncs_length,h.len]) hk h.le
 rw [if_neg (by omega),ncs_drop] at this
 exact this
theorem SlN.upto (h:SlN w A n c ns) {k:Nat} (hk:k≤n):SlN w A k c (ns.take k):=by
 refine ⟨by rw [List.length_take,h.len];omega,by have:=h.le;omega,h.cap,?_⟩
 have:=h.rd.take (k * 8)
 rwa [ncs_take] at this
theorem SlN.of_own {base:Nat} {e:TypeId} (h:w.ownsRow base e 8 (.slice A n c) n (ncs ns)):SlN w A n c ns:=by
 have hl:ns.length=n:=by have:=h.1;rw [ncs_length] at this;omega
 exact ⟨hl,(own_cap h).1,(own_cap h).2,Rd.of_own h⟩
theorem SlN.of_blk {g:Nat} {t:TypeId} (h:Blk w g t (ncs ns).toArray) (hn:ns.length=n) (hc:n≤9223372036854775807):SlN w (some ⟨g,0,none⟩) n n ns :=
 ⟨hn,Nat.le_refl _,hc,by have:=Rd.of_blk h;simpa using this⟩
end
theorem namesE:Elem Tryz.prog 37 30 (.agg zcs.toArray) 8 8:=⟨Tryz.underlying37,by kernel_rfl,rfl,by decide⟩
theorem foldl_splice (cs vs:List Value) (o:Nat) (h:o+vs.length≤cs.length):((vs.zipIdx 0).foldl (fun a p=>a.setIfInBounds (o+p.2) p.1) cs.toArray)=(cs.take o ++ vs ++ cs.drop (o+vs.length)).toArray:=by
 apply Array.ext_getElem?
 intro j
 rw [foldl_set_get]
 simp only [List.getElem?_toArray,List.size_toArray,Nat.add_zero]
 have ht:(cs.take o).length=o:=by rw [List.length_take];omega
 by_cases h1:j < o
 ·rw [if_neg (by omega),List.append_assoc,List.getElem?_append_left (by rw [ht];exact h1),List.getElem?_take,if_pos h1]
 ·by_cases h2 : j < o + vs.length
  ·rw [if_pos ⟨by omega,h2,by omega⟩,List.getElem?_append_left (by rw [List.length_append,ht];exact h2),List.getElem?_append_right (by rw [ht];omega),ht]
  ·rw [if_neg (by omega), List.getElem?_append_right (by rw [List.length_append, ht]; omega), List.length_append, ht, List.getElem?_drop]
   congr 1;omega
theorem blk_name {w:World} {g k:Nat} {t:TypeId} {ns:List UInt64} (h:Blk w g t (ncs ns).toArray) (hk:k < ns.length) (n:UInt64):Blk (w.setCells g (k * 8) (nmc n).toList) g t (ncs (ns.set k n)).toArray:=by
 have h1:=blk_setCells (o:=k * 8) (vs:=(nmc n).toList) h
 have hl8:(nmc n).toList.length=8:=by rw [nmc_toList,bcs_length,nmb_length]
 rw [foldl_splice _ _ _ (by rw [hl8,ncs_length];omega),hl8,ncs_take,show k * 8+8=(k+1) * 8 from by omega,ncs_drop,nmc_toList,List.append_assoc,← ncs_cons,← ncs_append] at h1
 have hs:ns.set k n=ns.take k ++ n :: ns.drop (k+1):=by rw [List.set_eq_take_append_cons_drop,if_pos hk]
 rw [hs,nmc_toList]
 exact h1
theorem there_blk {w:World} {g o m:Nat} {t:TypeId} {cs:Array Value} (h:Blk w g t cs) (hm:o+m≤cs.size):w.there g o m:=fun j hj=>by
 exact ⟨by rw [h.cell (o+j)];simp;omega,h.frozen (o+j)⟩
def tabN (F:Nat→UInt64) (m k:Nat):List UInt64:=(List.range k).map F ++ List.replicate (m - k) 0
theorem tabN_length (F:Nat→UInt64) (m k:Nat) (h:k≤m):(tabN F m k).length=m:=by simp [tabN];omega
theorem tabN_set (F:Nat→UInt64) (m k:Nat) (h:k < m):(tabN F m k).set k (F k)=tabN F m (k+1):=by
 unfold tabN
 rw [List.range_succ,List.map_append,List.set_append_right _ _ (by simp),show m - k=(m - (k+1))+1 from by omega,List.replicate_succ]
 simp
theorem tabN_full (F:Nat→UInt64) (m:Nat):tabN F m m=(List.range m).map F:=by simp [tabN]
theorem nmb_zero:nmb 0=List.replicate 8 0:=by decide
theorem made_names (m:Nat):madeCells (Value.agg zcs.toArray).cells (m * 8)=(ncs (List.replicate m 0)).toArray:=by
 have h:ncs (List.replicate m 0)=List.replicate (m * 8) (.int .u8 0):=by
  rw [ncs_bytes]
  have:(List.replicate m (0:UInt64)).flatMap nmb=List.replicate (m * 8) 0:=by
   rw [List.flatMap_replicate,nmb_zero,List.flatten_replicate_replicate]
  rw [this];simp [bcs,bv]
 rw [h]
 apply Array.ext_getElem?
 intro i
 have h8:zcs.length=8:=rfl
 have hz:∀ j,j < 8→zcs.toArray[j]! = .int .u8 0:=by
  intro j hj
  match j,hj with
  | 0,_ | 1,_ | 2,_ | 3,_ | 4,_ | 5,_ | 6,_ | 7,_=>rfl
 simp only [madeCells,Value.cells]
 by_cases hi:i < m * 8
 ·have h9 := hz (i % 8) (by omega)
  simp [hi,h8]
  simpa using h9
 ·simp [hi]
end Go.Proofs.YtohmmcahpakokaaGreat
namespace Go.Proofs.YtohmmcahpakokaaGreat
open Go.RowKit
theorem fold_arr (ds cs:Array Value) (o:Nat):ds.zipIdx.foldl (fun cs (x:Value × Nat)=>cs.setIfInBounds (o+x.2) x.1) cs=(ds.toList.zipIdx 0).foldl (fun a p=>a.setIfInBounds (o+p.2) p.1) cs:=by
 rw [← Array.foldl_toList,Array.toList_zipIdx]
theorem fold_whole (ds cs:Array Value) (h:ds.size=cs.size):(ds.toList.zipIdx 0).foldl (fun a p=>a.setIfInBounds (0+p.2) p.1) cs=ds:=by
 apply Array.ext_getElem?
 intro j
 rw [foldl_set_get]
 by_cases hj:j < ds.size
 ·rw [if_pos (by simp;omega)];simp
 ·rw [if_neg (by simp;omega),Array.getElem?_eq_none (by omega),Array.getElem?_eq_none (by omega)]
@[go_sem] theorem fold_nmc (n:UInt64) (Z:Array Value) (hZ:Z.size=8):Array.foldl (fun cs x=>cs.setIfInBounds x.snd x.fst) Z (nmc n).zipIdx 0 (nmc n).size=nmc n:=by
 have h:=fold_arr (nmc n) Z 0
 rw [fold_whole _ _ (by rw [nmc_size,hZ])] at h
 simpa using h
@[go_sem] theorem fold_nmc8 (n:UInt64) (Z:Array Value) (hZ:Z.size=8):Array.foldl (fun cs x=>cs.setIfInBounds x.snd x.fst) Z (nmc n).zipIdx 0 8=nmc n:=by
 have h:=fold_nmc n Z hZ
 rwa [nmc_size] at h
attribute [go_sem] nmc_size
def nb8 (n:UInt64) (i:Nat):Int:=(((nmb n).getD i 0).toNat:Int)
theorem nmc_nb8 (n:UInt64):#[.int .u8 (nb8 n 0),.int .u8 (nb8 n 1),.int .u8 (nb8 n 2),.int .u8 (nb8 n 3),.int .u8 (nb8 n 4),.int .u8 (nb8 n 5),.int .u8 (nb8 n 6),.int .u8 (nb8 n 7)]=nmc n:=by
 unfold nmc nb8
 rw [show bcs (nmb n)=bcs [(nmb n).getD 0 0,(nmb n).getD 1 0,(nmb n).getD 2 0,(nmb n).getD 3 0,(nmb n).getD 4 0,(nmb n).getD 5 0,(nmb n).getD 6 0,(nmb n).getD 7 0] from congrArg bcs (nmb_list n)]
 rfl
attribute [go_sem] nmc_nb8
theorem cells8 {w:World} {g:Nat} {t:TypeId} {n:UInt64} (h:Blk w g t (nmc n)):∀ i,i < 8→w.cell? ⟨g,i,none⟩=some (.int .u8 (nb8 n i)):=fun i hi=>by
 rw [h.cell i];exact nmc_get n i hi
theorem cells8At {w:World} {b o:Nat} {n:UInt64} (h:w.rangeAt b o (bcs (nmb n))):∀ i,i < 8→w.cell? ⟨b,o+i,none⟩=some (.int .u8 (nb8 n i)):=fun i hi=>by
 refine h i _ ?_
 have hl:=nmb_length n
 simp [bcs,bv,nb8,hl,hi]
theorem run_buildN1 (n:UInt64) (w:World):(Instr.buildSlice 37 1 #[(0,.agg (nmc n))]).run Tryz.prog w=.ok (.slice (some ⟨w.heap.size,0,none⟩) 1 1) (w.alloc (.cells (nmc n) 30)):=by
 obtain ⟨i,hi,hz,hs,hby⟩:=namesE.get
 have hsz:=nmc_size n
 have hst:(sizeOf 30).run Tryz.prog w=.ok 8 w:=by simp [sizeOf,typeInfo,hi,hs]
 have hzv:(zeroValue 30).run Tryz.prog w=.ok (.agg zcs.toArray) w:=by simp [zeroValue,typeInfo,hi,hz]
 have hf:∀ Z:Array Value,Z.size=8→Instr.fill (fun i=>some (i * 8,8)) Z [(0,.agg (nmc n))]=some (nmc n):=by
  intro Z hZ
  simp only [Instr.fill,Value.cells,hsz,Nat.zero_mul]
  rw [if_neg (by simp [hZ]),fold_arr,fold_whole _ _ (by rw [hsz,hZ])]
 simp [Instr.buildSlice,run_underlying namesE.ut,hst,hzv,Value.cells]
 rw [hf _ (by simp)]
 simp [newRow]
def flw (len at_ n:Int):Bool:=decide (0≤at_∧at_≤len∧n≤len - at_)
theorem codFollow_any (A:Option Addr) (len c:Nat) (at_ n:Int) (w:World) (hl:len≤9223372036854775807) :
  Calls Tryz.prog 240 #[.slice A len c,.int .i64 at_,.int .i64 n] w fun e w'=>e=.returned (.bool (flw len at_ n))∧w=w':=by
 by_cases h1:0≤at_
 ·by_cases h2 : at_ ≤ (len : Int)
  ·by_cases h3 : n ≤ (len : Int) - at_
   ·have hf : flw len at_ n = true := by unfold flw; simp only [decide_eq_true_eq]; exact ⟨h1, h2, h3⟩
    rw [hf];clear hf
    go_enter Tryz.func240,Tryz.ntmps240
    go_wp2_with fail
    go_ret
    exact ⟨rfl,rfl⟩
   ·have hf : flw len at_ n = false := by unfold flw; simp only [decide_eq_false_iff_not]; omega
    have h3':decide (n≤(len:Int) - at_)=false:=decide_eq_false h3
    rw [hf];clear hf
    go_enter Tryz.func240,Tryz.ntmps240
    go_wp2_with fail
    go_ret
    exact ⟨rfl,rfl⟩
  ·have hf : flw len at_ n = false := by unfold flw; simp only [decide_eq_false_iff_not]; omega
   have h2':decide (at_≤(len:Int))=false:=decide_eq_false h2
   rw [hf];clear hf
   go_enter Tryz.func240,Tryz.ntmps240
   go_wp2_with fail
   go_ret
   exact ⟨rfl,rfl⟩
 ·have hf : flw len at_ n = false := by unfold flw; simp only [decide_eq_false_iff_not]; omega
  have h1':decide (0≤at_)=false:=decide_eq_false h1
  rw [hf];clear hf
  go_enter Tryz.func240,Tryz.ntmps240
  go_wp2_with fail
  go_ret
  exact ⟨rfl,rfl⟩
theorem or_byte' (a:Nat) (c:UInt8) (ha:a < 72057594037927936):bits .or .u64 (IntKind.u64.wrap ((a:Int) * 256)) (c.toNat:Int)=((a * 256+c.toNat:Nat):Int):=or_byte a c ha
theorem pow_le7 (a k:Nat) (h:a < 256 ^ k) (hk:k < 8):a < 72057594037927936:=Nat.lt_of_lt_of_le h (Nat.pow_le_pow_right (n:=256) (j:=7) (by omega) (by omega))
def numAt (l:List UInt8) (at_ width:Nat):Nat:=beNat ((l.drop at_).take width)
theorem uint_yes (A:Option Addr) (n c:Nat) (l:List UInt8) (at_ width:Nat) (w:World) (h:SlB w A n c l) (h1:1≤width) (h8:width≤8) (hf:at_+width≤n) :
  Calls Tryz.prog 203 #[.slice A n c,.int .i64 (at_:Int),.int .i64 (width:Int)] w fun e w'=>e=.returned (.tuple #[.int .u64 (numAt l at_ width:Int),.bool true])∧w=w':=by
 have hle:=h.le
 have hcap:=h.cap
 have hlen:=h.len
 have e1:decide ((width:Int) < 1)=false:=decide_eq_false (by omega)
 have e2:decide ((8:Int) < (width:Int))=false:=decide_eq_false (by omega)
 have hfl:flw n at_ width=true:=by unfold flw;simp only [decide_eq_true_eq];omega
 have b1:¬ c=at_:=by omega
 obtain ⟨b,o,rfl,hra,hbl⟩:=h.at (by omega)
 go_enter Tryz.func203,Tryz.ntmps203
 go_wp2_with (go_at_call 240;refine (codFollow_any _ _ _ _ _ _ (by omega)).mono ?_;rintro e w1 ⟨rfl,rfl⟩;rw [hfl])
 go_loop [8,31] (fun v i=>∃ k:Nat,k≤width∧i=.int .i64 (k:Int)∧v=.int .u64 ((numAt l at_ k:Nat):Int)) (fun _ i=>width - (intOf i).toNat)
 case atStart=>exact ⟨0,by omega,rfl,by simp [numAt,beNat]⟩
 case round =>
  obtain ⟨k,hk,rfl,rfl⟩:=hrel
  by_cases hlt:k < width
  ·have hcell := byte_at hra (at_ + k) (by omega)
   rw [← Nat.add_assoc] at hcell
   have hd:(l.drop at_)[k]'(by simp;omega)=l[at_+k]'(by omega):=by simp
   have HS:=zh (show numAt l at_ (k+1)=numAt l at_ k * 256+(l[at_+k]'(by omega)).toNat by unfold numAt;rw [take_at _ _ (by simp;omega),beNat_snoc,hd])
   have hor:=or_byte' (numAt l at_ k) (l[at_+k]'(by omega)) (pow_le7 _ k (beNat_take_lt _ _ (by simp;omega)) (by omega))
   clear hd
   generalize numAt l at_ k=a at *
   generalize (l[at_+k]'(by omega))=x at *
   go_wp2_with fail
   go_round
   case rel=>exact ⟨k+1,by omega,by go_num,by rw [HS.out];go_num⟩
   case measure=>simp [intOf];omega
  ·obtain rfl : k = width := by omega
   go_wp2_with fail
   go_ret2
   exact ⟨rfl,rfl⟩
theorem uint_no (A:Option Addr) (n c:Nat) (at_ width:Int) (w:World) (hn:n≤9223372036854775807) (h1:1≤width) (h8:width≤8) (hf:flw n at_ width=false) :
  Calls Tryz.prog 203 #[.slice A n c,.int .i64 at_,.int .i64 width] w fun e w'=>e=.returned (.tuple #[.int .u64 0,.bool false])∧w=w':=by
 have e1:decide (width < 1)=false:=decide_eq_false (by omega)
 have e2:decide (8 < width)=false:=decide_eq_false (by omega)
 go_enter Tryz.func203,Tryz.ntmps203
 go_wp2_with (go_at_call 240;refine (codFollow_any _ _ _ _ _ _ (by omega)).mono ?_;rintro e w1 ⟨rfl,rfl⟩;rw [hf])
 go_ret2
 exact ⟨rfl,rfl⟩
theorem leaf_yes (A:Option Addr) (n c:Nat) (l:List UInt8) (w:World) (h:SlB w A n c l) (h2:2≤n) :
  Calls Tryz.prog 146 #[.slice A n c] w fun e w'=>e=.returned (.tuple #[.int .i64 (numAt l 0 2:Int),.bool true])∧w=w':=by
 have hb:numAt l 0 2 < 65536:=beNat_take_lt _ 2 (by simp;have:=h.len;omega)
 have hw:IntKind.i64.wrap ((numAt l 0 2:Nat):Int)=((numAt l 0 2:Nat):Int):=by rw [IntKind.wrap_i64];omega
 have hu:=zh (uint_yes A n c l 0 2 w h (by omega) (by omega) (by omega))
 generalize numAt l 0 2=x at *
 go_enter Tryz.func146,Tryz.ntmps146
 go_wp2_with fail
 refine hu.out.mono ?_
 rintro e w1 ⟨rfl,rfl⟩
 go_wp2_with fail
 go_ret2
 exact ⟨rfl,rfl⟩
theorem leaf_no (A:Option Addr) (n c:Nat) (w:World) (h2:n < 2) :
  Calls Tryz.prog 146 #[.slice A n c] w fun e w'=>e=.returned (.tuple #[.int .i64 0,.bool false])∧w=w':=by
 have hu:=zh (uint_no A n c 0 2 w (by omega) (by omega) (by omega) (by unfold flw;simp only [decide_eq_false_iff_not];omega))
 go_enter Tryz.func146,Tryz.ntmps146
 go_wp2_with fail
 refine hu.out.mono ?_
 rintro e w1 ⟨rfl,rfl⟩
 go_wp2_with fail
 go_ret2
 exact ⟨rfl,rfl⟩
end Go.Proofs.YtohmmcahpakokaaGreat
namespace Go.Proofs.YtohmmcahpakokaaGreat
open Go.RowKit
def capZ (n:Int):Int:=if n=2 then 1024 else if n=1 then 32 else 0
def sizeZ (n:Int):Int:=if n=2 then 370 else if n=1 then 186 else 0
theorem capacity_any (n:Int) (w:World) :
  Calls Tryz.prog 201 #[.int .i64 n] w fun e w'=>e=.returned (.int .i64 (capZ n))∧w=w':=by
 by_cases h2:n=2
 ·subst h2
  go_enter Tryz.func201,Tryz.ntmps201
  go_wp2
  go_ret
  exact ⟨rfl,rfl⟩
 ·by_cases h1 : n = 1
  ·subst h1
   go_enter Tryz.func201,Tryz.ntmps201
   go_wp2
   go_ret
   exact ⟨rfl,rfl⟩
  ·have e : capZ n = 0 := by simp [capZ, h1, h2]
   have b2:(n == 2)=false:=by simp [h2]
   have b1:(n == 1)=false:=by simp [h1]
   rw [e];clear e h1 h2
   go_enter Tryz.func201,Tryz.ntmps201
   go_wp2
   go_ret
   exact ⟨rfl,rfl⟩
end Go.Proofs.YtohmmcahpakokaaGreat
namespace Go.Proofs.YtohmmcahpakokaaGreat
open Go.RowKit
theorem size_any (n:Int) (w:World) :
  Calls Tryz.prog 200 #[.int .i64 n] w fun e w'=>e=.returned (.int .i64 (sizeZ n))∧w=w':=by
 by_cases h2:n=2
 ·subst h2
  go_enter Tryz.func200,Tryz.ntmps200
  go_wp2
  go_ret
  exact ⟨rfl,rfl⟩
 ·by_cases h1 : n = 1
  ·subst h1
   go_enter Tryz.func200,Tryz.ntmps200
   go_wp2
   go_ret
   exact ⟨rfl,rfl⟩
  ·have e : sizeZ n = 0 := by simp [sizeZ, h1, h2]
   have b2:(n == 2)=false:=by simp [h2]
   have b1:(n == 1)=false:=by simp [h1]
   rw [e];clear e h1 h2
   go_enter Tryz.func200,Tryz.ntmps200
   go_wp2
   go_ret
   exact ⟨rfl,rfl⟩
end Go.Proofs.YtohmmcahpakokaaGreat
namespace Go.Proofs.YtohmmcahpakokaaGreat
open Go.RowKit
attribute [local go_sem ↓] Go.wp_at_zero Go.wp_at_succ
theorem grown_set (w:World) (B i:Nat) (u:Value):w.grownBy (w.setCell ⟨B,i,none⟩ u) (some B) :=
 ⟨rfl,rfl,rfl,by simp [World.setCell],fun k _ hk=>Below.heap_setCell _ _ _ _ (fun e=>hk (by rw [e]))⟩
theorem grown_refl (w:World) (row:Option Nat):w.grownBy w row:=⟨rfl,rfl,rfl,Nat.le_refl _,fun _ _ _=>rfl⟩
variable {D:Nat}
variable {D:Nat}
theorem zcs_nmc:zcs.toArray=nmc 0:=by
 unfold nmc;rw [nmb_zero];rfl
theorem grown_setCells' (w:World) (g:Nat):∀ (vs:List Value) (o:Nat),w.grownBy (w.setCells g o vs) (some g):=by
 intro vs
 induction vs generalizing w with
 | nil=>intro o;exact grown_refl w _
 | cons v r ih=>intro o;exact World.grownBy.trans (grown_set w g o v) (ih _ (o+1))
theorem drewN_ext (w:World) (n:Nat):Ext w (w.drewN n):=⟨rfl,rfl,rfl,Nat.le_refl _,fun _ _=>rfl⟩
theorem blk_zero {w:World} {g:Nat} {t:TypeId} (h:Blk w g t zcs.toArray):Blk (w.setCells g 0 zcs) g t (nmc 0):=by
 have:=blkN h 0
 rwa [← zcs_nmc] at this ⊢
end Go.Proofs.YtohmmcahpakokaaGreat
namespace Go.Proofs.YtohmmcahpakokaaGreat
open Go.RowKit
def litB (c:UInt8):Lit:=.int .u8 (c.toNat:Int)
theorem litB_wf (c:UInt8):(Lit.int .u8 (c.toNat:Int)).wf=true:=by
 have:=c.toNat_lt
 simp [Lit.wf,IntKind.min,IntKind.max,IntKind.signed,IntKind.bits];omega
theorem keyByte (c:UInt8):Tryz.prog.keyLits 1 5 [.int .u8 (c.toNat:Int)]=some [litB c]:=by
 unfold Program.keyLits
 rw [Tryz.underlying5]
 simp only
 rw [if_pos ⟨trivial,litB_wf c⟩];rfl
theorem cellsU8':Tryz.prog.cellsOf 5=1:=by kernel_rfl
theorem cellsN:Tryz.prog.cellsOf 30=8:=by kernel_rfl
theorem keyName (n:UInt64):Tryz.prog.keyLits 2 30 (bcs (nmb n))=some ((nmb n).map litB):=by
 unfold Program.keyLits
 rw [Tryz.underlying30]
 simp only
 rw [if_pos (by rw [bcs_length,nmb_length,cellsN]),cellsU8']
 rw [nmb_list n]
 generalize (nmb n).getD 0 0=x0
 generalize (nmb n).getD 1 0=x1
 generalize (nmb n).getD 2 0=x2
 generalize (nmb n).getD 3 0=x3
 generalize (nmb n).getD 4 0=x4
 generalize (nmb n).getD 5 0=x5
 generalize (nmb n).getD 6 0=x6
 generalize (nmb n).getD 7 0=x7
 rw [show List.range 8=[0,1,2,3,4,5,6,7] from rfl]
 simp only [bcs,bv,List.map_cons,List.map_nil,List.mapM_cons,List.mapM_nil,Nat.zero_mul,Nat.one_mul,Nat.mul_one,List.drop_zero,List.drop_succ_cons,List.take_succ_cons,List.take_zero,keyByte]
 rfl
theorem litB_inj {a b:UInt64} (h:(nmb a).map litB=(nmb b).map litB):a=b:=by
 refine nmb_inj ?_
 have hf:∀ x y:UInt8,litB x=litB y→x=y:=fun x y e=>by
  unfold litB at e;injection e with _ e;exact UInt8.toNat_inj.1 (by omega)
 exact List.map_inj_right hf |>.1 h
theorem run_eqN (a b:UInt64) (w:World):(binOp .eql 30 (.agg (nmc a)) (.agg (nmc b))).run Tryz.prog w=.ok (.bool (decide (a=b))) w:=by
 have hE:=run_equalIn_deep (P:=Tryz.prog) 9998 2 30 (by kernel_rfl)
 have hfm:∀ n:UInt64,(Value.agg (nmc n)).formed Tryz.prog 30=true:=fun n=>by
  simp [Value.formed,Tryz.underlying30,nmc_size,cellsN]
 have hk:∀ n:UInt64,Tryz.prog.keyLits 2 30 (Value.agg (nmc n)).cells.toList=some ((nmb n).map litB):=fun n=>by
  show Tryz.prog.keyLits 2 _ (nmc n).toList=_
  rw [nmc_toList];exact keyName n
 obtain ⟨r,hr,hiff⟩:=hE w 2 2 _ _ _ _ (hfm a) (hfm b) (hk a) (hk b)
 rw [run_eql_struct]
 have hr':(Op.equalIn 10000 30 (.agg (nmc a)) (.agg (nmc b))).run Tryz.prog w=.ok r w:=hr
 rw [hr']
 have:r=decide (a=b):=by
  by_cases h:a=b
  ·subst h;simp [hiff.2 rfl]
  ·have : r ≠ true := fun e => h (litB_inj (hiff.1 e))
   simp [h,this]
 rw [this];rfl
end Go.Proofs.YtohmmcahpakokaaGreat
