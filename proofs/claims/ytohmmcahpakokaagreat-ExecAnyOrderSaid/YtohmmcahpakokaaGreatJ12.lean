import Derived.ProofKit
import Derived.OpenShut
import Derived.Deep.Slices
import Derived.Test.YtohmmcahpakokaaGreatJ09
import Derived.Test.YtohmmcahpakokaaGreatJ10
set_option maxRecDepth 100000
set_option maxHeartbeats 8000000
set_option linter.unusedVariables false
set_option linter.unusedSimpArgs false
namespace Go.Proofs.YtohmmcahpakokaaGreat
section
open Go.RowKit
def rI (n:Int):Int:=if n=2 then 1024 else if n=1 then 32 else 0
def jX (n:Int):Int:=if n=2 then 370 else if n=1 then 186 else 0
theorem gM (n:Int) (w:World) :
  Calls Tryz.prog 201 #[.int .i64 n] w fun e w'=>e=.returned (.int .i64 (rI n))∧w=w':=by
 by_cases h2:n=2
 ·subst h2
  go_enter Tryz.func201,Tryz.ntmps201
  go_wp2
  go_ret
  exact ⟨rfl,rfl⟩
 by_cases h1:n=1
 ·subst h1
  go_enter Tryz.func201,Tryz.ntmps201
  go_wp2
  go_ret
  exact ⟨rfl,rfl⟩
 have e:rI n=0:=by simp [rI,h1,h2]
 have b2:(n == 2)=false:=by simp [h2]
 have b1:(n == 1)=false:=by simp [h1]
 rw [e];clear e h1 h2
 go_enter Tryz.func201,Tryz.ntmps201
 go_wp2
 go_ret
 exact ⟨rfl,rfl⟩
theorem pG (n:Int) (w:World) :
  Calls Tryz.prog 200 #[.int .i64 n] w fun e w'=>e=.returned (.int .i64 (jX n))∧w=w':=by
 by_cases h2:n=2
 ·subst h2
  go_enter Tryz.func200,Tryz.ntmps200
  go_wp2
  go_ret
  exact ⟨rfl,rfl⟩
 by_cases h1:n=1
 ·subst h1
  go_enter Tryz.func200,Tryz.ntmps200
  go_wp2
  go_ret
  exact ⟨rfl,rfl⟩
 have e:jX n=0:=by simp [jX,h1,h2]
 have b2:(n == 2)=false:=by simp [h2]
 have b1:(n == 1)=false:=by simp [h1]
 rw [e];clear e h1 h2
 go_enter Tryz.func200,Tryz.ntmps200
 go_wp2
 go_ret
 exact ⟨rfl,rfl⟩
end
section
open Go.RowKit
attribute [local go_sem ↓] Go.wp_at_zero Go.wp_at_succ
theorem cN (i:Nat) (hi:i < 8):nb8 0 i=0:=by
 match i,hi with
 | 0,_ | 1,_ | 2,_ | 3,_ | 4,_ | 5,_ | 6,_ | 7,_=>rfl
structure OpV where
 k:Int
 tO:Int
 am:Int
 ul:Int
 va:Int
 lk:UInt64
 hs:UInt64
 pre:List UInt8
 prf:List UInt8
def OpR.v (R:OpR):OpV:=⟨R.k,R.tO,R.am,R.ul,R.va,R.lk,R.hs,R.pre,R.prf⟩
abbrev jU:Array Value:=#[.int .i64 0,.int .i64 0,.int .i64 0,.int .i64 0,.int .i64 0,.int .u8 0,.int .u8 0,.int .u8 0,.int .u8 0,.int .u8 0,.int .u8 0,.int .u8 0,.int .u8 0,.int .u8 0,.int .u8 0,.int .u8 0,.int .u8 0,.int .u8 0,.int .u8 0,.int .u8 0,.int .u8 0,.slice none 0 0,.slice none 0 0]
theorem gB {fn:Func} {p:Tmp} {ty:TypeId} (hres:fn.results=#[.cell p ty]) (tmps:Array Value) (w1:World) (g:Nat) (cs:Array Value) (hp:tmps.getD p undef=.pointer (some ⟨g,0,none⟩)) (hl:(loadVar ty ⟨g,0,none⟩).run Tryz.prog w1=.ok (.agg cs) w1) :
  (results fn tmps).run Tryz.prog w1=.ok (.agg cs) w1:=by
 have hp':tmps[p]?.getD undef=.pointer (some ⟨g,0,none⟩):=by simpa using hp
 simp [results,hres,hp',asAddr,hl]
structure VtR where
 k:Int
 sl:Int
 ro:Int
 ch:Int
 si:Int
 su:Int
 pa:UInt64
 va:UInt64
deriving DecidableEq
def wfI (z:Int):Prop:=(Lit.int .i64 z).wf=true
structure VtR.wf (v:VtR):Prop where
 k:wfI v.k
 sl:wfI v.sl
 ro:wfI v.ro
 ch:wfI v.ch
 si:wfI v.si
 su:wfI v.su
abbrev vtA (v:VtR):Array Value:=#[.int .i64 v.k,.int .i64 v.sl,.int .i64 v.ro,.int .i64 v.ch,.int .i64 v.si,.int .i64 v.su,.int .u8 (nb8 v.pa 0),.int .u8 (nb8 v.pa 1),.int .u8 (nb8 v.pa 2),.int .u8 (nb8 v.pa 3),.int .u8 (nb8 v.pa 4),.int .u8 (nb8 v.pa 5),.int .u8 (nb8 v.pa 6),.int .u8 (nb8 v.pa 7),.int .u8 (nb8 v.va 0),.int .u8 (nb8 v.va 1),.int .u8 (nb8 v.va 2),.int .u8 (nb8 v.va 3),.int .u8 (nb8 v.va 4),.int .u8 (nb8 v.va 5),.int .u8 (nb8 v.va 6),.int .u8 (nb8 v.va 7)]
def vtL (v:VtR):List Value:=(vtA v).toList
theorem aCH (v:VtR):(vtL v).length=22:=rfl
theorem aHL (v:VtR):∀ u ∈ vtL v,u.oneCell'=true:=by
 intro u hu
 simp only [vtL,List.mem_cons,List.not_mem_nil,or_false] at hu
 rcases hu with rfl | rfl | rfl | rfl | rfl | rfl | rfl | rfl | rfl | rfl | rfl | rfl | rfl | rfl | rfl | rfl | rfl | rfl | rfl | rfl | rfl | rfl <;> rfl
instance:RowT VtR where
 sz:=22
 z:=⟨0,0,0,0,0,0,0,0⟩
 enc:=vtL
 ok v w:=v.wf
 pos:=by decide
 len:=aCH
 one:=aHL
 ext _ _ _ h _:=h
end
section
open Go.RowKit
def byt (l:List UInt8) (i:Nat):UInt8:=l.getD i 0
def gR:List Int→List Int→Bool
 | x :: r,y :: s=>if x=y then gR r s else decide (x < y)
 | _,_=>false
theorem aBJ (l:List Int):gR l l=false:=by
 induction l with
 | nil=>rfl
 | cons x r ih=>simp [gR,ih]
theorem uW:∀ (a b c:List Int),gR a b=true→gR b c=true→gR a c=true
 | [],_,_,h,_=>by simp [gR] at h
 | _ :: _,[],_,h,_=>by simp [gR] at h
 | _ :: _,_ :: _,[],_,h=>by simp [gR] at h
 | x :: r,y :: s,z :: t,h1,h2=>by
  unfold gR at h1 h2 ⊢
  have ih:=uW r s t
  by_cases c1:x=y
  ·subst c1
   rw [if_pos rfl] at h1
   by_cases c2:x=z
   ·subst c2;rw [if_pos rfl] at h2 ⊢;exact ih h1 h2
   rw [if_neg c2] at h2 ⊢;exact h2
  rw [if_neg c1] at h1
  have h1':=of_decide_eq_true h1
  by_cases c2:y=z
  ·subst c2;rw [if_neg c1];exact h1
  rw [if_neg c2] at h2
  have h2':=of_decide_eq_true h2
  rw [if_neg (by omega)];exact decide_eq_true (by omega)
theorem uX:∀ (a b:List Int),a.length=b.length→gR a b=false→gR b a=false→a=b
 | [],[],_,_,_=>rfl
 | [],_ :: _,h,_,_=>by simp at h
 | _ :: _,[],h,_,_=>by simp at h
 | x :: r,y :: s,h,h1,h2=>by
  unfold gR at h1 h2
  have ih:=uX r s (by simpa using h)
  by_cases e:x=y
  ·subst e;simp at h1 h2;rw [ih h1 h2]
  rw [if_neg e] at h1;rw [if_neg (fun h=>e h.symm)] at h2;simp at h1 h2;omega
end
section
open Go.RowKit
attribute [local go_sem ↓] Go.wp_at_zero Go.wp_at_succ
def tH (ac sq:Int) (n:Nat):Bool:=decide (0≤ac∧ac≤15∧0≤sq∧sq≤31∧1≤n∧n≤4)
def vTx (ac sq:Int) (L:List OpR):Bool:=tH ac sq L.length && decide (∀ k,k < L.length→vOp (aY L k)=true)
theorem aAW {ac sq:Int} {L:List OpR} (h:tH ac sq L.length=false):vTx ac sq L=false:=by unfold vTx;rw [h,Bool.false_and]
theorem aGi {ac sq:Int} {L:List OpR} {k:Nat} (hk:k < L.length) (h:vOp (aY L k)=false):vTx ac sq L=false:=by
 unfold vTx;rw [decide_eq_false (p:=∀ k,k < L.length→vOp (aY L k)=true) (fun hh=>by rw [hh k hk] at h;cases h),Bool.and_false]
theorem aDU {ac sq:Int} {L:List OpR} (h:tH ac sq L.length=true) (h2:∀ k,k < L.length→vOp (aY L k)=true):vTx ac sq L=true:=by
 unfold vTx;rw [h,decide_eq_true h2];rfl
theorem eO {ac sq:Int} {L:List OpR} (h:vTx ac sq L=true):(0≤ac∧ac≤15∧0≤sq∧sq≤31∧1≤L.length∧L.length≤4)∧∀ k,k < L.length→vOp (aY L k)=true:=by
 unfold vTx tH at h;simp only [Bool.and_eq_true,decide_eq_true_eq] at h;exact h
def aCl (b:Bool):Int:=if b then 0 else 1
theorem aAU (ac sq:Int) (A:Option Addr) (n c:Nat) (L:List OpR) (w:World) (hS:SlO w A n c L) (hh:0≤ac∧ac≤15∧0≤sq∧sq≤31∧1≤n∧n≤4) :
  Calls Tryz.prog 44 #[.agg (txA ac sq A n c)] w fun e w'=>e=.returned (.int .i64 (aCl (vTx ac sq L)))∧Ext w w':=by
 have hle:=hS.le
 have hcap:=hS.cap
 have HLEN:=zh hS.len
 have HE:=zh ((Ext.refl w).alloc' (.cells (txA ac sq A n c) 24))
 have HS:=zh hS
 clear hS
 have HH:=zh (show tH ac sq L.length=true by rw [HLEN.out];exact decide_eq_true hh)
 have d1:decide (ac < 0)=false:=decide_eq_false (by omega)
 have d2:decide (16≤ac)=false:=decide_eq_false (by omega)
 have d3:decide (sq < 0)=false:=decide_eq_false (by omega)
 have d4:decide (32≤sq)=false:=decide_eq_false (by omega)
 have d5:decide ((n:Int) < 1)=false:=decide_eq_false (by omega)
 have d6:decide (4 < (n:Int))=false:=decide_eq_false (by omega)
 have hn4:n≤4:=by omega
 obtain ⟨b,o,rfl,hr,hb⟩:=HS.out.at (by omega)
 have HR:=zh hr
 have HBL:=zh hb
 clear hr hb hh
 go_enter Tryz.func44,Tryz.ntmps44
 go_wp2_with fail
 go_loopw [38] (fun i wr=>∃ k:Nat,k≤n∧i=.int .i64 (k:Int)∧Hid (∀ j,j < k→vOp (aY L j)=true)∧Ext w wr) (fun i _=>n - (intOf i).toNat)
 case atStart=>exact ⟨0,Nat.zero_le _,rfl,zh (fun j hj=>by omega),HE.out⟩
 case round =>
  obtain ⟨k,hk,rfl,HP,hX⟩:=hrel
  have HX:=zh hX
  clear hX
  by_cases hlt:k < n
  ·have hr := kW (aX HR.out (HX.out.block b HBL.out)) (k := k) (by rw [HLEN.out]; exact hlt)
   have HQ:=zh (fun (hx:vOp (aY L k)=true)=>show ∀ j,j < k+1→vOp (aY L j)=true from fun j hj=>by
    rcases Nat.lt_or_ge j k with h | h
    ·exact HP.out j h
    obtain rfl:j=k:=by omega
    exact hx)
   have HN:=zh (fun (hx:vOp (aY L k)=false)=>show aCl (vTx ac sq L)=1 by rw [aGi (by rw [HLEN.out];exact hlt) hx];rfl)
   have HOK:=zh ((HS.out.nth hlt).ext HX.out)
   have i0:(0:Int)≤(k:Int):=by omega
   have i1:(k:Int) < (n:Int):=by omega
   obtain ⟨R,hR⟩:∃ R,aY L k=R:=⟨_,rfl⟩
   rw [hR] at hr HQ HN HOK
   clear hR
   have hnew:=aHd wr R
   go_wp2_with (first | (with_reducible refine fC rfl (.tmp 40) rfl b (o+k * 23) rfl R hr ?_) | (with_reducible refine rM rfl (.tmp 4) (.tmp 41) rfl _ rfl R rfl rfl ?_) | (with_reducible refine fC rfl (.tmp 4) rfl wr.heap.size 0 rfl R hnew ?_))
   have HA:=zh ((Ext.refl wr).alloc' (.cells (opA R) 69))
   refine (aAV R _ (HOK.out.ext HA.out)).mono ?_
   rintro e w1 ⟨rfl,he1⟩
   have HX1:=zh (HX.out.trans (HA.out.trans he1))
   clear he1 hr
   cases hv:vOp R with
   | true =>
    have HQ':=zh (HQ.out hv)
    clear hv
    go_wp2_with fail
    go_roundw
    case rel=>exact ⟨k+1,by omega,by go_num,HQ',HX1.out⟩
    case measure=>simp [intOf];omega
   | false =>
    have HN':=zh (HN.out hv)
    clear hv
    go_wp2_with fail
    go_ret
    exact ⟨by rw [HN'.out];rfl,HX1.out⟩
  obtain rfl:k=n:=by omega
  have HV:=zh (show vTx ac sq L=true from aDU HH.out (fun j hj=>HP.out j (by rw [HLEN.out] at hj;exact hj)))
  go_wp2_with fail
  go_ret
  exact ⟨by rw [HV.out];rfl,HX.out⟩
theorem yU (ac sq:Int) (A:Option Addr) (n c:Nat) (L:List OpR) (w:World) (hS:SlO w A n c L) (hh:¬ (0≤ac∧ac≤15∧0≤sq∧sq≤31∧1≤n∧n≤4)) :
  Calls Tryz.prog 44 #[.agg (txA ac sq A n c)] w fun e w'=>e=.returned (.int .i64 (aCl (vTx ac sq L)))∧Ext w w':=by
 have hle:=hS.le
 have hcap:=hS.cap
 have HLEN:=zh hS.len
 have HE:=zh ((Ext.refl w).alloc' (.cells (txA ac sq A n c) 24))
 have HS:=zh hS
 clear hS
 have HV:=zh (show aCl (vTx ac sq L)=1 by rw [aAW (by rw [HLEN.out];exact decide_eq_false hh)];rfl)
 have hc:ac < 0 ∨ (decide (ac < 0)=false∧16≤ac) ∨ (decide (ac < 0)=false∧decide (16≤ac)=false∧sq < 0) ∨ (decide (ac < 0)=false∧decide (16≤ac)=false∧decide (sq < 0)=false∧32≤sq) ∨ (decide (ac < 0)=false∧decide (16≤ac)=false∧decide (sq < 0)=false∧decide (32≤sq)=false∧(n:Int) < 1) ∨ (decide (ac < 0)=false∧decide (16≤ac)=false∧decide (sq < 0)=false∧decide (32≤sq)=false∧decide ((n:Int) < 1)=false∧4 < (n:Int)):=by
  simp only [decide_eq_false_iff_not];omega
 clear hh HLEN HS
 rcases hc with d1 | ⟨d1,d2⟩ | ⟨d1,d2,d3⟩ | ⟨d1,d2,d3,d4⟩ | ⟨d1,d2,d3,d4,d5⟩ | ⟨d1,d2,d3,d4,d5,d6⟩
 all_goals (
  go_enter Tryz.func44,Tryz.ntmps44
  go_wp2_with fail
  go_ret
  exact ⟨by rw [HV.out];rfl,HE.out⟩)
theorem eH (ac sq:Int) (A:Option Addr) (n c:Nat) (L:List OpR) (w:World) (hS:SlO w A n c L) :
  Calls Tryz.prog 44 #[.agg (txA ac sq A n c)] w fun e w'=>e=.returned (.int .i64 (aCl (vTx ac sq L)))∧Ext w w':=by
 by_cases hh:0≤ac∧ac≤15∧0≤sq∧sq≤31∧1≤n∧n≤4
 ·exact aAU ac sq A n c L w hS hh
 exact yU ac sq A n c L w hS hh
end
section
open Go.RowKit
def nN (l:List UInt8) (at_ i:Nat):UInt64:=aAd ((l.drop (at_+i * 8)).take 8)
def bG (l:List UInt8) (at_ n:Nat):List UInt64:=(List.range n).map (nN l at_)
theorem wX (l:List UInt8) (at_ n:Nat):(bG l at_ n).length=n:=by simp [bG]
theorem aHc (l:List UInt8) (at_ i:Nat) (h:at_+i * 8+8≤l.length):nmb (nN l at_ i)=(l.drop (at_+i * 8)).take 8:=uO _ (by simp;omega)
theorem aMe (n:Nat) (hn:n≤1000) (F:Nat→UInt64) (w:World):(Instr.makeSlice 37 (.int .i64 (n:Int)) (.int .i64 (n:Int))).run Tryz.prog w=.ok (.slice (some ⟨w.heap.size,0,none⟩) n n) (w.alloc (.cells (ncs (mB F n 0)).toArray 30)):=by
 obtain ⟨i,hi,hz,hs,hby⟩:=dC.get
 have h:=run_make (P:=Tryz.prog) w 37 30 i (.agg zcs.toArray) dC.ut hi hz .i64 .i64 n n (by omega) (by omega) (by rw [hby];omega) (by omega)
 rw [hs,show (n:Int).toNat * 8=n * 8 from by rw [Int.toNat_natCast],uV] at h
 simpa [mB] using h
theorem aBg (ns:List UInt64) (k:Nat) (n:UInt64) (hk:k < ns.length):splice (ncs ns) (k * 8) (bcs (nmb n))=ncs (ns.set k n):=by
 have hs:ns.set k n=ns.take k ++ n :: ns.drop (k+1):=by rw [List.set_eq_take_append_cons_drop,if_pos hk]
 unfold splice
 rw [aJ,aG,uP,show k * 8+8=(k+1) * 8 from by omega,pU,hs,eY,iP]
theorem xX (A:Option Addr) (len c:Nat) (l:List UInt8) (at_ n:Nat) (w:World) (h:SlB w A len c l) (hn:n≤1000) (hf:at_+n * 8≤len) (hat:at_≤1000) :
  Calls Tryz.prog 238 #[.slice A len c,.int .i64 (at_:Int),.int .i64 (n:Int)] w fun e w'=>∃ g,e=.returned (.slice (some ⟨g,0,none⟩) n n)∧SlN w' (some ⟨g,0,none⟩) n n (bG l at_ n)∧Ext w w':=by
 have hmk:=aMe n hn (nN l at_)
 have hle:=h.le
 have hcap:=h.cap
 have hlen:=h.len
 have HS:=zh h
 clear h
 go_enter Tryz.func238,Tryz.ntmps238
 go_wp2_with fail
 go_loopw [13] (fun i wr=>∃ (k:Nat),k≤n∧i=.int .i64 (k:Int)∧Blk wr w.heap.size 30 (ncs (mB (nN l at_) n k)).toArray∧Ext w wr) (fun i _=>n - (intOf i).toNat)
 case atStart=>exact ⟨0,by omega,rfl,Blk.new _ _ _,(Ext.refl w).alloc' _⟩
 case round =>
  obtain ⟨k,hk,rfl,hT,hE⟩:=hrel
  by_cases hlt:k < n
  ·have HT := zh hT
   have HE:=zh hE
   obtain ⟨b,o,rfl,hra,hbl⟩:=(HS.out.ext hE).at (by omega)
   have j0:(0:Int)≤(k:Int):=by omega
   have j1:(k:Int) < (n:Int):=by omega
   have e1:IntKind.i64.wrap ((k:Int) * 8)=(k:Int) * 8:=IntWalk.i64_in _ (by omega)
   have e2:IntKind.i64.wrap ((at_:Int)+(k:Int) * 8)=(at_:Int)+(k:Int) * 8:=IntWalk.i64_in _ (by omega)
   have e3:(0:Int)≤(at_:Int)+(k:Int) * 8:=by omega
   have e4:((at_:Int)+(k:Int) * 8).toNat=at_+k * 8:=by omega
   have e5:(at_:Int)+(k:Int) * 8≤(len:Int):=by omega
   have e6:¬ c=at_+k * 8:=by omega
   have hsrc:=zh (show wr.drew.rangeAt b (o+(at_+k * 8)) (bcs (nmb (nN l at_ k))) from by
    rw [aHc l at_ k (by omega)]
    have:=aU (bR hra (k:=at_+k * 8)) (k:=8)
    simpa [bcs,List.map_take,List.map_drop] using this)
   have HPS:=zh (show ∀ j v,(bcs (nmb (nN l at_ k)))[j]?=some v→wr.drew.cell? ((⟨b,o+(at_+k * 8),none⟩:Addr).add j)=some v from fun j v hv=>by rw [Addr.add_mid];exact hsrc.out j v hv)
   clear hT hE hra
   go_wp2_with fail
   have HN:=zh (show (bcs (nmb (nN l at_ k))).length=Nat.min (len - (at_+k * 8)) 8 from by rw [aJ,aG];exact (Nat.min_eq_right (by omega)).symm)
   have HFT:=zh (show k * 8+(bcs (nmb (nN l at_ k))).length≤(ncs (mB (nN l at_) n k)).length from by rw [aJ,aG,cZ,jW _ _ _ hk];omega)
   have HSP:=zh (show splice (ncs (mB (nN l at_) n k)) (k * 8) (bcs (nmb (nN l at_ k)))=ncs (mB (nN l at_) n (k+1)) from by rw [aBg _ _ _ (by rw [jW _ _ _ hk];exact hlt),aBc _ _ _ hlt])
   go_region_law ((refine step_copy_splice rfl (.tmp 19) (.tmp 25) 45 45 rfl 5 Tryz.underlying45 (by kernel_rfl) (some ⟨w.heap.size,k * 8,none⟩) (some ⟨b,o+(at_+k * 8),none⟩) 8 8 (len - (at_+k * 8)) (c - (at_+k * 8)) ?q1 ?q2 w.heap.size (k * 8) (ncs (mB (nN l at_) n k)) 30 HT.out (bcs (nmb (nN l at_ k))) HN.out (fun _=>⟨rfl,_,rfl,HPS.out⟩) HFT.out (dW _) w.heap.size w HE.out.drew' (Nat.le_refl _) ?q9;(case q1=>go_simp);(case q2=>go_simp);intro w1 hg1 hE1))
   go_wp2_with fail
   go_roundw
   case rel=>exact ⟨k+1,by omega,by go_num,by rw [← HSP.out];exact hg1.out,hE1⟩
   case measure=>simp [intOf];omega
  obtain rfl:k=n:=by omega
  rw [xN] at hT
  have hsl:SlN wr (some ⟨w.heap.size,0,none⟩) k k (bG l at_ k):=SlN.of_blk hT (wX l at_ k) (by omega)
  go_wp2_with fail
  go_ret
  exact ⟨_,rfl,hsl,hE⟩
theorem aEm (A:Option Addr) (len c:Nat) (l:List UInt8) (at_:Nat) (w:World) (h:SlB w A len c l) (hf:at_+144≤len) (hat:at_≤1000) :
  Calls Tryz.prog 238 #[.slice A len c,.int .i64 (at_:Int),.int .i64 18] w fun e w'=>∃ g,e=.returned (.slice (some ⟨g,0,none⟩) 18 18)∧SlN w' (some ⟨g,0,none⟩) 18 18 (bG l at_ 18)∧Ext w w' :=
 xX A len c l at_ 18 w h (by omega) (by omega) hat
theorem aHe (A:Option Addr) (len c:Nat) (l:List UInt8) (at_:Nat) (z:Int) (hz:z=(at_:Int)) (w:World) (h:SlB w A len c l) (hf:at_+40≤len) (hat:at_≤1000) :
  Calls Tryz.prog 238 #[.slice A len c,.int .i64 z,.int .i64 5] w fun e w'=>∃ g,e=.returned (.slice (some ⟨g,0,none⟩) 5 5)∧SlN w' (some ⟨g,0,none⟩) 5 5 (bG l at_ 5)∧Ext w w':=by
 subst hz;exact xX A len c l at_ 5 w h (by omega) (by omega) hat
theorem stN {w0 w2:World} {g:Nat} (hX:Ext w0 w2) (hq:Blk w2 g 30 zcs.toArray) (hg:w0.heap.size≤g) (r:UInt64):Ext w0 (w2.setCells g 0 (nmc r).toList):=Below.setCells' hX hg _ _
theorem aEh {w0 cur:World} {g:Nat} {r:UInt64} (hX:Ext w0 cur) (hb:Blk cur g 30 (nmc r)):∃ W1 g1,W1=cur∧g1=g∧Ext w0 W1∧Blk W1 g1 30 (nmc r):=⟨_,_,rfl,rfl,hX,hb⟩
theorem aBY (leaf:UInt64) (j:Nat) (A:Option Addr) (c:Nat) (ns:List UInt64) (w:World) (hd:fJ j 32=5) (hj:j < 32) (h:SlN w A 5 c ns) :
  Calls Tryz.prog 239 #[.agg (nmc leaf),.int .i64 (j:Int),.int .i64 32,.slice A 5 c] w fun e w'=>e=.returned (.tuple #[.agg (nmc (dJ leaf j 32 ns)),.bool true])∧Ext w w' :=
 aDz leaf 32 j 5 A c ns w (by omega) hj hd.symm h
def fB (l:List UInt8) (at_ j:Nat) (m:UInt64):UInt64:=dJ (cS m (bG l at_ 18)) j 32 (bG l (at_+144) 5)
theorem mV (n d:Nat) (hn:1≤n) (hs:spl (2 * n)=n) (ih:∀ j,j < n→fJ j n=d):∀ j,j < 2 * n→fJ j (2 * n)=d+1:=by
 intro j hj
 by_cases hlt:j < n
 ·rw [jQ _ _ (by omega) (by rw [hs];exact hlt),hs,ih j hlt]
 rw [iE _ _ (by omega) (by rw [hs];exact hlt),hs,show 2 * n - n=n from by omega,ih (j - n) (by omega)]
theorem yK (j:Nat) (h:j < 32):fJ j 32=5 :=
 mV 16 4 (by omega) (by decide) (mV 8 3 (by omega) (by decide) (mV 4 2 (by omega) (by decide) (mV 2 1 (by omega) (by decide) (mV 1 0 (by omega) (by decide) (fun j _=>jP _ _ (by decide)))))) j h
theorem aCq (A:Option Addr) (len c:Nat) (l:List UInt8) (at_ j:Nat) (m:UInt64) (w:World) (h:SlB w A len c l) (hf:at_+184≤len) (hat:at_≤500) (hj:j < 32) :
  Calls Tryz.prog 202 #[.slice A len c,.int .i64 (at_:Int),.int .i64 (j:Int),.agg (nmc m)] w fun e w'=>e=.returned (.agg (nmc (fB l at_ j m)))∧Ext w w':=by
 have hle:=h.le
 have hcap:=h.cap
 have hE0:Ext w ((w.alloc (.cells (nmc m) 30)).alloc (.cells zcs.toArray 30)).drew:=(((Ext.refl w).alloc' _).alloc' _).drew'
 have hbm:Blk ((w.alloc (.cells (nmc m) 30)).alloc (.cells zcs.toArray 30)).drew w.heap.size 30 (nmc m):=((Blk.new w _ _).alloc _).drew
 have hbz:Blk ((w.alloc (.cells (nmc m) 30)).alloc (.cells zcs.toArray 30)).drew (w.heap.size+1) 30 zcs.toArray:=(Blk.newAt _ _ _ _ (by simp)).drew
 have HW0:=zh (show w.heap.size+2≤((w.alloc (.cells (nmc m) 30)).alloc (.cells zcs.toArray 30)).heap.size from by simp)
 have HSL:=zh h
 have hu:=Tryz.underlying30
 have hi:=sU m
 clear h
 go_enter Tryz.func202,Tryz.ntmps202
 go_wp2_with fail
 generalize (w.alloc (.cells (nmc m) 30)).alloc (.cells zcs.toArray 30)=W0 at *
 have HE0:=zh hE0
 have HBM:=zh hbm
 have HBZ:=zh hbz
 have HSS:=zh (fun (w':World) (hx:Ext W0.drew w')=>fK (hbm.ext hx))
 clear hE0 hbm hbz
 have hX:=Ext.refl W0.drew
 have HAD:=zh (fun (o:Obj)=>(show Ext W0.drew (W0.alloc o).drew from ((Ext.refl W0.drew).alloc' o:Ext W0.drew (W0.drew.alloc o))))
 have HD5:=zh (yK j hj)
 have HAT:=zh (show (at_:Int)+144=((at_+144:Nat):Int) by omega)
 have H40:=zh (show at_+144+40≤len by omega)
 have H1000b:=zh (show at_+144≤1000 by omega)
 have H18:=zh (show at_+144≤len by omega)
 have H1000:=zh (show at_≤1000 by omega)
 have HSZ:=zh (show w.heap.size+2≤W0.heap.size from HW0.out)
 go_region_held3 (fun w'=>(∀ i,i < 8→w'.cell? ⟨w.heap.size,i,none⟩=some (.int .u8 (nb8 m i)))) (first | (with_reducible exact HSS.out _ hX) | (with_reducible exact HSS.out _ (HAD.out _)) | (with_reducible exact HSS.out _ (hX.alloc' _)) | (with_reducible exact HSS.out _ HW9.out)) (first | (go_at_call 238;first | ((with_reducible refine (aEm A len c l at_ _ (HSL.out.ext (HE0.out.trans hX)) H18.out H1000.out).mono ?_);rintro e w1 ⟨g1,rfl,hsl1,he1⟩;have hX:=hX.trans he1) | ((with_reducible refine (aEm A len c l at_ _ (HSL.out.ext (HE0.out.trans (HAD.out _))) H18.out H1000.out).mono ?_);rintro e w1 ⟨g1,rfl,hsl1,he1⟩;have hq:=(Blk.new W0 30 zcs.toArray).drew.ext he1;have hX:=(HAD.out _).trans he1)) | (go_at_call 237;first | ((with_reducible refine (rT m _ _ _ _ hsl1).mono ?_);rintro e w2 ⟨rfl,he2⟩;have hX:=hX.trans he2;first | (have hq2:=hq.ext he2;have hst:=cA hq2 (cS m (bG l at_ 18));have HW9:=zh (stN hX hq2 (Nat.le_refl _) (cS m (bG l at_ 18)))) | (have hst:=iH w2 w2.heap.size rfl (cS m (bG l at_ 18));have HW9:=zh (hX.alloc' (.cells (nmc (cS m (bG l at_ 18))) 30)))) | ((with_reducible refine (rT m _ _ _ _ (hsl1.ext ((Ext.refl _).alloc' _))).mono ?_);rintro e w2 ⟨rfl,he2⟩;have hq2:=(Blk.new w1 30 zcs.toArray).ext he2;have HG2:=zh hX.size;have hX:=(hX.alloc' _).trans he2;have hst:=cA hq2 (cS m (bG l at_ 18));have HW9:=zh (stN hX hq2 HG2.out (cS m (bG l at_ 18))))))
 all_goals
  obtain ⟨W1,g9,hW,hg,hX1,hb1⟩:∃ W1 g1,W1=_∧g1=_∧Ext W0.drew W1∧Blk W1 g1 30 (nmc (cS m (bG l at_ 18))):=by first | exact aEh HW9.out (blkN hq2 (cS m (bG l at_ 18))) | exact aEh HW9.out (Blk.new w2 30 (nmc (cS m (bG l at_ 18))))
  rw [← hW,← hg]
  clear hX HW9 hst
  (try clear hq2)
  (try clear hq)
  clear he2 hsl1 he1
  have HX1:=zh hX1
  have HB1:=zh hb1
  clear hX1 hb1 hW hg
  go_wp2_with fail
  have HSS1:=zh (fun (w':World) (hx:Ext W1.drew w')=>fK (HB1.out.drew.ext hx))
  have hX:=Ext.refl W1.drew
  have HE1:=zh (show Ext w W1.drew from (HE0.out.trans HX1.out).drew')
  have HAD1:=zh (fun (o:Obj)=>(show Ext W1.drew (W1.alloc o).drew from ((Ext.refl W1.drew).alloc' o:Ext W1.drew (W1.drew.alloc o))))
  have a1:IntKind.i64.wrap ((at_:Int)+144)=(at_:Int)+144:=IntWalk.i64_in _ (by omega)
  go_region_held3 (fun w'=>(∀ i,i < 8→w'.cell? ⟨g9,i,none⟩=some (.int .u8 (nb8 (cS m (bG l at_ 18)) i)))) (first | (with_reducible exact HSS1.out _ hX) | (with_reducible exact HSS1.out _ (HAD1.out _)) | (with_reducible exact HSS1.out _ (hX.alloc' _)) | (with_reducible exact HSS1.out _ HW9.out)) (first | (go_at_call 238;first | ((with_reducible refine (aHe A len c l (at_+144) _ HAT.out _ (HSL.out.ext (HE1.out.trans hX)) H40.out H1000b.out).mono ?_);rintro e w1 ⟨g1,rfl,hsl1,he1⟩;have hX:=hX.trans he1) | ((with_reducible refine (aHe A len c l (at_+144) _ HAT.out _ (HSL.out.ext (HE1.out.trans (HAD1.out _))) H40.out H1000b.out).mono ?_);rintro e w1 ⟨g1,rfl,hsl1,he1⟩;have hq:=(Blk.new W1 30 zcs.toArray).drew.ext he1;have hX:=(HAD1.out _).trans he1)) | (go_at_call 239;first | ((with_reducible refine (aBY (cS m (bG l at_ 18)) j _ _ _ _ HD5.out hj hsl1).mono ?_);rintro e w2 ⟨rfl,he2⟩;have hX:=hX.trans he2;first | (have hq2:=hq.ext he2;have hst:=cA hq2 (dJ (cS m (bG l at_ 18)) j 32 (bG l (at_+144) 5));have HW9:=zh (stN hX hq2 (Nat.le_refl _) (dJ (cS m (bG l at_ 18)) j 32 (bG l (at_+144) 5)))) | (have hst:=iH w2 w2.heap.size rfl (dJ (cS m (bG l at_ 18)) j 32 (bG l (at_+144) 5));have HW9:=zh (hX.alloc' (.cells (nmc (dJ (cS m (bG l at_ 18)) j 32 (bG l (at_+144) 5))) 30)))) | ((with_reducible refine (aBY (cS m (bG l at_ 18)) j _ _ _ _ HD5.out hj (hsl1.ext ((Ext.refl _).alloc' _))).mono ?_);rintro e w2 ⟨rfl,he2⟩;have hq2:=(Blk.new w1 30 zcs.toArray).ext he2;have HG2:=zh hX.size;have hX:=(hX.alloc' _).trans he2;have hst:=cA hq2 (dJ (cS m (bG l at_ 18)) j 32 (bG l (at_+144) 5));have HW9:=zh (stN hX hq2 HG2.out (dJ (cS m (bG l at_ 18)) j 32 (bG l (at_+144) 5))))))
 all_goals
  obtain ⟨W2,g8,hW,hg,hX2,hb2⟩:∃ W2 g1,W2=_∧g1=_∧Ext W1.drew W2∧Blk W2 g1 30 (nmc (dJ (cS m (bG l at_ 18)) j 32 (bG l (at_+144) 5))):=by first | exact aEh HW9.out (blkN hq2 (dJ (cS m (bG l at_ 18)) j 32 (bG l (at_+144) 5))) | exact aEh HW9.out (Blk.new w2 30 (nmc (dJ (cS m (bG l at_ 18)) j 32 (bG l (at_+144) 5))))
  rw [← hW,← hg]
  clear hX HW9 hst
  (try clear hq2)
  (try clear hq)
  clear he2 hsl1 he1
  have hz2:=(HBZ.out.ext HX1.out).drew.ext hX2
  have HE2:=zh (HE1.out.trans hX2)
  have hr8:=dP hb2
  clear hW hg
  go_wp2_with (first | (with_reducible refine bE rfl (.tmp 11) rfl g8 0 rfl (dJ (cS m (bG l at_ 18)) j 32 (bG l (at_+144) 5)) hr8 ?_) | (with_reducible refine aW rfl _ _ rfl (w.heap.size+1) 0 _ rfl rfl (dZ hz2) ?_))
  refine bodyPost_ret (v:=.agg (nmc (dJ (cS m (bG l at_ 18)) j 32 (bG l (at_+144) 5)))) (eL rfl _ _ (w.heap.size+1) _ rfl (blkN hz2 _)) rfl ⟨rfl,Below.setCells' HE2.out (by omega) _ _⟩
end
end Go.Proofs.YtohmmcahpakokaaGreat
