/- The sort of the library at cells, by name and number (the kit's proved sort is laid here). -/
import Derived.Shelf.SlLaysF0
import Derived.Test.YtohmmcahpakokaaGreatProg
import Derived.ProofKit
import Derived.OpenShut
import Derived.Deep.Slices
import Derived.Test.YtohmmcahpakokaaGreatG06
import Derived.Test.YtohmmcahpakokaaGreatG07
set_option maxRecDepth 100000
set_option maxHeartbeats 8000000
set_option linter.unusedVariables false
set_option linter.unusedSimpArgs false
namespace Go.Proofs.YtohmmcahpakokaaGreat
section
open Go.Shelf
def uD:Go.Shelf.Ren:=⟨fun | 6=>64 | 15=>125 | 14=>124 | 28=>190 | 29=>191 | 20=>182 | 21=>183 | 22=>184 | 23=>185 | 24=>186 | 25=>187 | 26=>188 | 27=>189 | 46=>231 | 47=>232 | 48=>233 | 49=>234 | 50=>235 | 57=>253 | n=>n,fun | 22=>96 | 24=>32 | 25=>98 | 3=>3 | 39=>145 | 0=>0 | 53=>202 | 55=>148 | 4=>4 | 46=>196 | 45=>195 | 50=>165 | 5=>5 | 9=>9 | 66=>230 | 70=>234 | 76=>243 | 77=>244 | n=>n,fun | n=>n⟩
theorem aHe:Go.Proofs.SlLaysF0.n6 Tryz.prog uD:={
 mixed:=by kernel_rfl
 f6:=⟨Tryz.f64.name,by decide,Tryz.func64.trans (congrArg some (by kernel_rfl))⟩
 f14:=⟨Tryz.f124.name,by decide,Tryz.func124.trans (congrArg some (by kernel_rfl))⟩
 f15:=Tryz.func125.trans (congrArg some (by kernel_rfl))
 f20:=⟨Tryz.f182.name,by decide,Tryz.func182.trans (congrArg some (by kernel_rfl))⟩
 f21:=⟨Tryz.f183.name,by decide,Tryz.func183.trans (congrArg some (by kernel_rfl))⟩
 f22:=⟨Tryz.f184.name,by decide,Tryz.func184.trans (congrArg some (by kernel_rfl))⟩
 f23:=⟨Tryz.f185.name,by decide,Tryz.func185.trans (congrArg some (by kernel_rfl))⟩
 f24:=⟨Tryz.f186.name,by decide,Tryz.func186.trans (congrArg some (by kernel_rfl))⟩
 f25:=⟨Tryz.f187.name,by decide,Tryz.func187.trans (congrArg some (by kernel_rfl))⟩
 f26:=⟨Tryz.f188.name,by decide,Tryz.func188.trans (congrArg some (by kernel_rfl))⟩
 f27:=⟨Tryz.f189.name,by decide,Tryz.func189.trans (congrArg some (by kernel_rfl))⟩
 f28:=Tryz.func190.trans (congrArg some (by kernel_rfl))
 f29:=Tryz.func191.trans (congrArg some (by kernel_rfl))
 f46:=⟨Tryz.f231.name,by decide,Tryz.func231.trans (congrArg some (by kernel_rfl))⟩
 f47:=Tryz.func232.trans (congrArg some (by kernel_rfl))
 f48:=Tryz.func233.trans (congrArg some (by kernel_rfl))
 f49:=⟨Tryz.f234.name,by decide,Tryz.func234.trans (congrArg some (by kernel_rfl))⟩
 f50:=⟨Tryz.f235.name,by decide,Tryz.func235.trans (congrArg some (by kernel_rfl))⟩
 f57:=⟨Tryz.f253.name,by decide,Tryz.func253.trans (congrArg some (by kernel_rfl))⟩
 t0:=Tryz.underlying0
 a0:=Tryz.isAgg0
 z0:=Tryz.sizeOf0
 v0:=Tryz.zeroValue0
 t3:=Tryz.underlying3
 a3:=Tryz.isAgg3
 z3:=Tryz.sizeOf3
 v3:=Tryz.zeroValue3
 t4:=Tryz.underlying4
 a4:=Tryz.isAgg4
 z4:=Tryz.sizeOf4
 v4:=Tryz.zeroValue4
 t5:=Tryz.underlying5
 a5:=Tryz.isAgg5
 z5:=Tryz.sizeOf5
 v5:=Tryz.zeroValue5
 t9:=Tryz.underlying9
 a9:=Tryz.isAgg9
 z9:=Tryz.sizeOf9
 v9:=Tryz.zeroValue9
 t22:=Tryz.underlying96
 a22:=Tryz.isAgg96
 z22:=Tryz.sizeOf96
 v22:=Tryz.zeroValue96
 t25:=Tryz.underlying98
 a25:=Tryz.isAgg98
 z25:=Tryz.sizeOf98
 v25:=Tryz.zeroValue98
 t39:=Tryz.underlying145
 a39:=Tryz.isAgg145
 z39:=Tryz.sizeOf145
 v39:=Tryz.zeroValue145
 t45:=Tryz.underlying195
 a45:=Tryz.isAgg195
 z45:=Tryz.sizeOf195
 v45:=Tryz.zeroValue195
 t46:=Tryz.underlying196
 a46:=Tryz.isAgg196
 z46:=Tryz.sizeOf196
 v46:=Tryz.zeroValue196
 t50:=Tryz.underlying165
 a50:=Tryz.isAgg165
 z50:=Tryz.sizeOf165
 v50:=Tryz.zeroValue165
 t53:=Tryz.underlying202
 a53:=Tryz.isAgg202
 z53:=Tryz.sizeOf202
 v53:=Tryz.zeroValue202
 t55:=Tryz.underlying148
 a55:=Tryz.isAgg148
 z55:=Tryz.sizeOf148
 v55:=Tryz.zeroValue148
 t66:=Tryz.underlying230
 a66:=Tryz.isAgg230
 z66:=Tryz.sizeOf230
 v66:=Tryz.zeroValue230
 t70:=Tryz.underlying234
 a70:=Tryz.isAgg234
 z70:=Tryz.sizeOf234
 v70:=Tryz.zeroValue234
 t76:=Tryz.underlying243
 a76:=Tryz.isAgg243
 z76:=Tryz.sizeOf243
 v76:=Tryz.zeroValue243
 t77:=Tryz.underlying244
 a77:=Tryz.isAgg244
 z77:=Tryz.sizeOf244
 v77:=Tryz.zeroValue244 }
end
section
open Go.RowKit
def rQ (n:Int):Int:=if n=2 then 1024 else if n=1 then 32 else 0
def jZ (n:Int):Int:=if n=2 then 370 else if n=1 then 186 else 0
theorem jE (n:Int) (w:World) :
  Calls Tryz.prog 201 #[.int .i64 n] w fun e w'=>e=.returned (.int .i64 (rQ n))∧w=w':=by
 by_cases h2:n=2
 ·subst h2
  go_enter Tryz.func201,Tryz.ntmps201
  go_wp2
  go_ret
  exact ⟨rfl,rfl⟩
 by_cases h1:n=1
 ·subst h1
  go_enter Tryz.func201,Tryz.ntmps201
  go_wp2
  go_ret
  exact ⟨rfl,rfl⟩
 have e:rQ n=0:=by simp [rQ,h1,h2]
 have b2:(n == 2)=false:=by simp [h2]
 have b1:(n == 1)=false:=by simp [h1]
 rw [e];clear e h1 h2
 go_enter Tryz.func201,Tryz.ntmps201
 go_wp2
 go_ret
 exact ⟨rfl,rfl⟩
theorem pN (n:Int) (w:World) :
  Calls Tryz.prog 200 #[.int .i64 n] w fun e w'=>e=.returned (.int .i64 (jZ n))∧w=w':=by
 by_cases h2:n=2
 ·subst h2
  go_enter Tryz.func200,Tryz.ntmps200
  go_wp2
  go_ret
  exact ⟨rfl,rfl⟩
 by_cases h1:n=1
 ·subst h1
  go_enter Tryz.func200,Tryz.ntmps200
  go_wp2
  go_ret
  exact ⟨rfl,rfl⟩
 have e:jZ n=0:=by simp [jZ,h1,h2]
 have b2:(n == 2)=false:=by simp [h2]
 have b1:(n == 1)=false:=by simp [h1]
 rw [e];clear e h1 h2
 go_enter Tryz.func200,Tryz.ntmps200
 go_wp2
 go_ret
 exact ⟨rfl,rfl⟩
end
section
open Go.RowKit
attribute [local go_sem ↓] Go.wp_at_zero Go.wp_at_succ
theorem bC (i:Nat) (hi:i < 8):nb8 0 i=0:=by
 match i,hi with
 | 0,_ | 1,_ | 2,_ | 3,_ | 4,_ | 5,_ | 6,_ | 7,_=>rfl
structure OpV where
 k:Int
 tO:Int
 am:Int
 ul:Int
 va:Int
 lk:UInt64
 hs:UInt64
 pre:List UInt8
 prf:List UInt8
def OpR.v (R:OpR):OpV:=⟨R.k,R.tO,R.am,R.ul,R.va,R.lk,R.hs,R.pre,R.prf⟩
abbrev jW:Array Value:=#[.int .i64 0,.int .i64 0,.int .i64 0,.int .i64 0,.int .i64 0,.int .u8 0,.int .u8 0,.int .u8 0,.int .u8 0,.int .u8 0,.int .u8 0,.int .u8 0,.int .u8 0,.int .u8 0,.int .u8 0,.int .u8 0,.int .u8 0,.int .u8 0,.int .u8 0,.int .u8 0,.int .u8 0,.slice none 0 0,.slice none 0 0]
theorem gM {fn:Func} {p:Tmp} {ty:TypeId} (hres:fn.results=#[.cell p ty]) (tmps:Array Value) (w1:World) (g:Nat) (cs:Array Value) (hp:tmps.getD p undef=.pointer (some ⟨g,0,none⟩)) (hl:(loadVar ty ⟨g,0,none⟩).run Tryz.prog w1=.ok (.agg cs) w1) :
  (results fn tmps).run Tryz.prog w1=.ok (.agg cs) w1:=by
 have hp':tmps[p]?.getD undef=.pointer (some ⟨g,0,none⟩):=by simpa using hp
 simp [results,hres,hp',asAddr,hl]
def tZ (ac sq:Int) (n:Nat):Bool:=decide (0≤ac∧ac≤15∧0≤sq∧sq≤31∧1≤n∧n≤4)
def vTx (ac sq:Int) (L:List OpR):Bool:=tZ ac sq L.length && decide (∀ k,k < L.length→vOp (bI L k)=true)
theorem aBA {ac sq:Int} {L:List OpR} (h:tZ ac sq L.length=false):vTx ac sq L=false:=by unfold vTx;rw [h,Bool.false_and]
theorem aGU {ac sq:Int} {L:List OpR} {k:Nat} (hk:k < L.length) (h:vOp (bI L k)=false):vTx ac sq L=false:=by
 unfold vTx;rw [decide_eq_false (p:=∀ k,k < L.length→vOp (bI L k)=true) (fun hh=>by rw [hh k hk] at h;cases h),Bool.and_false]
theorem aEF {ac sq:Int} {L:List OpR} (h:tZ ac sq L.length=true) (h2:∀ k,k < L.length→vOp (bI L k)=true):vTx ac sq L=true:=by
 unfold vTx;rw [h,decide_eq_true h2];rfl
theorem eW {ac sq:Int} {L:List OpR} (h:vTx ac sq L=true):(0≤ac∧ac≤15∧0≤sq∧sq≤31∧1≤L.length∧L.length≤4)∧∀ k,k < L.length→vOp (bI L k)=true:=by
 unfold vTx tZ at h;simp only [Bool.and_eq_true,decide_eq_true_eq] at h;exact h
def aCS (b:Bool):Int:=if b then 0 else 1
theorem aBy (ac sq:Int) (A:Option Addr) (n c:Nat) (L:List OpR) (w:World) (hS:SlO w A n c L) (hh:0≤ac∧ac≤15∧0≤sq∧sq≤31∧1≤n∧n≤4) :
  Calls Tryz.prog 44 #[.agg (txA ac sq A n c)] w fun e w'=>e=.returned (.int .i64 (aCS (vTx ac sq L)))∧Ext w w':=by
 have hle:=hS.le
 have hcap:=hS.cap
 have HLEN:=zh hS.len
 have HE:=zh ((Ext.refl w).alloc' (.cells (txA ac sq A n c) 24))
 have HS:=zh hS
 clear hS
 have HH:=zh (show tZ ac sq L.length=true by rw [HLEN.out];exact decide_eq_true hh)
 have d1:decide (ac < 0)=false:=decide_eq_false (by omega)
 have d2:decide (16≤ac)=false:=decide_eq_false (by omega)
 have d3:decide (sq < 0)=false:=decide_eq_false (by omega)
 have d4:decide (32≤sq)=false:=decide_eq_false (by omega)
 have d5:decide ((n:Int) < 1)=false:=decide_eq_false (by omega)
 have d6:decide (4 < (n:Int))=false:=decide_eq_false (by omega)
 have hn4:n≤4:=by omega
 obtain ⟨b,o,rfl,hr,hb⟩:=HS.out.at (by omega)
 have HR:=zh hr
 have HBL:=zh hb
 clear hr hb hh
 go_enter Tryz.func44,Tryz.ntmps44
 go_wp2_with fail
 go_loopw [38] (fun i wr=>∃ k:Nat,k≤n∧i=.int .i64 (k:Int)∧Hid (∀ j,j < k→vOp (bI L j)=true)∧Ext w wr) (fun i _=>n - (intOf i).toNat)
 case atStart=>exact ⟨0,Nat.zero_le _,rfl,zh (fun j hj=>by omega),HE.out⟩
 case round =>
  obtain ⟨k,hk,rfl,HP,hX⟩:=hrel
  have HX:=zh hX
  clear hX
  by_cases hlt:k < n
  ·have hr := vB (bE HR.out (HX.out.block b HBL.out)) (k := k) (by rw [HLEN.out]; exact hlt)
   have HQ:=zh (fun (hx:vOp (bI L k)=true)=>show ∀ j,j < k+1→vOp (bI L j)=true from fun j hj=>by
    rcases Nat.lt_or_ge j k with h | h
    ·exact HP.out j h
    obtain rfl:j=k:=by omega
    exact hx)
   have HN:=zh (fun (hx:vOp (bI L k)=false)=>show aCS (vTx ac sq L)=1 by rw [aGU (by rw [HLEN.out];exact hlt) hx];rfl)
   have HOK:=zh ((HS.out.nth hlt).ext HX.out)
   have i0:(0:Int)≤(k:Int):=by omega
   have i1:(k:Int) < (n:Int):=by omega
   obtain ⟨R,hR⟩:∃ R,bI L k=R:=⟨_,rfl⟩
   rw [hR] at hr HQ HN HOK
   clear hR
   have hnew:=aHQ wr R
   go_wp2_with (first | (with_reducible refine fG rfl (.tmp 40) rfl b (o+k * 23) rfl R hr ?_) | (with_reducible refine rU rfl (.tmp 4) (.tmp 41) rfl _ rfl R rfl rfl ?_) | (with_reducible refine fG rfl (.tmp 4) rfl wr.heap.size 0 rfl R hnew ?_))
   have HA:=zh ((Ext.refl wr).alloc' (.cells (opA R) 69))
   refine (aBz R _ (HOK.out.ext HA.out)).mono ?_
   rintro e w1 ⟨rfl,he1⟩
   have HX1:=zh (HX.out.trans (HA.out.trans he1))
   clear he1 hr
   cases hv:vOp R with
   | true =>
    have HQ':=zh (HQ.out hv)
    clear hv
    go_wp2_with fail
    go_roundw
    case rel=>exact ⟨k+1,by omega,by go_num,HQ',HX1.out⟩
    case measure=>simp [intOf];omega
   | false =>
    have HN':=zh (HN.out hv)
    clear hv
    go_wp2_with fail
    go_ret
    exact ⟨by rw [HN'.out];rfl,HX1.out⟩
  obtain rfl:k=n:=by omega
  have HV:=zh (show vTx ac sq L=true from aEF HH.out (fun j hj=>HP.out j (by rw [HLEN.out] at hj;exact hj)))
  go_wp2_with fail
  go_ret
  exact ⟨by rw [HV.out];rfl,HX.out⟩
theorem zO (ac sq:Int) (A:Option Addr) (n c:Nat) (L:List OpR) (w:World) (hS:SlO w A n c L) (hh:¬ (0≤ac∧ac≤15∧0≤sq∧sq≤31∧1≤n∧n≤4)) :
  Calls Tryz.prog 44 #[.agg (txA ac sq A n c)] w fun e w'=>e=.returned (.int .i64 (aCS (vTx ac sq L)))∧Ext w w':=by
 have hle:=hS.le
 have hcap:=hS.cap
 have HLEN:=zh hS.len
 have HE:=zh ((Ext.refl w).alloc' (.cells (txA ac sq A n c) 24))
 have HS:=zh hS
 clear hS
 have HV:=zh (show aCS (vTx ac sq L)=1 by rw [aBA (by rw [HLEN.out];exact decide_eq_false hh)];rfl)
 have hc:ac < 0 ∨ (decide (ac < 0)=false∧16≤ac) ∨ (decide (ac < 0)=false∧decide (16≤ac)=false∧sq < 0) ∨ (decide (ac < 0)=false∧decide (16≤ac)=false∧decide (sq < 0)=false∧32≤sq) ∨ (decide (ac < 0)=false∧decide (16≤ac)=false∧decide (sq < 0)=false∧decide (32≤sq)=false∧(n:Int) < 1) ∨ (decide (ac < 0)=false∧decide (16≤ac)=false∧decide (sq < 0)=false∧decide (32≤sq)=false∧decide ((n:Int) < 1)=false∧4 < (n:Int)):=by
  simp only [decide_eq_false_iff_not];omega
 clear hh HLEN HS
 rcases hc with d1 | ⟨d1,d2⟩ | ⟨d1,d2,d3⟩ | ⟨d1,d2,d3,d4⟩ | ⟨d1,d2,d3,d4,d5⟩ | ⟨d1,d2,d3,d4,d5,d6⟩
 all_goals (
  go_enter Tryz.func44,Tryz.ntmps44
  go_wp2_with fail
  go_ret
  exact ⟨by rw [HV.out];rfl,HE.out⟩)
theorem eM (ac sq:Int) (A:Option Addr) (n c:Nat) (L:List OpR) (w:World) (hS:SlO w A n c L) :
  Calls Tryz.prog 44 #[.agg (txA ac sq A n c)] w fun e w'=>e=.returned (.int .i64 (aCS (vTx ac sq L)))∧Ext w w':=by
 by_cases hh:0≤ac∧ac≤15∧0≤sq∧sq≤31∧1≤n∧n≤4
 ·exact aBy ac sq A n c L w hS hh
 exact zO ac sq A n c L w hS hh
end
section
open Go.RowKit
def nN (l:List UInt8) (at_ i:Nat):UInt64:=rG ((l.drop (at_+i * 8)).take 8)
def bQ (l:List UInt8) (at_ n:Nat):List UInt64:=(List.range n).map (nN l at_)
theorem xQ (l:List UInt8) (at_ n:Nat):(bQ l at_ n).length=n:=by simp [bQ]
theorem aHP (l:List UInt8) (at_ i:Nat) (h:at_+i * 8+8≤l.length):nmb (nN l at_ i)=(l.drop (at_+i * 8)).take 8:=mT _ (by simp;omega)
theorem aNm (n:Nat) (hn:n≤1000) (F:Nat→UInt64) (w:World):(Instr.makeSlice 37 (.int .i64 (n:Int)) (.int .i64 (n:Int))).run Tryz.prog w=.ok (.slice (some ⟨w.heap.size,0,none⟩) n n) (w.alloc (.cells (ncs (mF F n 0)).toArray 30)):=by
 obtain ⟨i,hi,hz,hs,hby⟩:=dV.get
 have h:=run_make (P:=Tryz.prog) w 37 30 i (.agg zcs.toArray) dV.ut hi hz .i64 .i64 n n (by omega) (by omega) (by rw [hby];omega) (by omega)
 rw [hs,show (n:Int).toNat * 8=n * 8 from by rw [Int.toNat_natCast],vO] at h
 simpa [mF] using h
theorem aBL (ns:List UInt64) (k:Nat) (n:UInt64) (hk:k < ns.length):splice (ncs ns) (k * 8) (bcs (nmb n))=ncs (ns.set k n):=by
 have hs:ns.set k n=ns.take k ++ n :: ns.drop (k+1):=by rw [List.set_eq_take_append_cons_drop,if_pos hk]
 unfold splice
 rw [aJ,aG,vI,show k * 8+8=(k+1) * 8 from by omega,pZ,hs,eP,gR]
theorem yR (A:Option Addr) (len c:Nat) (l:List UInt8) (at_ n:Nat) (w:World) (h:SlB w A len c l) (hn:n≤1000) (hf:at_+n * 8≤len) (hat:at_≤1000) :
  Calls Tryz.prog 238 #[.slice A len c,.int .i64 (at_:Int),.int .i64 (n:Int)] w fun e w'=>∃ g,e=.returned (.slice (some ⟨g,0,none⟩) n n)∧SlN w' (some ⟨g,0,none⟩) n n (bQ l at_ n)∧Ext w w':=by
 have hmk:=aNm n hn (nN l at_)
 have hle:=h.le
 have hcap:=h.cap
 have hlen:=h.len
 have HS:=zh h
 clear h
 go_enter Tryz.func238,Tryz.ntmps238
 go_wp2_with fail
 go_loopw [13] (fun i wr=>∃ (k:Nat),k≤n∧i=.int .i64 (k:Int)∧Blk wr w.heap.size 30 (ncs (mF (nN l at_) n k)).toArray∧Ext w wr) (fun i _=>n - (intOf i).toNat)
 case atStart=>exact ⟨0,by omega,rfl,Blk.new _ _ _,(Ext.refl w).alloc' _⟩
 case round =>
  obtain ⟨k,hk,rfl,hT,hE⟩:=hrel
  by_cases hlt:k < n
  ·have HT := zh hT
   have HE:=zh hE
   obtain ⟨b,o,rfl,hra,hbl⟩:=(HS.out.ext hE).at (by omega)
   have j0:(0:Int)≤(k:Int):=by omega
   have j1:(k:Int) < (n:Int):=by omega
   have e1:IntKind.i64.wrap ((k:Int) * 8)=(k:Int) * 8:=IntWalk.i64_in _ (by omega)
   have e2:IntKind.i64.wrap ((at_:Int)+(k:Int) * 8)=(at_:Int)+(k:Int) * 8:=IntWalk.i64_in _ (by omega)
   have e3:(0:Int)≤(at_:Int)+(k:Int) * 8:=by omega
   have e4:((at_:Int)+(k:Int) * 8).toNat=at_+k * 8:=by omega
   have e5:(at_:Int)+(k:Int) * 8≤(len:Int):=by omega
   have e6:¬ c=at_+k * 8:=by omega
   have hsrc:=zh (show wr.drew.rangeAt b (o+(at_+k * 8)) (bcs (nmb (nN l at_ k))) from by
    rw [aHP l at_ k (by omega)]
    have:=aO (bD hra (k:=at_+k * 8)) (k:=8)
    simpa [bcs,List.map_take,List.map_drop] using this)
   have HPS:=zh (show ∀ j v,(bcs (nmb (nN l at_ k)))[j]?=some v→wr.drew.cell? ((⟨b,o+(at_+k * 8),none⟩:Addr).add j)=some v from fun j v hv=>by rw [Addr.add_mid];exact hsrc.out j v hv)
   clear hT hE hra
   go_wp2_with fail
   have HN:=zh (show (bcs (nmb (nN l at_ k))).length=Nat.min (len - (at_+k * 8)) 8 from by rw [aJ,aG];exact (Nat.min_eq_right (by omega)).symm)
   have HFT:=zh (show k * 8+(bcs (nmb (nN l at_ k))).length≤(ncs (mF (nN l at_) n k)).length from by rw [aJ,aG,cV,jY _ _ _ hk];omega)
   have HSP:=zh (show splice (ncs (mF (nN l at_) n k)) (k * 8) (bcs (nmb (nN l at_ k)))=ncs (mF (nN l at_) n (k+1)) from by rw [aBL _ _ _ (by rw [jY _ _ _ hk];exact hlt),aBH _ _ _ hlt])
   go_region_law ((refine step_copy_splice rfl (.tmp 19) (.tmp 25) 45 45 rfl 5 Tryz.underlying45 (by kernel_rfl) (some ⟨w.heap.size,k * 8,none⟩) (some ⟨b,o+(at_+k * 8),none⟩) 8 8 (len - (at_+k * 8)) (c - (at_+k * 8)) ?q1 ?q2 w.heap.size (k * 8) (ncs (mF (nN l at_) n k)) 30 HT.out (bcs (nmb (nN l at_ k))) HN.out (fun _=>⟨rfl,_,rfl,HPS.out⟩) HFT.out (dT _) w.heap.size w HE.out.drew' (Nat.le_refl _) ?q9;(case q1=>go_simp);(case q2=>go_simp);intro w1 hg1 hE1))
   go_wp2_with fail
   go_roundw
   case rel=>exact ⟨k+1,by omega,by go_num,by rw [← HSP.out];exact hg1.out,hE1⟩
   case measure=>simp [intOf];omega
  obtain rfl:k=n:=by omega
  rw [yI] at hT
  have hsl:SlN wr (some ⟨w.heap.size,0,none⟩) k k (bQ l at_ k):=SlN.of_blk hT (xQ l at_ k) (by omega)
  go_wp2_with fail
  go_ret
  exact ⟨_,rfl,hsl,hE⟩
theorem aEV (A:Option Addr) (len c:Nat) (l:List UInt8) (at_:Nat) (w:World) (h:SlB w A len c l) (hf:at_+144≤len) (hat:at_≤1000) :
  Calls Tryz.prog 238 #[.slice A len c,.int .i64 (at_:Int),.int .i64 18] w fun e w'=>∃ g,e=.returned (.slice (some ⟨g,0,none⟩) 18 18)∧SlN w' (some ⟨g,0,none⟩) 18 18 (bQ l at_ 18)∧Ext w w' :=
 yR A len c l at_ 18 w h (by omega) (by omega) hat
theorem aHR (A:Option Addr) (len c:Nat) (l:List UInt8) (at_:Nat) (z:Int) (hz:z=(at_:Int)) (w:World) (h:SlB w A len c l) (hf:at_+40≤len) (hat:at_≤1000) :
  Calls Tryz.prog 238 #[.slice A len c,.int .i64 z,.int .i64 5] w fun e w'=>∃ g,e=.returned (.slice (some ⟨g,0,none⟩) 5 5)∧SlN w' (some ⟨g,0,none⟩) 5 5 (bQ l at_ 5)∧Ext w w':=by
 subst hz;exact yR A len c l at_ 5 w h (by omega) (by omega) hat
theorem stN {w0 w2:World} {g:Nat} (hX:Ext w0 w2) (hq:Blk w2 g 30 zcs.toArray) (hg:w0.heap.size≤g) (r:UInt64):Ext w0 (w2.setCells g 0 (nmc r).toList):=Below.setCells' hX hg _ _
theorem aEQ {w0 cur:World} {g:Nat} {r:UInt64} (hX:Ext w0 cur) (hb:Blk cur g 30 (nmc r)):∃ W1 g1,W1=cur∧g1=g∧Ext w0 W1∧Blk W1 g1 30 (nmc r):=⟨_,_,rfl,rfl,hX,hb⟩
theorem aCG (leaf:UInt64) (j:Nat) (A:Option Addr) (c:Nat) (ns:List UInt64) (w:World) (hd:fP j 32=5) (hj:j < 32) (h:SlN w A 5 c ns) :
  Calls Tryz.prog 239 #[.agg (nmc leaf),.int .i64 (j:Int),.int .i64 32,.slice A 5 c] w fun e w'=>e=.returned (.tuple #[.agg (nmc (dR leaf j 32 ns)),.bool true])∧Ext w w' :=
 aEg leaf 32 j 5 A c ns w (by omega) hj hd.symm h
def fF (l:List UInt8) (at_ j:Nat) (m:UInt64):UInt64:=dR (cZ m (bQ l at_ 18)) j 32 (bQ l (at_+144) 5)
theorem mZ (n d:Nat) (hn:1≤n) (hs:spl (2 * n)=n) (ih:∀ j,j < n→fP j n=d):∀ j,j < 2 * n→fP j (2 * n)=d+1:=by
 intro j hj
 by_cases hlt:j < n
 ·rw [jU _ _ (by omega) (by rw [hs];exact hlt),hs,ih j hlt]
 rw [iG _ _ (by omega) (by rw [hs];exact hlt),hs,show 2 * n - n=n from by omega,ih (j - n) (by omega)]
theorem zC (j:Nat) (h:j < 32):fP j 32=5 :=
 mZ 16 4 (by omega) (by decide) (mZ 8 3 (by omega) (by decide) (mZ 4 2 (by omega) (by decide) (mZ 2 1 (by omega) (by decide) (mZ 1 0 (by omega) (by decide) (fun j _=>jT _ _ (by decide)))))) j h
theorem aCX (A:Option Addr) (len c:Nat) (l:List UInt8) (at_ j:Nat) (m:UInt64) (w:World) (h:SlB w A len c l) (hf:at_+184≤len) (hat:at_≤500) (hj:j < 32) :
  Calls Tryz.prog 202 #[.slice A len c,.int .i64 (at_:Int),.int .i64 (j:Int),.agg (nmc m)] w fun e w'=>e=.returned (.agg (nmc (fF l at_ j m)))∧Ext w w':=by
 have hle:=h.le
 have hcap:=h.cap
 have hE0:Ext w ((w.alloc (.cells (nmc m) 30)).alloc (.cells zcs.toArray 30)).drew:=(((Ext.refl w).alloc' _).alloc' _).drew'
 have hbm:Blk ((w.alloc (.cells (nmc m) 30)).alloc (.cells zcs.toArray 30)).drew w.heap.size 30 (nmc m):=((Blk.new w _ _).alloc _).drew
 have hbz:Blk ((w.alloc (.cells (nmc m) 30)).alloc (.cells zcs.toArray 30)).drew (w.heap.size+1) 30 zcs.toArray:=(Blk.newAt _ _ _ _ (by simp)).drew
 have HW0:=zh (show w.heap.size+2≤((w.alloc (.cells (nmc m) 30)).alloc (.cells zcs.toArray 30)).heap.size from by simp)
 have HSL:=zh h
 have hu:=Tryz.underlying30
 have hi:=tE m
 clear h
 go_enter Tryz.func202,Tryz.ntmps202
 go_wp2_with fail
 generalize (w.alloc (.cells (nmc m) 30)).alloc (.cells zcs.toArray 30)=W0 at *
 have HE0:=zh hE0
 have HBM:=zh hbm
 have HBZ:=zh hbz
 have HSS:=zh (fun (w':World) (hx:Ext W0.drew w')=>eY (hbm.ext hx))
 clear hE0 hbm hbz
 have hX:=Ext.refl W0.drew
 have HAD:=zh (fun (o:Obj)=>(show Ext W0.drew (W0.alloc o).drew from ((Ext.refl W0.drew).alloc' o:Ext W0.drew (W0.drew.alloc o))))
 have HD5:=zh (zC j hj)
 have HAT:=zh (show (at_:Int)+144=((at_+144:Nat):Int) by omega)
 have H40:=zh (show at_+144+40≤len by omega)
 have H1000b:=zh (show at_+144≤1000 by omega)
 have H18:=zh (show at_+144≤len by omega)
 have H1000:=zh (show at_≤1000 by omega)
 have HSZ:=zh (show w.heap.size+2≤W0.heap.size from HW0.out)
 go_region_held3 (fun w'=>(∀ i,i < 8→w'.cell? ⟨w.heap.size,i,none⟩=some (.int .u8 (nb8 m i)))) (first | (with_reducible exact HSS.out _ hX) | (with_reducible exact HSS.out _ (HAD.out _)) | (with_reducible exact HSS.out _ (hX.alloc' _)) | (with_reducible exact HSS.out _ HW9.out)) (first | (go_at_call 238;first | ((with_reducible refine (aEV A len c l at_ _ (HSL.out.ext (HE0.out.trans hX)) H18.out H1000.out).mono ?_);rintro e w1 ⟨g1,rfl,hsl1,he1⟩;have hX:=hX.trans he1) | ((with_reducible refine (aEV A len c l at_ _ (HSL.out.ext (HE0.out.trans (HAD.out _))) H18.out H1000.out).mono ?_);rintro e w1 ⟨g1,rfl,hsl1,he1⟩;have hq:=(Blk.new W0 30 zcs.toArray).drew.ext he1;have hX:=(HAD.out _).trans he1)) | (go_at_call 237;first | ((with_reducible refine (rZ m _ _ _ _ hsl1).mono ?_);rintro e w2 ⟨rfl,he2⟩;have hX:=hX.trans he2;first | (have hq2:=hq.ext he2;have hst:=cC hq2 (cZ m (bQ l at_ 18));have HW9:=zh (stN hX hq2 (Nat.le_refl _) (cZ m (bQ l at_ 18)))) | (have hst:=iI w2 w2.heap.size rfl (cZ m (bQ l at_ 18));have HW9:=zh (hX.alloc' (.cells (nmc (cZ m (bQ l at_ 18))) 30)))) | ((with_reducible refine (rZ m _ _ _ _ (hsl1.ext ((Ext.refl _).alloc' _))).mono ?_);rintro e w2 ⟨rfl,he2⟩;have hq2:=(Blk.new w1 30 zcs.toArray).ext he2;have HG2:=zh hX.size;have hX:=(hX.alloc' _).trans he2;have hst:=cC hq2 (cZ m (bQ l at_ 18));have HW9:=zh (stN hX hq2 HG2.out (cZ m (bQ l at_ 18))))))
 all_goals
  obtain ⟨W1,g9,hW,hg,hX1,hb1⟩:∃ W1 g1,W1=_∧g1=_∧Ext W0.drew W1∧Blk W1 g1 30 (nmc (cZ m (bQ l at_ 18))):=by first | exact aEQ HW9.out (blkN hq2 (cZ m (bQ l at_ 18))) | exact aEQ HW9.out (Blk.new w2 30 (nmc (cZ m (bQ l at_ 18))))
  rw [← hW,← hg]
  clear hX HW9 hst
  (try clear hq2)
  (try clear hq)
  clear he2 hsl1 he1
  have HX1:=zh hX1
  have HB1:=zh hb1
  clear hX1 hb1 hW hg
  go_wp2_with fail
  have HSS1:=zh (fun (w':World) (hx:Ext W1.drew w')=>eY (HB1.out.drew.ext hx))
  have hX:=Ext.refl W1.drew
  have HE1:=zh (show Ext w W1.drew from (HE0.out.trans HX1.out).drew')
  have HAD1:=zh (fun (o:Obj)=>(show Ext W1.drew (W1.alloc o).drew from ((Ext.refl W1.drew).alloc' o:Ext W1.drew (W1.drew.alloc o))))
  have a1:IntKind.i64.wrap ((at_:Int)+144)=(at_:Int)+144:=IntWalk.i64_in _ (by omega)
  go_region_held3 (fun w'=>(∀ i,i < 8→w'.cell? ⟨g9,i,none⟩=some (.int .u8 (nb8 (cZ m (bQ l at_ 18)) i)))) (first | (with_reducible exact HSS1.out _ hX) | (with_reducible exact HSS1.out _ (HAD1.out _)) | (with_reducible exact HSS1.out _ (hX.alloc' _)) | (with_reducible exact HSS1.out _ HW9.out)) (first | (go_at_call 238;first | ((with_reducible refine (aHR A len c l (at_+144) _ HAT.out _ (HSL.out.ext (HE1.out.trans hX)) H40.out H1000b.out).mono ?_);rintro e w1 ⟨g1,rfl,hsl1,he1⟩;have hX:=hX.trans he1) | ((with_reducible refine (aHR A len c l (at_+144) _ HAT.out _ (HSL.out.ext (HE1.out.trans (HAD1.out _))) H40.out H1000b.out).mono ?_);rintro e w1 ⟨g1,rfl,hsl1,he1⟩;have hq:=(Blk.new W1 30 zcs.toArray).drew.ext he1;have hX:=(HAD1.out _).trans he1)) | (go_at_call 239;first | ((with_reducible refine (aCG (cZ m (bQ l at_ 18)) j _ _ _ _ HD5.out hj hsl1).mono ?_);rintro e w2 ⟨rfl,he2⟩;have hX:=hX.trans he2;first | (have hq2:=hq.ext he2;have hst:=cC hq2 (dR (cZ m (bQ l at_ 18)) j 32 (bQ l (at_+144) 5));have HW9:=zh (stN hX hq2 (Nat.le_refl _) (dR (cZ m (bQ l at_ 18)) j 32 (bQ l (at_+144) 5)))) | (have hst:=iI w2 w2.heap.size rfl (dR (cZ m (bQ l at_ 18)) j 32 (bQ l (at_+144) 5));have HW9:=zh (hX.alloc' (.cells (nmc (dR (cZ m (bQ l at_ 18)) j 32 (bQ l (at_+144) 5))) 30)))) | ((with_reducible refine (aCG (cZ m (bQ l at_ 18)) j _ _ _ _ HD5.out hj (hsl1.ext ((Ext.refl _).alloc' _))).mono ?_);rintro e w2 ⟨rfl,he2⟩;have hq2:=(Blk.new w1 30 zcs.toArray).ext he2;have HG2:=zh hX.size;have hX:=(hX.alloc' _).trans he2;have hst:=cC hq2 (dR (cZ m (bQ l at_ 18)) j 32 (bQ l (at_+144) 5));have HW9:=zh (stN hX hq2 HG2.out (dR (cZ m (bQ l at_ 18)) j 32 (bQ l (at_+144) 5))))))
 all_goals
  obtain ⟨W2,g8,hW,hg,hX2,hb2⟩:∃ W2 g1,W2=_∧g1=_∧Ext W1.drew W2∧Blk W2 g1 30 (nmc (dR (cZ m (bQ l at_ 18)) j 32 (bQ l (at_+144) 5))):=by first | exact aEQ HW9.out (blkN hq2 (dR (cZ m (bQ l at_ 18)) j 32 (bQ l (at_+144) 5))) | exact aEQ HW9.out (Blk.new w2 30 (nmc (dR (cZ m (bQ l at_ 18)) j 32 (bQ l (at_+144) 5))))
  rw [← hW,← hg]
  clear hX HW9 hst
  (try clear hq2)
  (try clear hq)
  clear he2 hsl1 he1
  have hz2:=(HBZ.out.ext HX1.out).drew.ext hX2
  have HE2:=zh (HE1.out.trans hX2)
  have hr8:=eB hb2
  clear hW hg
  go_wp2_with (first | (with_reducible refine aT rfl (.tmp 11) rfl g8 0 rfl (dR (cZ m (bQ l at_ 18)) j 32 (bQ l (at_+144) 5)) hr8 ?_) | (with_reducible refine bG rfl _ _ rfl (w.heap.size+1) 0 _ rfl rfl (fN hz2) ?_))
  refine bodyPost_ret (v:=.agg (nmc (dR (cZ m (bQ l at_ 18)) j 32 (bQ l (at_+144) 5)))) (fI rfl _ _ (w.heap.size+1) _ rfl (blkN hz2 _)) rfl ⟨rfl,Below.setCells' HE2.out (by omega) _ _⟩
end
section
open Go.RowKit
attribute [local go_sem ↓] Go.wp_at_zero Go.wp_at_succ
structure SlZ (w:World) (A:Option Addr) (n c:Nat) (l:List Int):Prop where
 len:l.length=n
 le:n≤c
 cap:c≤9223372036854775807
 rd:Rd w A (ics l)
def pW (l:List Int) (k:Nat):Int:=l.getD k 0
section
variable {w w':World} {A:Option Addr} {n c:Nat} {l:List Int}
theorem SlZ.ext (h:SlZ w A n c l) (e:Ext w w'):SlZ w' A n c l:=⟨h.len,h.le,h.cap,h.rd.ext e⟩
theorem SlZ.nil (w:World):SlZ w none 0 0 []:=⟨rfl,Nat.le_refl _,Nat.zero_le _,.nil⟩
theorem SlZ.at (h:SlZ w A n c l) (hn:0 < n):∃ b o,A=some ⟨b,o,none⟩∧w.rangeAt b o (ics l)∧b < w.heap.size :=
 h.rd.at (by intro e;have:=congrArg List.length e;rw [aEd,h.len] at this;simp at this;omega)
theorem aLl {b o k:Nat} (h:w.rangeAt b o (ics l)) (hk:k < l.length):w.cell? ⟨b,o+k,none⟩=some (.int .i64 (pW l k)):=by
 refine h k _ ?_
 simp [ics,iv,pW,List.getD,hk]
end
abbrev genC (N Z:Int) (A1:Option Addr) (n1 c1:Nat) (A2:Option Addr) (n2 c2:Nat) (A3:Option Addr) (n3 c3:Nat):Array Value:=#[.int .i64 N,.int .i64 Z,.slice A1 n1 c1,.slice A2 n2 c2,.slice A3 n3 c3]
def tC (z:Int):Bool:=decide (0≤z∧z≤1099511627776)
def yV (N Z:Int) (n1 n2 n3:Nat):Prop:=1≤N∧N≤7∧1≤n1∧n1≤10∧N≤(n1:Int)∧1≤n2∧n2≤16∧n3=n2∧0≤Z∧Z≤1099511627776
instance (N Z:Int) (n1 n2 n3:Nat):Decidable (yV N Z n1 n2 n3):=by unfold yV;infer_instance
def eV (N Z:Int) (n1 n2 n3:Nat) (l:List Int):Bool:=decide (yV N Z n1 n2 n3) && decide (∀ k,k < l.length→tC (pW l k)=true)
theorem iZ {N Z:Int} {n1 n2 n3:Nat} {l:List Int} (h:¬ yV N Z n1 n2 n3):eV N Z n1 n2 n3 l=false:=by
 unfold eV;rw [decide_eq_false h,Bool.false_and]
theorem aIN {N Z:Int} {n1 n2 n3:Nat} {l:List Int} {k:Nat} (hk:k < l.length) (h:tC (pW l k)=false):eV N Z n1 n2 n3 l=false:=by
 unfold eV;rw [decide_eq_false (p:=∀ k,k < l.length→tC (pW l k)=true) (fun hh=>by rw [hh k hk] at h;cases h),Bool.and_false]
theorem aGR {N Z:Int} {n1 n2 n3:Nat} {l:List Int} (h:yV N Z n1 n2 n3) (h2:∀ k,k < l.length→tC (pW l k)=true):eV N Z n1 n2 n3 l=true:=by
 unfold eV;rw [decide_eq_true h,decide_eq_true h2];rfl
def mC (b:Bool):Int:=if b then 0 else 1
theorem wU (z:Int) (h:0≤z∧z≤1099511627776) (w:World):Calls Tryz.prog 144 #[.int .i64 z] w fun e w'=>e=.returned (.bool true)∧w=w':=by
 obtain ⟨h1,h2⟩:=h
 go_enter Tryz.func144,Tryz.ntmps144
 go_wp2_with fail
 go_ret
 exact ⟨rfl,rfl⟩
theorem zI (z:Int) (h:z < 0 ∨ 1099511627776 < z) (w:World):Calls Tryz.prog 144 #[.int .i64 z] w fun e w'=>e=.returned (.bool false)∧w=w':=by
 by_cases h1:0≤z
 ·have h2 : decide (z ≤ 1099511627776) = false := decide_eq_false (by omega)
  go_enter Tryz.func144,Tryz.ntmps144
  go_wp2_with fail
  go_ret
  exact ⟨rfl,rfl⟩
 have h2:decide (0≤z)=false:=decide_eq_false h1
 go_enter Tryz.func144,Tryz.ntmps144
 go_wp2_with fail
 go_ret
 exact ⟨rfl,rfl⟩
theorem aEy (z:Int) (w:World):Calls Tryz.prog 144 #[.int .i64 z] w fun e w'=>e=.returned (.bool (tC z))∧w=w':=by
 by_cases h:0≤z∧z≤1099511627776
 ·rw [show tC z=true from decide_eq_true h];exact wU z h w
 rw [show tC z=false from decide_eq_false h];exact zI z (by omega) w
theorem tX (N Z:Int) (A1:Option Addr) (n1 c1:Nat) (A2:Option Addr) (n2 c2:Nat) (A3:Option Addr) (n3 c3:Nat) (l:List Int) (w:World) (hS:SlZ w A3 n3 c3 l) (hm1:n1≤9223372036854775807) (hm2:n2≤9223372036854775807) :
  Calls Tryz.prog 88 #[.agg (genC N Z A1 n1 c1 A2 n2 c2 A3 n3 c3)] w fun e w'=>e=.returned (.int .i64 (mC (eV N Z n1 n2 n3 l)))∧Ext w w':=by
 have hlen:=hS.len
 have hle:=hS.le
 have hcap:=hS.cap
 have HE:=zh ((Ext.refl w).alloc' (.cells (genC N Z A1 n1 c1 A2 n2 c2 A3 n3 c3) 40))
 have HB:=zh (Blk.new w 40 (genC N Z A1 n1 c1 A2 n2 c2 A3 n3 c3))
 have HS:=zh hS
 have HLEN:=zh hlen
 clear hS hlen
 by_cases t0:1≤N
 ·have d0 : decide (N < 1) = false := decide_eq_false (by omega)
  by_cases t1:N≤7
  ·have d1 : decide (7 < N) = false := decide_eq_false (by omega)
   by_cases t2:(1:Int)≤(n1:Int)
   ·have d2 : decide ((n1 : Int) < 1) = false := decide_eq_false (by omega)
    by_cases t3:(n1:Int)≤10
    ·have d3 : decide ((10 : Int) < (n1 : Int)) = false := decide_eq_false (by omega)
     by_cases t4:N≤(n1:Int)
     ·have d4 : decide ((n1 : Int) < N) = false := decide_eq_false (by omega)
      by_cases t5:(1:Int)≤(n2:Int)
      ·have d5 : decide ((n2 : Int) < 1) = false := decide_eq_false (by omega)
       by_cases t6:(n2:Int)≤16
       ·have d6 : decide ((16 : Int) < (n2 : Int)) = false := decide_eq_false (by omega)
        by_cases t7:n3=n2
        ·subst t7
         by_cases t8:0≤Z∧Z≤1099511627776
         ·have HH := zh (show yV N Z n1 n3 n3 from ⟨t0, t1, by omega, by omega, t4, by omega, by omega, rfl, t8.1, t8.2⟩)
          have HM:=zh (wU Z t8)
          obtain ⟨b,o,rfl,hr,hb⟩:=HS.out.at (by omega)
          have HR:=zh hr
          have HBL:=zh hb
          clear hr hb t8
          go_enter Tryz.func88,Tryz.ntmps88
          go_wp2_with fail
          go_quiet (fail)
          go_wp2_with (go_at_call 144;(with_reducible refine (HM.out _).mono ?_);rintro e wv ⟨rfl,rfl⟩)
          go_loopw [59] (fun i wr=>∃ q:Nat,q≤n3∧i=.int .i64 (q:Int)∧Hid (∀ j,j < q→tC (pW l j)=true)∧Ext (w.alloc (.cells (genC N Z A1 n1 c1 A2 n3 c2 (some ⟨b,o,none⟩) n3 c3) 40)) wr) (fun i _=>n3 - (intOf i).toNat)
          case atStart=>exact ⟨0,Nat.zero_le _,rfl,zh (fun j hj=>by omega),eU _ _⟩
          case round =>
           obtain ⟨q,hq,rfl,HP,hX⟩:=hrel
           have HX:=zh hX
           have hra:=bE HR.out ((HE.out.trans hX).block b HBL.out)
           clear hX
           by_cases hlt:q < n3
           ·have hid := aLl hra (k := q) (by rw [HLEN.out]; exact hlt)
            have HQ:=zh (fun (hx:tC (pW l q)=true)=>show ∀ j,j < q+1→tC (pW l j)=true from fun j hj=>by
             rcases Nat.lt_or_ge j q with h | h
             ·exact HP.out j h
             obtain rfl:j=q:=by omega
             exact hx)
            have HN:=zh (fun (hx:tC (pW l q)=false)=>show mC (eV N Z n1 n3 n3 l)=1 by rw [aIN (by rw [HLEN.out];exact hlt) hx];rfl)
            have HA:=zh (aEy (pW l q))
            have i0:(0:Int)≤(q:Int):=by omega
            have i1:(q:Int) < (n3:Int):=by omega
            clear hra
            rcases hx:tC (pW l q) with _ | _
            ·have HXX := zh (HN.out hx)
             rw [hx] at HA
             generalize pW l q=z at *
             clear hx HN HQ
             go_wp2_with fail
             refine (HA.out _).mono ?_
             rintro e wv ⟨rfl,rfl⟩
             go_wp2_with fail
             go_ret
             exact ⟨by rw [HXX.out];rfl,HE.out.trans HX.out⟩
            have HXX:=zh (HQ.out hx)
            rw [hx] at HA
            generalize pW l q=z at hid HA
            clear hx HN HQ
            go_wp2_with fail
            refine (HA.out _).mono ?_
            rintro e wv ⟨rfl,rfl⟩
            go_wp2_with fail
            go_roundw
            case rel=>exact ⟨q+1,by omega,by go_num,HXX,HX.out⟩
            case measure=>simp [intOf];omega
           obtain rfl:q=n3:=by omega
           have HF:=zh (show mC (eV N Z n1 q q l)=0 by rw [aGR HH.out (fun k hk=>HP.out k (by rw [HLEN.out] at hk;exact hk))];rfl)
           go_wp2_with fail
           go_ret
           exact ⟨by rw [HF.out];rfl,HE.out.trans HX.out⟩
         have HM:=zh (zI Z (by omega))
         have HF:=zh (show mC (eV N Z n1 n3 n3 l)=1 by rw [iZ (fun h=>t8 ⟨h.2.2.2.2.2.2.2.2.1,h.2.2.2.2.2.2.2.2.2⟩)];rfl)
         clear HS
         go_enter Tryz.func88,Tryz.ntmps88
         go_wp2_with fail
         go_quiet (fail)
         go_wp2_with (go_at_call 144;(with_reducible refine (HM.out _).mono ?_);rintro e wv ⟨rfl,rfl⟩)
         go_ret
         exact ⟨by rw [HF.out];rfl,HE.out.trans (eU _ _)⟩
        have d7:((n3:Int) != (n2:Int))=true:=by simp;omega
        have d8:¬ (n3:Int)=(n2:Int):=by omega
        have HF:=zh (show mC (eV N Z n1 n2 n3 l)=1 by rw [iZ (fun h=>t7 h.2.2.2.2.2.2.2.1)];rfl)
        clear HS
        go_enter Tryz.func88,Tryz.ntmps88
        go_wp2_with fail
        go_quiet (fail)
        go_wp2_with fail
        go_ret
        exact ⟨by rw [HF.out];rfl,HE.out.trans (eU _ _)⟩
       have e6:(16:Int) < (n2:Int):=by omega
       have HF:=zh (show mC (eV N Z n1 n2 n3 l)=1 by rw [iZ (fun h=>t6 (by have:=h.2.2.2.2.2.2.1;omega))];rfl)
       clear HS
       go_enter Tryz.func88,Tryz.ntmps88
       go_wp2_with fail
       go_quiet (fail)
       go_wp2_with fail
       go_ret
       exact ⟨by rw [HF.out];rfl,HE.out.trans (eU _ _)⟩
      have e5:(n2:Int) < 1:=by omega
      have HF:=zh (show mC (eV N Z n1 n2 n3 l)=1 by rw [iZ (fun h=>t5 (by have:=h.2.2.2.2.2.1;omega))];rfl)
      clear HS
      go_enter Tryz.func88,Tryz.ntmps88
      go_wp2_with fail
      go_quiet (fail)
      go_wp2_with fail
      go_ret
      exact ⟨by rw [HF.out];rfl,HE.out.trans (eU _ _)⟩
     have e4:(n1:Int) < N:=by omega
     have HF:=zh (show mC (eV N Z n1 n2 n3 l)=1 by rw [iZ (fun h=>t4 (by have:=h.2.2.2.2.1;omega))];rfl)
     clear HS
     go_enter Tryz.func88,Tryz.ntmps88
     go_wp2_with fail
     go_quiet (fail)
     go_wp2_with fail
     go_ret
     exact ⟨by rw [HF.out];rfl,HE.out.trans (eU _ _)⟩
    have e3:(10:Int) < (n1:Int):=by omega
    have HF:=zh (show mC (eV N Z n1 n2 n3 l)=1 by rw [iZ (fun h=>t3 (by have:=h.2.2.2.1;omega))];rfl)
    clear HS
    go_enter Tryz.func88,Tryz.ntmps88
    go_wp2_with fail
    go_quiet (fail)
    go_wp2_with fail
    go_ret
    exact ⟨by rw [HF.out];rfl,HE.out.trans (eU _ _)⟩
   have e2:(n1:Int) < 1:=by omega
   have HF:=zh (show mC (eV N Z n1 n2 n3 l)=1 by rw [iZ (fun h=>t2 (by have:=h.2.2.1;omega))];rfl)
   clear HS
   go_enter Tryz.func88,Tryz.ntmps88
   go_wp2_with fail
   go_quiet (fail)
   go_wp2_with fail
   go_ret
   exact ⟨by rw [HF.out];rfl,HE.out.trans (eU _ _)⟩
  have e1:7 < N:=by omega
  have HF:=zh (show mC (eV N Z n1 n2 n3 l)=1 by rw [iZ (fun h=>t1 (by have:=h.2.1;omega))];rfl)
  clear HS
  go_enter Tryz.func88,Tryz.ntmps88
  go_wp2_with fail
  go_quiet (fail)
  go_wp2_with fail
  go_ret
  exact ⟨by rw [HF.out];rfl,HE.out.trans (eU _ _)⟩
 have e0:N < 1:=by omega
 have HF:=zh (show mC (eV N Z n1 n2 n3 l)=1 by rw [iZ (fun h=>t0 (by have:=h.1;omega))];rfl)
 clear HS
 go_enter Tryz.func88,Tryz.ntmps88
 go_wp2_with fail
 go_quiet (fail)
 go_wp2_with fail
 go_ret
 exact ⟨by rw [HF.out];rfl,HE.out.trans (eU _ _)⟩
def fE (L:List OpR):List UInt8:=L.flatMap dK
theorem oA (a b:List OpR):fE (a ++ b)=fE a ++ fE b:=by simp [fE]
def mB (ac sq:Int) (L:List OpR):List UInt8:=[toB ac,toB sq,toB (L.length:Int)] ++ fE L
theorem zB {R:OpR} {w:World} (hv:vOp R=true) (hR:R.ok w):(dK R).length≤3000:=by
 have h1:=hR.pre.len
 have h2:=hR.prf.len
 have b1:=zQ hv
 have b2:=zP hv
 rcases iD R.k with h | h | h | h | h | h | h
 ·rw [aAU h];simp [iH]
 ·rw [aAT h];simp [iH,aG]
 ·rw [aAS h];simp [iH,aG,sQ];omega
 ·rw [aAR h];simp [iH,aG]
 ·rw [aAQ h];simp [iH]
 ·rw [aAP h];simp [sQ];omega
 exact absurd (tY hv) h
theorem OwnB.len {w:World} {base:Nat} {e:TypeId} {A:Option Addr} {n c:Nat} {l:List UInt8} (h:OwnB w base e A n c l):l.length=n:=h.sl.len
theorem aHu (w:World) (base:Nat) (e:TypeId) (x y z:Int) (g:Nat) (hg:w.heap.size=g) (hb:base≤g) (x' y' z':Int) (hx:x'=((toB x).toNat:Int)) (hy:y'=((toB y).toNat:Int)) (hz:z'=((toB z).toNat:Int)):OwnB (w.alloc (.cells #[.int .u8 x',.int .u8 y',.int .u8 z'] e)) base e (some ⟨g,0,none⟩) 3 3 [toB x,toB y,toB z]:=by
 subst hg;subst hx;subst hy;subst hz
 exact yP (heap_alloc_new w _) hb rfl (Nat.le_refl _) (by omega) rfl rfl
theorem aBG (z:Int):IntKind.u8.wrap z=((toB z).toNat:Int):=eG z
theorem aEk (ac sq:Int) (A:Option Addr) (n c:Nat) (L:List OpR) (w:World) (hS:SlO w A n c L) (hv:vTx ac sq L=true) :
  Calls Tryz.prog 110 #[.agg (txA ac sq A n c)] w fun e w'=>∃ A' n' c',e=.returned (.slice A' n' c')∧OwnB w' w.heap.size 5 A' n' c' (mB ac sq L)∧n'≤13000∧Ext w w':=by
 obtain ⟨⟨h1,h2,h3,h4,h5,h6⟩,hops⟩:=eW hv
 have hlen:=hS.len
 rw [hlen] at h5 h6
 have hle:=hS.le
 have hcap:=hS.cap
 have hE:=(Ext.refl w).alloc' (.cells (txA ac sq A n c) 24)
 obtain ⟨b,o,rfl,hr0,hb0⟩:=hS.at (by omega)
 have HSW:=zh (hS.ext hE)
 have HLEN:=zh hlen
 have HR0:=zh hr0
 have HBL:=zh hb0
 have HOPS:=zh hops
 have HE:=zh hE
 obtain ⟨w1,hw1⟩:∃ w1,w1=w.alloc (.cells (txA ac sq (some ⟨b,o,none⟩) n c) 24):=⟨_,rfl⟩
 have HW1:=zh hw1
 have HT1:=zh (aBG (n:Int))
 clear hS hE hr0 hb0 hops hlen hv hw1
 go_enter Tryz.func110,Tryz.ntmps110
 go_wp2_with fail
 go_loopw [20,3] (fun i v wr=>∃ (k:Nat) (A4:Option Addr) (n4 c4:Nat),k≤n∧i=.int .i64 (k:Int)∧v=.slice A4 n4 c4∧n4≤3+3000 * k∧OwnB wr w1.heap.size 5 A4 n4 c4 ([toB ac,toB sq,toB (n:Int)] ++ fE (L.take k))∧Ext w1 wr) (fun i _ _=>n - (intOf i).toNat)
 case atStart =>
  refine ⟨0,_,3,3,Nat.zero_le _,rfl,rfl,Nat.le_refl _,?_,?_⟩
  ·rw [HW1.out]
   simp only [fE,List.take_zero,List.flatMap_nil,List.append_nil]
   exact aHu _ _ _ _ _ _ _ (by simp) (by simp) _ _ _ (by first | exact bK _ | (rw [← bK];omega)) (by first | exact bK _ | (rw [← bK];omega)) (by first | exact bK _ | (rw [← bK];omega))
  rw [HW1.out];exact (Ext.refl _).alloc' _
 case round =>
  obtain ⟨k,A4,n4,c4,hk,rfl,rfl,hn4,hO,hX⟩:=hrel
  have HO:=zh hO
  have HX:=zh hX
  clear hO hX
  by_cases hlt:k < n
  ·have HE2 := zh (show Ext w wr from by rw [HW1.out] at HX; exact HE.out.trans HX.out)
   have hr:=vB (bE HR0.out (HE2.out.block b HBL.out)) (k:=k) (by rw [HLEN.out];exact hlt)
   have HTK:=zh (nE (L:=L) (k:=k) (by rw [HLEN.out];exact hlt))
   have HOK:=zh (show (bI L k).ok w1 by rw [HW1.out];exact HSW.out.nth hlt)
   have HV:=zh (HOPS.out k (by rw [HLEN.out];exact hlt))
   have i0:(0:Int)≤(k:Int):=by omega
   have i1:(k:Int) < (n:Int):=by omega
   obtain ⟨R,hR⟩:∃ R,bI L k=R:=⟨_,rfl⟩
   rw [hR] at hr HTK HOK HV
   clear hR
   have hnew:=aHQ wr R
   go_wp2_with (first | (with_reducible refine fG rfl (.tmp 22) rfl b (o+k * 23) rfl R hr ?_) | (with_reducible refine rU rfl (.tmp 5) (.tmp 23) rfl _ rfl R rfl rfl ?_) | (with_reducible refine fG rfl (.tmp 5) rfl wr.heap.size 0 rfl R hnew ?_))
   refine (aBh R HV.out w1 A4 n4 c4 _ _ HOK.out (HX.out.alloc' _) (HO.out.alloc _) (by omega)).mono ?_
   rintro e w2 ⟨A5,n5,c5,rfl,hO5,hX5⟩
   have HO7:=zh (show OwnB w2 w1.heap.size 5 A5 n5 c5 ([toB ac,toB sq,toB (n:Int)] ++ fE (L.take (k+1))) by
    rw [HTK.out,oA]
    simpa [fE] using hO5)
   have hn5:n5≤3+3000 * (k+1):=by
    have a1:=hO5.len
    have a2:=HO.out.len
    have a3:=zB HV.out HOK.out
    rw [List.length_append,a2] at a1
    omega
   have HX5:=zh hX5
   clear hO5 hX5 hr hnew HO HTK
   go_wp2_with fail
   go_roundw
   case rel=>exact ⟨k+1,A5,n5,c5,by omega,by go_num,rfl,hn5,HO7.out,HX5.out⟩
   case measure=>simp [intOf];omega
  obtain rfl:k=n:=by omega
  go_wp2_with fail
  go_ret
  refine ⟨A4,n4,c4,rfl,bB (base:=w1.heap.size) ?_ (by rw [HW1.out];simp),by omega,by rw [HW1.out] at HX;exact HE.out.trans HX.out⟩
  have:=HO.out
  unfold mB
  rw [List.take_of_length_le (Nat.le_of_eq HLEN.out)] at this
  rw [HLEN.out]
  exact this
theorem kT {w:World} {g:Nat} {t:TypeId} {ac sq:Int} {A:Option Addr} {n c:Nat} {S:Option Addr} {m d:Nat} (h:Blk w g t (stA ac sq A n c S m d)):w.cell? ⟨g,0,none⟩=some (.int .i64 ac)∧w.cell? ⟨g,1,none⟩=some (.int .i64 sq)∧w.cell? ⟨g,2,none⟩=some (.slice A n c)∧w.cell? ⟨g,3,none⟩=some (.slice S m d) :=
 ⟨h.cell 0,h.cell 1,h.cell 2,h.cell 3⟩
def aIO (v:OpV):Bool :=
 decide (1≤v.k∧v.k≤6) && (aW (fTo v.k) v.tO 0 15 && (aW (fAm v.k) v.am 1 1099511627776 && (aW (fUl v.k) v.ul 1 1000 && (aW (fVa v.k) v.va 0 9 && (aW (aAJ v.k) (v.pre.length:Int) 0 32 && (aW (aAI v.k) (v.prf.length:Int) 1 2000 && ((fUl v.k || decide (v.hs=0)) && (fLk v.k || decide (v.lk=0)))))))))
theorem aKq {R:OpR} (h1:R.pre.length=R.n1) (h2:R.prf.length=R.n2):vOp R=aIO R.v:=by
 unfold vOp aIO OpR.v;simp only [h1,h2]
def aMj (ac sq:Int) (V:List OpV):Bool:=tZ ac sq V.length && V.all aIO
theorem aKp {ac sq:Int} {L:List OpR} (h:∀ R,R ∈ L→vOp R=aIO R.v):vTx ac sq L=aMj ac sq (L.map OpR.v):=by
 unfold vTx aMj
 rw [List.length_map]
 congr 1
 rw [Bool.eq_iff_iff]
 simp only [decide_eq_true_eq,List.all_eq_true,List.mem_map]
 constructor
 ·rintro hh _ ⟨R, hR, rfl⟩
  obtain ⟨k,hk,rfl⟩:=List.getElem_of_mem hR
  have:=hh k hk
  have e:L[k]=bI L k:=by simp [bI,hk]
  rw [← h _ hR,e];exact this
 intro hh k hk
 rw [h _ (pX hk)]
 exact hh _ ⟨_,pX hk,rfl⟩
theorem dP {w:World} {base base':Nat} {e e':TypeId} {size size':Nat} {A A':Option Addr} {n n' c c':Nat} {xs xs':List Value} (h:w.ownsRow base e size (.slice A n c) n xs) (h':w.ownsRow base' e' size' (.slice A' n' c') n' xs') (hne:e ≠ e'):(Value.slice A n c).ownBlock=none ∨ (Value.slice A n c).ownBlock ≠ (Value.slice A' n' c').ownBlock:=by
 rcases h.2 with ⟨hv,_⟩ | ⟨g,cap,cur,hv,_,hh,_⟩
 ·exact .inl (by rw [hv];simp [Value.ownBlock])
 refine .inr ?_
 have:=aM (t:=e) (cs:=cur) h' hh hne
 rw [hv];exact this
section
variable {P:Program} {t e:TypeId} {z:Value} {size bytes:Nat}
theorem bU {ops:Array Oper} {rest:List Oper} {o:Oper} {a:Act} {w:World} {Q:Exit→Act→World→Prop} (E:Elem P t e z size bytes) (hgd:o.guard=none) (s x:Operand)
  (ho:o.op=.call { callee:=.builtin .append,args:=#[s,x],argTypes:=#[t,t] })
  (base:Nat) (A:Option Addr) (n c:Nat) (xs:List Value) (hs:a.eval s=.slice A n c) (hown:w.ownsRow base e size (.slice A n c) n xs)
  (A2:Option Addr) (m c2:Nat) (ys:List Value) (hx:a.eval x=.slice A2 m c2) (hr:Rd w A2 ys) (hl:ys.length=m * size) (h1:∀ u ∈ ys,u.oneCell'=true)
  (hb:(n+m) * bytes≤140737488355328) (h63:n+m≤4611686018427387904) (hbase:base≤w.heap.size)
  (h:∀ A' c' w',w'.ownsRow base e size (.slice A' (n+m) c') (n+m) (xs ++ ys)→w.grownBy w' (Value.ownBlock (.slice A n c))→wpList P ops Q rest (a.put o.dst (.slice A' (n+m) c')) w'):wpList P ops Q (o :: rest) a w :=
 wpList_plain hgd fun K hK=>oD E s x ho base A n c xs hs hown A2 m c2 ys hx hr hl h1 hb h63 hbase fun A' c' w' h2 h3=>hK _ _ (h A' c' w' h2 h3)
end
abbrev lV:Array Value:=#[.int .i64 0,.int .i64 0,.slice none 0 0,.slice none 0 0]
structure TxR where
 ac:Int
 sq:Int
 A:Option Addr
 n:Nat
 c:Nat
 S:Option Addr
 m:Nat
 d:Nat
 L:List OpR
 sig:List UInt8
abbrev tA (T:TxR):Array Value:=stA T.ac T.sq T.A T.n T.c T.S T.m T.d
def TxR.v (T:TxR):Int × Int × List OpV × List UInt8:=(T.ac,T.sq,T.L.map OpR.v,T.sig)
structure TxR.ok (T:TxR) (w:World):Prop where
 ops:SlO w T.A T.n T.c T.L
 sig:SlB w T.S T.m T.d T.sig
theorem TxR.ok.ext {T:TxR} {w w':World} (h:T.ok w) (e:Ext w w'):T.ok w':=⟨h.ops.ext e,h.sig.ext e⟩
section
variable {o:Oper} {a:Act} {w:World} {ops:Array Oper} {rest:List Oper} {Q:Exit→Act→World→Prop}
theorem mI (hgd:o.guard=none) (x y:Operand) (ho:o.op=.store 47 x y) (g:Nat) (cs:Array Value) (hx:a.eval x=.pointer (some ⟨g,0,none⟩)) (hy:a.eval y=.agg cs) (ht:w.there g 0 4) (hs:cs.size=4) (h1:cs.all (·.oneCell')=true)
  (h:wpList Tryz.prog ops Q rest (a.put o.dst undef) (w.setCells g 0 cs.toList)):wpList Tryz.prog ops Q (o :: rest) a w :=
 wpList_store_mid hgd 47 x y ho g 0 cs hx hy (by rw [hs];exact ht) (by rw [hs];kernel_rfl) h1 h
end
theorem aEK (ac sq:Int) (A:Option Addr) (n c:Nat) (S:Option Addr) (m d:Nat):(stA ac sq A n c S m d).all (·.oneCell')=true:=by simp [stA,Value.oneCell']
theorem aBJ {w:World} {X:Nat} {t:TypeId} (h:Blk w X t lV):w.there X 0 4:=aK h
theorem aBK {w:World} {g:Nat} (h:Blk w g 47 lV) (cs:Array Value) (hs:cs.size=4):Blk (w.setCells g 0 cs.toList) g 47 cs:=aQ h (by rw [hs];rfl)
end
end Go.Proofs.YtohmmcahpakokaaGreat
