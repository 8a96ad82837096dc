/- codec.Uint and its reference, over every offset and width. -/
import Derived.Test.YtohmmcahpakokaaGreatH04
set_option maxRecDepth 100000
set_option maxHeartbeats 8000000
set_option linter.unusedVariables false
set_option linter.unusedSimpArgs false
namespace Go.Proofs.YtohmmcahpakokaaGreat
section
open Go.RowKit
attribute [local go_sem ↓] Go.wp_at_zero Go.wp_at_succ
def flw (len at_ n:Int):Bool:=decide (0≤at_∧at_≤len∧n≤len - at_)
theorem nW (A:Option Addr) (len c:Nat) (at_ n:Int) (w:World) (hl:len≤9223372036854775807) :
  Calls Tryz.prog 240 #[.slice A len c,.int .i64 at_,.int .i64 n] w fun e w'=>e=.returned (.bool (flw len at_ n))∧w=w':=by
 by_cases h1:0≤at_
 ·by_cases h2 : at_ ≤ (len : Int)
  ·by_cases h3 : n ≤ (len : Int) - at_
   ·have hf : flw len at_ n = true := by unfold flw; simp only [decide_eq_true_eq]; exact ⟨h1, h2, h3⟩
    rw [hf];clear hf
    go_enter Tryz.func240,Tryz.ntmps240
    go_wp2_with fail
    go_ret
    exact ⟨rfl,rfl⟩
   have hf:flw len at_ n=false:=by unfold flw;simp only [decide_eq_false_iff_not];omega
   have h3':decide (n≤(len:Int) - at_)=false:=decide_eq_false h3
   rw [hf];clear hf
   go_enter Tryz.func240,Tryz.ntmps240
   go_wp2_with fail
   go_ret
   exact ⟨rfl,rfl⟩
  have hf:flw len at_ n=false:=by unfold flw;simp only [decide_eq_false_iff_not];omega
  have h2':decide (at_≤(len:Int))=false:=decide_eq_false h2
  rw [hf];clear hf
  go_enter Tryz.func240,Tryz.ntmps240
  go_wp2_with fail
  go_ret
  exact ⟨rfl,rfl⟩
 have hf:flw len at_ n=false:=by unfold flw;simp only [decide_eq_false_iff_not];omega
 have h1':decide (0≤at_)=false:=decide_eq_false h1
 rw [hf];clear hf
 go_enter Tryz.func240,Tryz.ntmps240
 go_wp2_with fail
 go_ret
 exact ⟨rfl,rfl⟩
theorem aFV (a:Nat) (c:UInt8) (ha:a < 72057594037927936):bits .or .u64 (IntKind.u64.wrap ((a:Int) * 256)) (c.toNat:Int)=((a * 256+c.toNat:Nat):Int):=sT a c ha
theorem aHq (a k:Nat) (h:a < 256 ^ k) (hk:k < 8):a < 72057594037927936:=Nat.lt_of_lt_of_le h (Nat.pow_le_pow_right (n:=256) (j:=7) (by omega) (by omega))
def cC (l:List UInt8) (at_ width:Nat):Nat:=bS ((l.drop at_).take width)
theorem aFB (A:Option Addr) (n c:Nat) (l:List UInt8) (at_ width:Nat) (w:World) (h:SlB w A n c l) (h1:1≤width) (h8:width≤8) (hf:at_+width≤n) :
  Calls Tryz.prog 203 #[.slice A n c,.int .i64 (at_:Int),.int .i64 (width:Int)] w fun e w'=>e=.returned (.tuple #[.int .u64 (cC l at_ width:Int),.bool true])∧w=w':=by
 have hle:=h.le
 have hcap:=h.cap
 have hlen:=h.len
 have e1:decide ((width:Int) < 1)=false:=decide_eq_false (by omega)
 have e2:decide ((8:Int) < (width:Int))=false:=decide_eq_false (by omega)
 have hfl:flw n at_ width=true:=by unfold flw;simp only [decide_eq_true_eq];omega
 have b1:¬ c=at_:=by omega
 obtain ⟨b,o,rfl,hra,hbl⟩:=h.at (by omega)
 go_enter Tryz.func203,Tryz.ntmps203
 go_wp2_with (go_at_call 240;refine (nW _ _ _ _ _ _ (by omega)).mono ?_;rintro e w1 ⟨rfl,rfl⟩;rw [hfl])
 go_loop [8,31] (fun v i=>∃ k:Nat,k≤width∧i=.int .i64 (k:Int)∧v=.int .u64 ((cC l at_ k:Nat):Int)) (fun _ i=>width - (intOf i).toNat)
 case atStart=>exact ⟨0,by omega,rfl,by simp [cC,bS]⟩
 case round =>
  obtain ⟨k,hk,rfl,rfl⟩:=hrel
  by_cases hlt:k < width
  ·have hcell := aDZ hra (at_ + k) (by omega)
   rw [← Nat.add_assoc] at hcell
   have hd:(l.drop at_)[k]'(by simp;omega)=l[at_+k]'(by omega):=by simp
   have HS:=zh (show cC l at_ (k+1)=cC l at_ k * 256+(l[at_+k]'(by omega)).toNat by unfold cC;rw [aDw _ _ (by simp;omega),gG,hd])
   have hor:=aFV (cC l at_ k) (l[at_+k]'(by omega)) (aHq _ k (kP _ _ (by simp;omega)) (by omega))
   clear hd
   generalize cC l at_ k=a at *
   generalize (l[at_+k]'(by omega))=x at *
   go_wp2_with fail
   go_round
   case rel=>exact ⟨k+1,by omega,by go_num,by rw [HS.out];go_num⟩
   case measure=>simp [intOf];omega
  obtain rfl:k=width:=by omega
  go_wp2_with fail
  go_ret2
  exact ⟨rfl,rfl⟩
theorem aHi (A:Option Addr) (n c:Nat) (at_ width:Int) (w:World) (hn:n≤9223372036854775807) (h1:1≤width) (h8:width≤8) (hf:flw n at_ width=false) :
  Calls Tryz.prog 203 #[.slice A n c,.int .i64 at_,.int .i64 width] w fun e w'=>e=.returned (.tuple #[.int .u64 0,.bool false])∧w=w':=by
 have e1:decide (width < 1)=false:=decide_eq_false (by omega)
 have e2:decide (8 < width)=false:=decide_eq_false (by omega)
 go_enter Tryz.func203,Tryz.ntmps203
 go_wp2_with (go_at_call 240;refine (nW _ _ _ _ _ _ (by omega)).mono ?_;rintro e w1 ⟨rfl,rfl⟩;rw [hf])
 go_ret2
 exact ⟨rfl,rfl⟩
theorem qB (A:Option Addr) (n c:Nat) (l:List UInt8) (w:World) (h:SlB w A n c l) (h2:2≤n) :
  Calls Tryz.prog 146 #[.slice A n c] w fun e w'=>e=.returned (.tuple #[.int .i64 (cC l 0 2:Int),.bool true])∧w=w':=by
 have hb:cC l 0 2 < 65536:=kP _ 2 (by simp;have:=h.len;omega)
 have hw:IntKind.i64.wrap ((cC l 0 2:Nat):Int)=((cC l 0 2:Nat):Int):=by rw [IntKind.wrap_i64];omega
 have hu:=zh (aFB A n c l 0 2 w h (by omega) (by omega) (by omega))
 generalize cC l 0 2=x at *
 go_enter Tryz.func146,Tryz.ntmps146
 go_wp2_with fail
 refine hu.out.mono ?_
 rintro e w1 ⟨rfl,rfl⟩
 go_wp2_with fail
 go_ret2
 exact ⟨rfl,rfl⟩
theorem aHC (A:Option Addr) (n c:Nat) (w:World) (h2:n < 2) :
  Calls Tryz.prog 146 #[.slice A n c] w fun e w'=>e=.returned (.tuple #[.int .i64 0,.bool false])∧w=w':=by
 have hu:=zh (aHi A n c 0 2 w (by omega) (by omega) (by omega) (by unfold flw;simp only [decide_eq_false_iff_not];omega))
 go_enter Tryz.func146,Tryz.ntmps146
 go_wp2_with fail
 refine hu.out.mono ?_
 rintro e w1 ⟨rfl,rfl⟩
 go_wp2_with fail
 go_ret2
 exact ⟨rfl,rfl⟩
theorem eD (z:Int):IntKind.u8.wrap z=((toB z).toNat:Int):=by rw [← bZ,IntKind.wrap_u8]
theorem tG {P:Program} {t e:TypeId} {ops:Array Oper} {o:Oper} {a:Act} {w:World} {K:Act→World→Prop} {Q:Exit→Act→World→Prop} {X:Prop} (E:Elem P t e (.int .u8 0) 1 1) (hgd:o.guard=none) (s x:Operand)
  (ho:o.op=.call { callee:=.builtin .append,args:=#[s,x],argTypes:=#[t,t] })
  (base:Nat) (A:Option Addr) (n c:Nat) (l:List UInt8) (hs:a.eval s=.slice A n c) (hown:OwnB w base e A n c l)
  (A2:Option Addr) (m c2:Nat) (l2:List UInt8) (hx:a.eval x=.slice A2 m c2) (hr:SlB w A2 m c2 l2)
  (hb:n+m≤140737488355328) (hbase:base≤w.heap.size)
  (h:∀ A' c' w',OwnB w' base e A' (n+m) c' (l ++ l2)→w.grownBy w' (Value.ownBlock (.slice A n c))→K (a.put o.dst (.slice A' (n+m) c')) w'):if Region.wanted o (yielded ops a.tmps)=true then Oper.wp P o a w K Q else X:=by
 have hw:Region.wanted o (yielded ops a.tmps)=true:=by simp [Region.wanted,hgd]
 rw [if_pos hw]
 refine mE E s x ho base A n c (bcs l) hs hown A2 m c2 (bcs l2) hx hr.rd (by rw [aN,hr.len,Nat.mul_one]) (eA l2) (by omega) (by omega) hbase fun A' c' w' h2 h3=>h A' c' w' ?_ h3
 unfold OwnB;rw [eQ];exact h2
theorem aFS {w:World} {base:Nat} {e:TypeId} {A:Option Addr} {n c:Nat} {l:List UInt8} (h:OwnB w base e A n c l):∀ k,Value.ownBlock (.slice A n c)=some k→base≤k∧k < w.heap.size:=fun k hk=>World.ownsRow.lt h k hk
theorem sF {w0 w w':World} {base:Nat} {e:TypeId} {A:Option Addr} {n c:Nat} {l:List UInt8} (h:OwnB w base e A n c l) (hb:Below base w0 w) (hs:base≤w.heap.size) (hg:w.grownBy w' (Value.ownBlock (.slice A n c))):Below base w0 w' :=
 hb.grown hg hs (fun k hk=>(aFS h k hk).1)
end
section
open Go.RowKit
def qA (c:UInt8):Lit:=.int .u8 (c.toNat:Int)
theorem aDN (c:UInt8):(Lit.int .u8 (c.toNat:Int)).wf=true:=by
 have:=c.toNat_lt
 simp [Lit.wf,IntKind.min,IntKind.max,IntKind.signed,IntKind.bits];omega
theorem aHE (c:UInt8):Tryz.prog.keyLits 1 5 [.int .u8 (c.toNat:Int)]=some [qA c]:=by
 unfold Program.keyLits
 rw [Tryz.underlying5]
 simp only
 rw [if_pos ⟨trivial,aDN c⟩];rfl
theorem aBU:Tryz.prog.cellsOf 5=1:=by kernel_rfl
theorem vQ:Tryz.prog.cellsOf 30=8:=by kernel_rfl
theorem aHD (n:UInt64):Tryz.prog.keyLits 2 30 (bcs (nmb n))=some ((nmb n).map qA):=by
 unfold Program.keyLits
 rw [Tryz.underlying30]
 simp only
 rw [if_pos (by rw [aN,aL,vQ]),aBU]
 rw [pT n]
 generalize (nmb n).getD 0 0=x0
 generalize (nmb n).getD 1 0=x1
 generalize (nmb n).getD 2 0=x2
 generalize (nmb n).getD 3 0=x3
 generalize (nmb n).getD 4 0=x4
 generalize (nmb n).getD 5 0=x5
 generalize (nmb n).getD 6 0=x6
 generalize (nmb n).getD 7 0=x7
 rw [show List.range 8=[0,1,2,3,4,5,6,7] from rfl]
 simp only [bcs,bv,List.map_cons,List.map_nil,List.mapM_cons,List.mapM_nil,Nat.zero_mul,Nat.one_mul,Nat.mul_one,List.drop_zero,List.drop_succ_cons,List.take_succ_cons,List.take_zero,aHE]
 rfl
theorem pZ {a b:UInt64} (h:(nmb a).map qA=(nmb b).map qA):a=b:=by
 refine aHw ?_
 have hf:∀ x y:UInt8,qA x=qA y→x=y:=fun x y e=>by
  unfold qA at e;injection e with _ e;exact UInt8.toNat_inj.1 (by omega)
 exact List.map_inj_right hf |>.1 h
theorem cZ (a b:UInt64) (w:World):(binOp .eql 30 (.agg (nmc a)) (.agg (nmc b))).run Tryz.prog w=.ok (.bool (decide (a=b))) w:=by
 have hE:=run_equalIn_deep (P:=Tryz.prog) 9998 2 30 (by kernel_rfl)
 have hfm:∀ n:UInt64,(Value.agg (nmc n)).formed Tryz.prog 30=true:=fun n=>by
  simp [Value.formed,Tryz.underlying30,cQ,vQ]
 have hk:∀ n:UInt64,Tryz.prog.keyLits 2 30 (Value.agg (nmc n)).cells.toList=some ((nmb n).map qA):=fun n=>by
  show Tryz.prog.keyLits 2 _ (nmc n).toList=_
  rw [bO];exact aHD n
 obtain ⟨r,hr,hiff⟩:=hE w 2 2 _ _ _ _ (hfm a) (hfm b) (hk a) (hk b)
 rw [run_eql_struct]
 have hr':(Op.equalIn 10000 30 (.agg (nmc a)) (.agg (nmc b))).run Tryz.prog w=.ok r w:=hr
 rw [hr']
 have:r=decide (a=b):=by
  by_cases h:a=b
  ·subst h;simp [hiff.2 rfl]
  have:r ≠ true:=fun e=>h (pZ (hiff.1 e))
  simp [h,this]
 rw [this];rfl
end
section
open Go.RowKit
attribute [local go_sem ↓] Go.wp_at_zero Go.wp_at_succ
theorem gL {α:Type} (a:α) (l m:List α):List.append (a :: l) m=a :: List.append l m:=rfl
theorem iZ {α:Type} (m:List α):List.append [] m=m:=rfl
structure OpR where
 k:Int
 tO:Int
 am:Int
 ul:Int
 va:Int
 lk:UInt64
 hs:UInt64
 A1:Option Addr
 n1:Nat
 c1:Nat
 pre:List UInt8
 A2:Option Addr
 n2:Nat
 c2:Nat
 prf:List UInt8
abbrev opA (R:OpR):Array Value:=#[.int .i64 R.k,.int .i64 R.tO,.int .i64 R.am,.int .i64 R.ul,.int .i64 R.va,.int .u8 (nb8 R.lk 0),.int .u8 (nb8 R.lk 1),.int .u8 (nb8 R.lk 2),.int .u8 (nb8 R.lk 3),.int .u8 (nb8 R.lk 4),.int .u8 (nb8 R.lk 5),.int .u8 (nb8 R.lk 6),.int .u8 (nb8 R.lk 7),.int .u8 (nb8 R.hs 0),.int .u8 (nb8 R.hs 1),.int .u8 (nb8 R.hs 2),.int .u8 (nb8 R.hs 3),.int .u8 (nb8 R.hs 4),.int .u8 (nb8 R.hs 5),.int .u8 (nb8 R.hs 6),.int .u8 (nb8 R.hs 7),.slice R.A1 R.n1 R.c1,.slice R.A2 R.n2 R.c2]
structure OpR.ok (R:OpR) (w:World):Prop where
 pre:SlB w R.A1 R.n1 R.c1 R.pre
 prf:SlB w R.A2 R.n2 R.c2 R.prf
theorem OpR.ok.ext {R:OpR} {w w':World} (h:R.ok w) (e:Ext w w'):R.ok w':=⟨h.pre.ext e,h.prf.ext e⟩
def opL (R:OpR):List Value:=(opA R).toList
theorem gE (R:OpR):(opL R).length=23:=rfl
theorem aDG (R:OpR):(opL R).toArray=opA R:=rfl
theorem aDF (R:OpR):∀ u ∈ opL R,u.oneCell'=true:=by
 intro u hu
 simp only [opL,List.mem_cons,List.not_mem_nil,or_false] at hu
 rcases hu with rfl | rfl | rfl | rfl | rfl | rfl | rfl | rfl | rfl | rfl | rfl | rfl | rfl | rfl | rfl | rfl | rfl | rfl | rfl | rfl | rfl | rfl | rfl <;> rfl
theorem aHv (R:OpR):(opA R).all (·.oneCell')=true:=all_oneCell_toArray (aDF R)
def ocs (L:List OpR):List Value:=L.flatMap opL
theorem aDH:ocs []=[]:=rfl
theorem mQ (x:OpR) (r:List OpR):ocs (x :: r)=opL x ++ ocs r:=by simp [ocs]
theorem aCG (a b:List OpR):ocs (a ++ b)=ocs a ++ ocs b:=by simp [ocs]
theorem uJ (L:List OpR):(ocs L).length=L.length * 23:=by
 induction L with
 | nil=>rfl
 | cons x r ih=>rw [mQ,List.length_append,gE,ih,List.length_cons];omega
theorem aGi (L:List OpR) (k:Nat):(ocs L).drop (k * 23)=ocs (L.drop k):=by
 induction k generalizing L with
 | zero=>simp
 | succ k ih =>
  cases L with
  | nil=>simp [ocs]
  | cons n r =>
   rw [mQ,List.drop_succ_cons,← ih r,show (k+1) * 23=(opL n).length+k * 23 from by rw [gE];omega,List.drop_append,List.drop_of_length_le (by omega)]
   simp
def aKf:OpR:=⟨0,0,0,0,0,0,0,none,0,0,[],none,0,0,[]⟩
def bM (L:List OpR) (k:Nat):OpR:=L.getD k aKf
theorem aJc {L:List OpR} {k:Nat} (h:k < L.length):((ocs L).drop (k * 23)).take 23=opL (bM L k):=by
 have e:L[k]=bM L k:=by simp [bM,h]
 rw [aGi,List.drop_eq_getElem_cons h,mQ,List.take_append_of_le_length (by rw [gE];omega),List.take_of_length_le (by rw [gE];omega),e]
theorem nE {L:List OpR} {k:Nat} (h:k < L.length):L.take (k+1)=L.take k ++ [bM L k]:=by
 rw [List.take_succ_eq_append_getElem h]
 have e:L[k]=bM L k:=by simp [bM,h]
 rw [e]
theorem pS {L:List OpR} {k:Nat} (h:k < L.length):bM L k ∈ L:=by
 have e:L[k]=bM L k:=by simp [bM,h]
 rw [← e];exact List.getElem_mem _
structure SlO (w:World) (A:Option Addr) (n c:Nat) (L:List OpR):Prop where
 len:L.length=n
 le:n≤c
 cap:c≤9223372036854775807
 rd:Rd w A (ocs L)
 ok:∀ R,R ∈ L→R.ok w
section
variable {w w':World} {A:Option Addr} {n c:Nat} {L:List OpR}
theorem SlO.ext (h:SlO w A n c L) (e:Ext w w'):SlO w' A n c L:=⟨h.len,h.le,h.cap,h.rd.ext e,fun R hR=>(h.ok R hR).ext e⟩
theorem SlO.at (h:SlO w A n c L) (hn:0 < n):∃ b o,A=some ⟨b,o,none⟩∧w.rangeAt b o (ocs L)∧b < w.heap.size :=
 h.rd.at (by intro e;have:=congrArg List.length e;rw [uJ,h.len] at this;simp at this;omega)
theorem SlO.nil (w:World):SlO w none 0 0 []:=⟨rfl,Nat.le_refl _,Nat.zero_le _,.nil,fun R hR=>by cases hR⟩
theorem SlO.nth (h:SlO w A n c L) {k:Nat} (hk:k < n):(bM L k).ok w:=h.ok _ (pS (by rw [h.len];exact hk))
theorem pO {b o k:Nat} (h:w.rangeAt b o (ocs L)) (hk:k < L.length):w.rangeAt b (o+k * 23) (opL (bM L k)):=by
 have h1:=aY (k:=23) (cB (k:=k * 23) h)
 rwa [aJc hk] at h1
end
section
variable {o:Oper} {a:Act} {w:World} {ops:Array Oper} {rest:List Oper} {Q:Exit→Act→World→Prop}
theorem fI (hgd:o.guard=none) (x:Operand) (ho:o.op=.load 69 x) (b of:Nat) (hx:a.eval x=.pointer (some ⟨b,of,none⟩)) (R:OpR) (hc:w.rangeAt b of (opL R))
  (h:wpList Tryz.prog ops Q rest (a.put o.dst (.agg (opA R))) w):wpList Tryz.prog ops Q (o :: rest) a w:=by
 have:=wpList_load_mid (P:=Tryz.prog) (Q:=Q) (ops:=ops) (rest:=rest) hgd 69 x ho b of hx (opL R) _ hc Tryz.underlying69 rfl (by rw [gE];kernel_rfl)
 rw [aDG] at this
 exact this h
end
section
variable {o:Oper} {a:Act} {w:World} {ops:Array Oper} {rest:List Oper} {Q:Exit→Act→World→Prop}
theorem rP (hgd:o.guard=none) (x y:Operand) (ho:o.op=.store 69 x y) (cs:Array Value) (hcs:cs.size=23) (R:OpR) (hx:a.eval x=.pointer (some ⟨w.heap.size,0,none⟩)) (hy:a.eval y=.agg (opA R))
  (h:wpList Tryz.prog ops Q rest (a.put o.dst undef) (w.alloc (.cells (opA R) 69))):wpList Tryz.prog ops Q (o :: rest) a (w.alloc (.cells cs 69)):=by
 have ht:=aR (Blk.new w 69 cs)
 rw [hcs] at ht
 refine wpList_store_mid hgd 69 x y ho w.heap.size 0 (opA R) hx hy ht (by kernel_rfl) (aHv R) ?_
 rw [fC w 69 cs (opA R) (by rw [hcs];rfl)]
 exact h
theorem aGn (w:World) (R:OpR):(w.alloc (.cells (opA R) 69)).rangeAt w.heap.size 0 (opL R):=aD (Blk.new w 69 (opA R))
end
abbrev txA (ac sq:Int) (A:Option Addr) (n c:Nat):Array Value:=#[.int .i64 ac,.int .i64 sq,.slice A n c]
abbrev stA (ac sq:Int) (A:Option Addr) (n c:Nat) (S:Option Addr) (m d:Nat):Array Value:=#[.int .i64 ac,.int .i64 sq,.slice A n c,.slice S m d]
def jL (k:Int):Int:=if k=1 then 5 else if k=2 then 29 else if k=3 then 101 else if k=4 then 37 else if k=5 then 6 else if k=6 then 130 else 0
def aT (used:Bool) (n lo hi:Int):Bool:=if used then decide (lo≤n∧n≤hi) else decide (n=0)
def fTo (k:Int):Bool:=decide (1≤k∧k≤4)
def fAm (k:Int):Bool:=decide (1≤k∧k≤5)
def fUl (k:Int):Bool:=decide (k=2)
def fVa (k:Int):Bool:=decide (5≤k∧k≤6)
def zX (k:Int):Bool:=decide (k=3)
def zW (k:Int):Bool:=decide (k=6)
def fLk (k:Int):Bool:=decide (3≤k∧k≤4)
def vOp (R:OpR):Bool :=
 decide (1≤R.k∧R.k≤6) && (aT (fTo R.k) R.tO 0 15 && (aT (fAm R.k) R.am 1 1099511627776 && (aT (fUl R.k) R.ul 1 1000 && (aT (fVa R.k) R.va 0 9 && (aT (zX R.k) (R.n1:Int) 0 32 && (aT (zW R.k) (R.n2:Int) 1 2000 && ((fUl R.k || decide (R.hs=0)) && (fLk R.k || decide (R.lk=0)))))))))
theorem aAA {k:Int} (h:¬ (1≤k∧k≤6)):jL k=0:=by
 unfold jL
 rw [if_neg (by omega),if_neg (by omega),if_neg (by omega),if_neg (by omega),if_neg (by omega),if_neg (by omega)]
@[go_sem] theorem aKw:bits .and .i64 5 1=1:=by decide
@[go_sem] theorem aKv:bits .and .i64 5 2=0:=by decide
@[go_sem] theorem aKu:bits .and .i64 5 4=4:=by decide
@[go_sem] theorem aKt:bits .and .i64 5 8=0:=by decide
@[go_sem] theorem aJR:bits .and .i64 5 16=0:=by decide
@[go_sem] theorem aJQ:bits .and .i64 5 32=0:=by decide
@[go_sem] theorem aJP:bits .and .i64 5 64=0:=by decide
@[go_sem] theorem aJq:bits .and .i64 5 128=0:=by decide
@[go_sem] theorem aJZ:bits .and .i64 29 1=1:=by decide
@[go_sem] theorem aJY:bits .and .i64 29 2=0:=by decide
@[go_sem] theorem aJX:bits .and .i64 29 4=4:=by decide
@[go_sem] theorem aJW:bits .and .i64 29 8=8:=by decide
@[go_sem] theorem aJw:bits .and .i64 29 16=16:=by decide
@[go_sem] theorem aJv:bits .and .i64 29 32=0:=by decide
@[go_sem] theorem aJu:bits .and .i64 29 64=0:=by decide
@[go_sem] theorem aID:bits .and .i64 29 128=0:=by decide
@[go_sem] theorem aJE:bits .and .i64 101 1=1:=by decide
@[go_sem] theorem aJD:bits .and .i64 101 2=0:=by decide
@[go_sem] theorem aJC:bits .and .i64 101 4=4:=by decide
@[go_sem] theorem aJB:bits .and .i64 101 8=0:=by decide
@[go_sem] theorem aIJ:bits .and .i64 101 16=0:=by decide
@[go_sem] theorem aII:bits .and .i64 101 32=32:=by decide
@[go_sem] theorem aIH:bits .and .i64 101 64=64:=by decide
@[go_sem] theorem aIl:bits .and .i64 101 128=0:=by decide
@[go_sem] theorem aJV:bits .and .i64 37 1=1:=by decide
@[go_sem] theorem aJU:bits .and .i64 37 2=0:=by decide
@[go_sem] theorem aJT:bits .and .i64 37 4=4:=by decide
@[go_sem] theorem aJS:bits .and .i64 37 8=0:=by decide
@[go_sem] theorem aJt:bits .and .i64 37 16=0:=by decide
@[go_sem] theorem aJs:bits .and .i64 37 32=32:=by decide
@[go_sem] theorem aJr:bits .and .i64 37 64=0:=by decide
@[go_sem] theorem aIC:bits .and .i64 37 128=0:=by decide
@[go_sem] theorem aKs:bits .and .i64 6 1=0:=by decide
@[go_sem] theorem aKr:bits .and .i64 6 2=2:=by decide
@[go_sem] theorem aKq:bits .and .i64 6 4=4:=by decide
@[go_sem] theorem aKp:bits .and .i64 6 8=0:=by decide
@[go_sem] theorem aJO:bits .and .i64 6 16=0:=by decide
@[go_sem] theorem aJN:bits .and .i64 6 32=0:=by decide
@[go_sem] theorem aJM:bits .and .i64 6 64=0:=by decide
@[go_sem] theorem aJp:bits .and .i64 6 128=0:=by decide
@[go_sem] theorem aJA:bits .and .i64 130 1=0:=by decide
@[go_sem] theorem aJz:bits .and .i64 130 2=2:=by decide
@[go_sem] theorem aJy:bits .and .i64 130 4=0:=by decide
@[go_sem] theorem aJx:bits .and .i64 130 8=0:=by decide
@[go_sem] theorem aIG:bits .and .i64 130 16=0:=by decide
@[go_sem] theorem aIF:bits .and .i64 130 32=0:=by decide
@[go_sem] theorem aIE:bits .and .i64 130 64=0:=by decide
@[go_sem] theorem aIk:bits .and .i64 130 128=128:=by decide
theorem iK (k:Int):k=1 ∨ k=2 ∨ k=3 ∨ k=4 ∨ k=5 ∨ k=6 ∨ ¬ (1≤k∧k≤6):=by omega
theorem eC (k:Int) (w:World):Calls Tryz.prog 141 #[.int .i64 k] w fun e w'=>e=.returned (.int .i64 (jL k))∧w=w':=by
 rcases iK k with rfl | rfl | rfl | rfl | rfl | rfl | h
 case inr.inr.inr.inr.inr.inr =>
  rw [aAA h]
  have d1:decide (k=1)=false:=decide_eq_false (by omega)
  have d2:decide (k=2)=false:=decide_eq_false (by omega)
  have d3:decide (k=3)=false:=decide_eq_false (by omega)
  have d4:decide (k=4)=false:=decide_eq_false (by omega)
  have d5:decide (k=5)=false:=decide_eq_false (by omega)
  have d6:decide (k=6)=false:=decide_eq_false (by omega)
  have e1:(k == 1)=false:=by simp;omega
  have e2:(k == 2)=false:=by simp;omega
  have e3:(k == 3)=false:=by simp;omega
  have e4:(k == 4)=false:=by simp;omega
  have e5:(k == 5)=false:=by simp;omega
  have e6:(k == 6)=false:=by simp;omega
  clear h
  go_enter Tryz.func141,Tryz.ntmps141
  go_wp2_with fail
  go_ret
  exact ⟨rfl,rfl⟩
 all_goals (
  go_enter Tryz.func141,Tryz.ntmps141
  go_wp2_with fail
  go_ret
  exact ⟨rfl,rfl⟩)
theorem aO (u:Bool) (n lo hi:Int) (w:World):Calls Tryz.prog 142 #[.bool u,.int .i64 n,.int .i64 lo,.int .i64 hi] w fun e w'=>e=.returned (.bool (aT u n lo hi))∧w=w':=by
 cases u with
 | false =>
  have HV:=zh (show aT false n lo hi=decide (n=0) from rfl)
  by_cases h0:n=0
  ·subst h0
   go_enter Tryz.func142,Tryz.ntmps142
   go_wp2_with fail
   go_ret
   exact ⟨by rw [HV.out];rfl,rfl⟩
  have d1:decide (n=0)=false:=decide_eq_false h0
  have d2:(n == 0)=false:=by simp;omega
  have HW:=zh (show aT false n lo hi=false by rw [HV.out,d1])
  clear h0 HV
  go_enter Tryz.func142,Tryz.ntmps142
  go_wp2_with fail
  go_ret
  exact ⟨by rw [HW.out];rfl,rfl⟩
 | true =>
  by_cases h1:lo≤n
  ·by_cases h2 : n ≤ hi
   ·have HV := zh (show aT true n lo hi = true from decide_eq_true ⟨h1, h2⟩)
    go_enter Tryz.func142,Tryz.ntmps142
    go_wp2_with fail
    go_ret
    exact ⟨by rw [HV.out];rfl,rfl⟩
   have HV:=zh (show aT true n lo hi=false from decide_eq_false (by omega))
   have d2:decide (n≤hi)=false:=decide_eq_false h2
   clear h2
   go_enter Tryz.func142,Tryz.ntmps142
   go_wp2_with fail
   go_ret
   exact ⟨by rw [HV.out];rfl,rfl⟩
  have HV:=zh (show aT true n lo hi=false from decide_eq_false (by omega))
  have d1:decide (lo≤n)=false:=decide_eq_false h1
  clear h1
  go_enter Tryz.func142,Tryz.ntmps142
  go_wp2_with fail
  go_ret
  exact ⟨by rw [HV.out];rfl,rfl⟩
end
end Go.Proofs.YtohmmcahpakokaaGreat
