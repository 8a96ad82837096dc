/- codec.Uint and its reference, over every offset and width. -/
import Derived.Sort.Grow
import Derived.Test.YtohmmcahpakokaaGreatG03
set_option maxRecDepth 100000
set_option maxHeartbeats 8000000
set_option linter.unusedVariables false
set_option linter.unusedSimpArgs false
namespace Go.Proofs.YtohmmcahpakokaaGreat
section
open Go.RowKit
attribute [local go_sem ↓] Go.wp_at_zero Go.wp_at_succ
def flw (len at_ n:Int):Bool:=decide (0≤at_∧at_≤len∧n≤len - at_)
theorem oB (A:Option Addr) (len c:Nat) (at_ n:Int) (w:World) (hl:len≤9223372036854775807) :
  Calls Tryz.prog 240 #[.slice A len c,.int .i64 at_,.int .i64 n] w fun e w'=>e=.returned (.bool (flw len at_ n))∧w=w':=by
 by_cases h1:0≤at_
 ·by_cases h2 : at_ ≤ (len : Int)
  ·by_cases h3 : n ≤ (len : Int) - at_
   ·have hf : flw len at_ n = true := by unfold flw; simp only [decide_eq_true_eq]; exact ⟨h1, h2, h3⟩
    rw [hf];clear hf
    go_enter Tryz.func240,Tryz.ntmps240
    go_wp2_with fail
    go_ret
    exact ⟨rfl,rfl⟩
   have hf:flw len at_ n=false:=by unfold flw;simp only [decide_eq_false_iff_not];omega
   have h3':decide (n≤(len:Int) - at_)=false:=decide_eq_false h3
   rw [hf];clear hf
   go_enter Tryz.func240,Tryz.ntmps240
   go_wp2_with fail
   go_ret
   exact ⟨rfl,rfl⟩
  have hf:flw len at_ n=false:=by unfold flw;simp only [decide_eq_false_iff_not];omega
  have h2':decide (at_≤(len:Int))=false:=decide_eq_false h2
  rw [hf];clear hf
  go_enter Tryz.func240,Tryz.ntmps240
  go_wp2_with fail
  go_ret
  exact ⟨rfl,rfl⟩
 have hf:flw len at_ n=false:=by unfold flw;simp only [decide_eq_false_iff_not];omega
 have h1':decide (0≤at_)=false:=decide_eq_false h1
 rw [hf];clear hf
 go_enter Tryz.func240,Tryz.ntmps240
 go_wp2_with fail
 go_ret
 exact ⟨rfl,rfl⟩
theorem aHw (a:Nat) (c:UInt8) (ha:a < 72057594037927936):bits .or .u64 (IntKind.u64.wrap ((a:Int) * 256)) (c.toNat:Int)=((a * 256+c.toNat:Nat):Int):=tH a c ha
theorem aIY (a k:Nat) (h:a < 256 ^ k) (hk:k < 8):a < 72057594037927936:=Nat.lt_of_lt_of_le h (Nat.pow_le_pow_right (n:=256) (j:=7) (by omega) (by omega))
def bM (l:List UInt8) (at_ width:Nat):Nat:=bP ((l.drop at_).take width)
theorem aBF (A:Option Addr) (n c:Nat) (l:List UInt8) (at_ width:Nat) (w:World) (h:SlB w A n c l) (h1:1≤width) (h8:width≤8) (hf:at_+width≤n) :
  Calls Tryz.prog 203 #[.slice A n c,.int .i64 (at_:Int),.int .i64 (width:Int)] w fun e w'=>e=.returned (.tuple #[.int .u64 (bM l at_ width:Int),.bool true])∧w=w':=by
 have hle:=h.le
 have hcap:=h.cap
 have hlen:=h.len
 have e1:decide ((width:Int) < 1)=false:=decide_eq_false (by omega)
 have e2:decide ((8:Int) < (width:Int))=false:=decide_eq_false (by omega)
 have hfl:flw n at_ width=true:=by unfold flw;simp only [decide_eq_true_eq];omega
 have b1:¬ c=at_:=by omega
 obtain ⟨b,o,rfl,hra,hbl⟩:=h.at (by omega)
 go_enter Tryz.func203,Tryz.ntmps203
 go_wp2_with (go_at_call 240;refine (oB _ _ _ _ _ _ (by omega)).mono ?_;rintro e w1 ⟨rfl,rfl⟩;rw [hfl])
 go_loop [8,31] (fun v i=>∃ k:Nat,k≤width∧i=.int .i64 (k:Int)∧v=.int .u64 ((bM l at_ k:Nat):Int)) (fun _ i=>width - (intOf i).toNat)
 case atStart=>exact ⟨0,by omega,rfl,by simp [bM,bP]⟩
 case round =>
  obtain ⟨k,hk,rfl,rfl⟩:=hrel
  by_cases hlt:k < width
  ·have hcell := aFm hra (at_ + k) (by omega)
   rw [← Nat.add_assoc] at hcell
   have hd:(l.drop at_)[k]'(by simp;omega)=l[at_+k]'(by omega):=by simp
   have HS:=zh (show bM l at_ (k+1)=bM l at_ k * 256+(l[at_+k]'(by omega)).toNat by unfold bM;rw [aEI _ _ (by simp;omega),gG,hd])
   have hor:=aHw (bM l at_ k) (l[at_+k]'(by omega)) (aIY _ k (kO _ _ (by simp;omega)) (by omega))
   clear hd
   generalize bM l at_ k=a at *
   generalize (l[at_+k]'(by omega))=x at *
   go_wp2_with fail
   go_round
   case rel=>exact ⟨k+1,by omega,by go_num,by rw [HS.out];go_num⟩
   case measure=>simp [intOf];omega
  obtain rfl:k=width:=by omega
  go_wp2_with fail
  go_ret2
  exact ⟨rfl,rfl⟩
theorem aIP (A:Option Addr) (n c:Nat) (at_ width:Int) (w:World) (hn:n≤9223372036854775807) (h1:1≤width) (h8:width≤8) (hf:flw n at_ width=false) :
  Calls Tryz.prog 203 #[.slice A n c,.int .i64 at_,.int .i64 width] w fun e w'=>e=.returned (.tuple #[.int .u64 0,.bool false])∧w=w':=by
 have e1:decide (width < 1)=false:=decide_eq_false (by omega)
 have e2:decide (8 < width)=false:=decide_eq_false (by omega)
 go_enter Tryz.func203,Tryz.ntmps203
 go_wp2_with (go_at_call 240;refine (oB _ _ _ _ _ _ (by omega)).mono ?_;rintro e w1 ⟨rfl,rfl⟩;rw [hf])
 go_ret2
 exact ⟨rfl,rfl⟩
theorem qD (A:Option Addr) (n c:Nat) (l:List UInt8) (w:World) (h:SlB w A n c l) (h2:2≤n) :
  Calls Tryz.prog 146 #[.slice A n c] w fun e w'=>e=.returned (.tuple #[.int .i64 (bM l 0 2:Int),.bool true])∧w=w':=by
 have hb:bM l 0 2 < 65536:=kO _ 2 (by simp;have:=h.len;omega)
 have hw:IntKind.i64.wrap ((bM l 0 2:Nat):Int)=((bM l 0 2:Nat):Int):=by rw [IntKind.wrap_i64];omega
 have hu:=zh (aBF A n c l 0 2 w h (by omega) (by omega) (by omega))
 generalize bM l 0 2=x at *
 go_enter Tryz.func146,Tryz.ntmps146
 go_wp2_with fail
 refine hu.out.mono ?_
 rintro e w1 ⟨rfl,rfl⟩
 go_wp2_with fail
 go_ret2
 exact ⟨rfl,rfl⟩
theorem aJv (A:Option Addr) (n c:Nat) (w:World) (h2:n < 2) :
  Calls Tryz.prog 146 #[.slice A n c] w fun e w'=>e=.returned (.tuple #[.int .i64 0,.bool false])∧w=w':=by
 have hu:=zh (aIP A n c 0 2 w (by omega) (by omega) (by omega) (by unfold flw;simp only [decide_eq_false_iff_not];omega))
 go_enter Tryz.func146,Tryz.ntmps146
 go_wp2_with fail
 refine hu.out.mono ?_
 rintro e w1 ⟨rfl,rfl⟩
 go_wp2_with fail
 go_ret2
 exact ⟨rfl,rfl⟩
theorem eG (z:Int):IntKind.u8.wrap z=((toB z).toNat:Int):=by rw [← bK,IntKind.wrap_u8]
theorem uA {P:Program} {t e:TypeId} {ops:Array Oper} {o:Oper} {a:Act} {w:World} {K:Act→World→Prop} {Q:Exit→Act→World→Prop} {X:Prop} (E:Elem P t e (.int .u8 0) 1 1) (hgd:o.guard=none) (s x:Operand)
  (ho:o.op=.call { callee:=.builtin .append,args:=#[s,x],argTypes:=#[t,t] })
  (base:Nat) (A:Option Addr) (n c:Nat) (l:List UInt8) (hs:a.eval s=.slice A n c) (hown:OwnB w base e A n c l)
  (A2:Option Addr) (m c2:Nat) (l2:List UInt8) (hx:a.eval x=.slice A2 m c2) (hr:SlB w A2 m c2 l2)
  (hb:n+m≤140737488355328) (hbase:base≤w.heap.size)
  (h:∀ A' c' w',OwnB w' base e A' (n+m) c' (l ++ l2)→w.grownBy w' (Value.ownBlock (.slice A n c))→K (a.put o.dst (.slice A' (n+m) c')) w'):if Region.wanted o (yielded ops a.tmps)=true then Oper.wp P o a w K Q else X:=by
 have hw:Region.wanted o (yielded ops a.tmps)=true:=by simp [Region.wanted,hgd]
 rw [if_pos hw]
 refine oD E s x ho base A n c (bcs l) hs hown A2 m c2 (bcs l2) hx hr.rd (by rw [aJ,hr.len,Nat.mul_one]) (dT l2) (by omega) (by omega) hbase fun A' c' w' h2 h3=>h A' c' w' ?_ h3
 unfold OwnB;rw [eQ];exact h2
theorem aHt {w:World} {base:Nat} {e:TypeId} {A:Option Addr} {n c:Nat} {l:List UInt8} (h:OwnB w base e A n c l):∀ k,Value.ownBlock (.slice A n c)=some k→base≤k∧k < w.heap.size:=fun k hk=>World.ownsRow.lt h k hk
theorem sR {w0 w w':World} {base:Nat} {e:TypeId} {A:Option Addr} {n c:Nat} {l:List UInt8} (h:OwnB w base e A n c l) (hb:Below base w0 w) (hs:base≤w.heap.size) (hg:w.grownBy w' (Value.ownBlock (.slice A n c))):Below base w0 w' :=
 hb.grown hg hs (fun k hk=>(aHt h k hk).1)
end
section
open Go.RowKit
def nO (c:UInt8):Lit:=.int .u8 (c.toNat:Int)
theorem aEX (c:UInt8):(Lit.int .u8 (c.toNat:Int)).wf=true:=by
 have:=c.toNat_lt
 simp [Lit.wf,IntKind.min,IntKind.max,IntKind.signed,IntKind.bits];omega
theorem aJw (c:UInt8):Tryz.prog.keyLits 1 5 [.int .u8 (c.toNat:Int)]=some [nO c]:=by
 unfold Program.keyLits
 rw [Tryz.underlying5]
 simp only
 rw [if_pos ⟨trivial,aEX c⟩];rfl
theorem aCZ:Tryz.prog.cellsOf 5=1:=by kernel_rfl
theorem rP:Tryz.prog.cellsOf 30=8:=by kernel_rfl
theorem aEY (n:UInt64):Tryz.prog.keyLits 2 30 (bcs (nmb n))=some ((nmb n).map nO):=by
 unfold Program.keyLits
 rw [Tryz.underlying30]
 simp only
 rw [if_pos (by rw [aJ,aG,rP]),aCZ]
 rw [pY n]
 generalize (nmb n).getD 0 0=x0
 generalize (nmb n).getD 1 0=x1
 generalize (nmb n).getD 2 0=x2
 generalize (nmb n).getD 3 0=x3
 generalize (nmb n).getD 4 0=x4
 generalize (nmb n).getD 5 0=x5
 generalize (nmb n).getD 6 0=x6
 generalize (nmb n).getD 7 0=x7
 rw [show List.range 8=[0,1,2,3,4,5,6,7] from rfl]
 simp only [bcs,bv,List.map_cons,List.map_nil,List.mapM_cons,List.mapM_nil,Nat.zero_mul,Nat.one_mul,Nat.mul_one,List.drop_zero,List.drop_succ_cons,List.take_succ_cons,List.take_zero,aJw]
 rfl
theorem kY {a b:UInt64} (h:(nmb a).map nO=(nmb b).map nO):a=b:=by
 refine aJi ?_
 have hf:∀ x y:UInt8,nO x=nO y→x=y:=fun x y e=>by
  unfold nO at e;injection e with _ e;exact UInt8.toNat_inj.1 (by omega)
 exact List.map_inj_right hf |>.1 h
theorem bX (a b:UInt64) (w:World):(binOp .eql 30 (.agg (nmc a)) (.agg (nmc b))).run Tryz.prog w=.ok (.bool (decide (a=b))) w:=by
 have hE:=run_equalIn_deep (P:=Tryz.prog) 9998 2 30 (by kernel_rfl)
 have hfm:∀ n:UInt64,(Value.agg (nmc n)).formed Tryz.prog 30=true:=fun n=>by
  simp [Value.formed,Tryz.underlying30,cU,rP]
 have hk:∀ n:UInt64,Tryz.prog.keyLits 2 30 (Value.agg (nmc n)).cells.toList=some ((nmb n).map nO):=fun n=>by
  show Tryz.prog.keyLits 2 _ (nmc n).toList=_
  rw [bJ];exact aEY n
 obtain ⟨r,hr,hiff⟩:=hE w 2 2 _ _ _ _ (hfm a) (hfm b) (hk a) (hk b)
 rw [run_eql_struct]
 have hr':(Op.equalIn 10000 30 (.agg (nmc a)) (.agg (nmc b))).run Tryz.prog w=.ok r w:=hr
 rw [hr']
 have:r=decide (a=b):=by
  by_cases h:a=b
  ·subst h;simp [hiff.2 rfl]
  have:r ≠ true:=fun e=>h (kY (hiff.1 e))
  simp [h,this]
 rw [this];rfl
end
section
open Go.RowKit
attribute [local go_sem ↓] Go.wp_at_zero Go.wp_at_succ
theorem gL {α:Type} (a:α) (l m:List α):List.append (a :: l) m=a :: List.append l m:=rfl
theorem iT {α:Type} (m:List α):List.append [] m=m:=rfl
structure OpR where
 k:Int
 tO:Int
 am:Int
 ul:Int
 va:Int
 lk:UInt64
 hs:UInt64
 A1:Option Addr
 n1:Nat
 c1:Nat
 pre:List UInt8
 A2:Option Addr
 n2:Nat
 c2:Nat
 prf:List UInt8
abbrev opA (R:OpR):Array Value:=#[.int .i64 R.k,.int .i64 R.tO,.int .i64 R.am,.int .i64 R.ul,.int .i64 R.va,.int .u8 (nb8 R.lk 0),.int .u8 (nb8 R.lk 1),.int .u8 (nb8 R.lk 2),.int .u8 (nb8 R.lk 3),.int .u8 (nb8 R.lk 4),.int .u8 (nb8 R.lk 5),.int .u8 (nb8 R.lk 6),.int .u8 (nb8 R.lk 7),.int .u8 (nb8 R.hs 0),.int .u8 (nb8 R.hs 1),.int .u8 (nb8 R.hs 2),.int .u8 (nb8 R.hs 3),.int .u8 (nb8 R.hs 4),.int .u8 (nb8 R.hs 5),.int .u8 (nb8 R.hs 6),.int .u8 (nb8 R.hs 7),.slice R.A1 R.n1 R.c1,.slice R.A2 R.n2 R.c2]
structure OpR.ok (R:OpR) (w:World):Prop where
 pre:SlB w R.A1 R.n1 R.c1 R.pre
 prf:SlB w R.A2 R.n2 R.c2 R.prf
theorem OpR.ok.ext {R:OpR} {w w':World} (h:R.ok w) (e:Ext w w'):R.ok w':=⟨h.pre.ext e,h.prf.ext e⟩
def opL (R:OpR):List Value:=(opA R).toList
theorem gC (R:OpR):(opL R).length=23:=rfl
theorem aES (R:OpR):(opL R).toArray=opA R:=rfl
theorem aER (R:OpR):∀ u ∈ opL R,u.oneCell'=true:=by
 intro u hu
 simp only [opL,List.mem_cons,List.not_mem_nil,or_false] at hu
 rcases hu with rfl | rfl | rfl | rfl | rfl | rfl | rfl | rfl | rfl | rfl | rfl | rfl | rfl | rfl | rfl | rfl | rfl | rfl | rfl | rfl | rfl | rfl | rfl <;> rfl
theorem aJd (R:OpR):(opA R).all (·.oneCell')=true:=all_oneCell_toArray (aER R)
def ocs (L:List OpR):List Value:=L.flatMap opL
theorem aET:ocs []=[]:=rfl
theorem mS (x:OpR) (r:List OpR):ocs (x :: r)=opL x ++ ocs r:=by simp [ocs]
theorem aDS (a b:List OpR):ocs (a ++ b)=ocs a ++ ocs b:=by simp [ocs]
theorem vG (L:List OpR):(ocs L).length=L.length * 23:=by
 induction L with
 | nil=>rfl
 | cons x r ih=>rw [mS,List.length_append,gC,ih,List.length_cons];omega
theorem aHJ (L:List OpR) (k:Nat):(ocs L).drop (k * 23)=ocs (L.drop k):=by
 induction k generalizing L with
 | zero=>simp
 | succ k ih =>
  cases L with
  | nil=>simp [ocs]
  | cons n r =>
   rw [mS,List.drop_succ_cons,← ih r,show (k+1) * 23=(opL n).length+k * 23 from by rw [gC];omega,List.drop_append,List.drop_of_length_le (by omega)]
   simp
def aMo:OpR:=⟨0,0,0,0,0,0,0,none,0,0,[],none,0,0,[]⟩
def bI (L:List OpR) (k:Nat):OpR:=L.getD k aMo
theorem aLg {L:List OpR} {k:Nat} (h:k < L.length):((ocs L).drop (k * 23)).take 23=opL (bI L k):=by
 have e:L[k]=bI L k:=by simp [bI,h]
 rw [aHJ,List.drop_eq_getElem_cons h,mS,List.take_append_of_le_length (by rw [gC];omega),List.take_of_length_le (by rw [gC];omega),e]
theorem nE {L:List OpR} {k:Nat} (h:k < L.length):L.take (k+1)=L.take k ++ [bI L k]:=by
 rw [List.take_succ_eq_append_getElem h]
 have e:L[k]=bI L k:=by simp [bI,h]
 rw [e]
theorem pX {L:List OpR} {k:Nat} (h:k < L.length):bI L k ∈ L:=by
 have e:L[k]=bI L k:=by simp [bI,h]
 rw [← e];exact List.getElem_mem _
structure SlO (w:World) (A:Option Addr) (n c:Nat) (L:List OpR):Prop where
 len:L.length=n
 le:n≤c
 cap:c≤9223372036854775807
 rd:Rd w A (ocs L)
 ok:∀ R,R ∈ L→R.ok w
section
variable {w w':World} {A:Option Addr} {n c:Nat} {L:List OpR}
theorem SlO.ext (h:SlO w A n c L) (e:Ext w w'):SlO w' A n c L:=⟨h.len,h.le,h.cap,h.rd.ext e,fun R hR=>(h.ok R hR).ext e⟩
theorem SlO.at (h:SlO w A n c L) (hn:0 < n):∃ b o,A=some ⟨b,o,none⟩∧w.rangeAt b o (ocs L)∧b < w.heap.size :=
 h.rd.at (by intro e;have:=congrArg List.length e;rw [vG,h.len] at this;simp at this;omega)
theorem SlO.nil (w:World):SlO w none 0 0 []:=⟨rfl,Nat.le_refl _,Nat.zero_le _,.nil,fun R hR=>by cases hR⟩
theorem SlO.nth (h:SlO w A n c L) {k:Nat} (hk:k < n):(bI L k).ok w:=h.ok _ (pX (by rw [h.len];exact hk))
theorem vB {b o k:Nat} (h:w.rangeAt b o (ocs L)) (hk:k < L.length):w.rangeAt b (o+k * 23) (opL (bI L k)):=by
 have h1:=aO (k:=23) (bD (k:=k * 23) h)
 rwa [aLg hk] at h1
end
section
variable {o:Oper} {a:Act} {w:World} {ops:Array Oper} {rest:List Oper} {Q:Exit→Act→World→Prop}
theorem fG (hgd:o.guard=none) (x:Operand) (ho:o.op=.load 69 x) (b of:Nat) (hx:a.eval x=.pointer (some ⟨b,of,none⟩)) (R:OpR) (hc:w.rangeAt b of (opL R))
  (h:wpList Tryz.prog ops Q rest (a.put o.dst (.agg (opA R))) w):wpList Tryz.prog ops Q (o :: rest) a w:=by
 have:=wpList_load_mid (P:=Tryz.prog) (Q:=Q) (ops:=ops) (rest:=rest) hgd 69 x ho b of hx (opL R) _ hc Tryz.underlying69 rfl (by rw [gC];kernel_rfl)
 rw [aES] at this
 exact this h
end
section
variable {o:Oper} {a:Act} {w:World} {ops:Array Oper} {rest:List Oper} {Q:Exit→Act→World→Prop}
theorem rU (hgd:o.guard=none) (x y:Operand) (ho:o.op=.store 69 x y) (cs:Array Value) (hcs:cs.size=23) (R:OpR) (hx:a.eval x=.pointer (some ⟨w.heap.size,0,none⟩)) (hy:a.eval y=.agg (opA R))
  (h:wpList Tryz.prog ops Q rest (a.put o.dst undef) (w.alloc (.cells (opA R) 69))):wpList Tryz.prog ops Q (o :: rest) a (w.alloc (.cells cs 69)):=by
 have ht:=aK (Blk.new w 69 cs)
 rw [hcs] at ht
 refine wpList_store_mid hgd 69 x y ho w.heap.size 0 (opA R) hx hy ht (by kernel_rfl) (aJd R) ?_
 rw [dO w 69 cs (opA R) (by rw [hcs];rfl)]
 exact h
theorem aHQ (w:World) (R:OpR):(w.alloc (.cells (opA R) 69)).rangeAt w.heap.size 0 (opL R):=aC (Blk.new w 69 (opA R))
end
abbrev txA (ac sq:Int) (A:Option Addr) (n c:Nat):Array Value:=#[.int .i64 ac,.int .i64 sq,.slice A n c]
abbrev stA (ac sq:Int) (A:Option Addr) (n c:Nat) (S:Option Addr) (m d:Nat):Array Value:=#[.int .i64 ac,.int .i64 sq,.slice A n c,.slice S m d]
def jJ (k:Int):Int:=if k=1 then 5 else if k=2 then 29 else if k=3 then 101 else if k=4 then 37 else if k=5 then 6 else if k=6 then 130 else 0
def aW (used:Bool) (n lo hi:Int):Bool:=if used then decide (lo≤n∧n≤hi) else decide (n=0)
def fTo (k:Int):Bool:=decide (1≤k∧k≤4)
def fAm (k:Int):Bool:=decide (1≤k∧k≤5)
def fUl (k:Int):Bool:=decide (k=2)
def fVa (k:Int):Bool:=decide (5≤k∧k≤6)
def aAJ (k:Int):Bool:=decide (k=3)
def aAI (k:Int):Bool:=decide (k=6)
def fLk (k:Int):Bool:=decide (3≤k∧k≤4)
def vOp (R:OpR):Bool :=
 decide (1≤R.k∧R.k≤6) && (aW (fTo R.k) R.tO 0 15 && (aW (fAm R.k) R.am 1 1099511627776 && (aW (fUl R.k) R.ul 1 1000 && (aW (fVa R.k) R.va 0 9 && (aW (aAJ R.k) (R.n1:Int) 0 32 && (aW (aAI R.k) (R.n2:Int) 1 2000 && ((fUl R.k || decide (R.hs=0)) && (fLk R.k || decide (R.lk=0)))))))))
theorem aBB {k:Int} (h:¬ (1≤k∧k≤6)):jJ k=0:=by
 unfold jJ
 rw [if_neg (by omega),if_neg (by omega),if_neg (by omega),if_neg (by omega),if_neg (by omega),if_neg (by omega)]
@[go_sem] theorem aMI:bits .and .i64 5 1=1:=by decide
@[go_sem] theorem aMH:bits .and .i64 5 2=0:=by decide
@[go_sem] theorem aMG:bits .and .i64 5 4=4:=by decide
@[go_sem] theorem aMF:bits .and .i64 5 8=0:=by decide
@[go_sem] theorem aLZ:bits .and .i64 5 16=0:=by decide
@[go_sem] theorem aLY:bits .and .i64 5 32=0:=by decide
@[go_sem] theorem aLX:bits .and .i64 5 64=0:=by decide
@[go_sem] theorem aLx:bits .and .i64 5 128=0:=by decide
@[go_sem] theorem aMh:bits .and .i64 29 1=1:=by decide
@[go_sem] theorem aMg:bits .and .i64 29 2=0:=by decide
@[go_sem] theorem aMf:bits .and .i64 29 4=4:=by decide
@[go_sem] theorem aMe:bits .and .i64 29 8=8:=by decide
@[go_sem] theorem aLD:bits .and .i64 29 16=16:=by decide
@[go_sem] theorem aLC:bits .and .i64 29 32=0:=by decide
@[go_sem] theorem aLB:bits .and .i64 29 64=0:=by decide
@[go_sem] theorem aKC:bits .and .i64 29 128=0:=by decide
@[go_sem] theorem aLL:bits .and .i64 101 1=1:=by decide
@[go_sem] theorem aLK:bits .and .i64 101 2=0:=by decide
@[go_sem] theorem aLJ:bits .and .i64 101 4=4:=by decide
@[go_sem] theorem aLI:bits .and .i64 101 8=0:=by decide
@[go_sem] theorem aKI:bits .and .i64 101 16=0:=by decide
@[go_sem] theorem aKH:bits .and .i64 101 32=32:=by decide
@[go_sem] theorem aKG:bits .and .i64 101 64=64:=by decide
@[go_sem] theorem aKk:bits .and .i64 101 128=0:=by decide
@[go_sem] theorem aMd:bits .and .i64 37 1=1:=by decide
@[go_sem] theorem aMc:bits .and .i64 37 2=0:=by decide
@[go_sem] theorem aMb:bits .and .i64 37 4=4:=by decide
@[go_sem] theorem aMa:bits .and .i64 37 8=0:=by decide
@[go_sem] theorem aLA:bits .and .i64 37 16=0:=by decide
@[go_sem] theorem aLz:bits .and .i64 37 32=32:=by decide
@[go_sem] theorem aLy:bits .and .i64 37 64=0:=by decide
@[go_sem] theorem aKB:bits .and .i64 37 128=0:=by decide
@[go_sem] theorem aME:bits .and .i64 6 1=0:=by decide
@[go_sem] theorem aMD:bits .and .i64 6 2=2:=by decide
@[go_sem] theorem aMC:bits .and .i64 6 4=4:=by decide
@[go_sem] theorem aMB:bits .and .i64 6 8=0:=by decide
@[go_sem] theorem aLW:bits .and .i64 6 16=0:=by decide
@[go_sem] theorem aLV:bits .and .i64 6 32=0:=by decide
@[go_sem] theorem aLU:bits .and .i64 6 64=0:=by decide
@[go_sem] theorem aLw:bits .and .i64 6 128=0:=by decide
@[go_sem] theorem aLH:bits .and .i64 130 1=0:=by decide
@[go_sem] theorem aLG:bits .and .i64 130 2=2:=by decide
@[go_sem] theorem aLF:bits .and .i64 130 4=0:=by decide
@[go_sem] theorem aLE:bits .and .i64 130 8=0:=by decide
@[go_sem] theorem aKF:bits .and .i64 130 16=0:=by decide
@[go_sem] theorem aKE:bits .and .i64 130 32=0:=by decide
@[go_sem] theorem aKD:bits .and .i64 130 64=0:=by decide
@[go_sem] theorem aKj:bits .and .i64 130 128=128:=by decide
theorem iD (k:Int):k=1 ∨ k=2 ∨ k=3 ∨ k=4 ∨ k=5 ∨ k=6 ∨ ¬ (1≤k∧k≤6):=by omega
theorem eF (k:Int) (w:World):Calls Tryz.prog 141 #[.int .i64 k] w fun e w'=>e=.returned (.int .i64 (jJ k))∧w=w':=by
 rcases iD k with rfl | rfl | rfl | rfl | rfl | rfl | h
 case inr.inr.inr.inr.inr.inr =>
  rw [aBB h]
  have d1:decide (k=1)=false:=decide_eq_false (by omega)
  have d2:decide (k=2)=false:=decide_eq_false (by omega)
  have d3:decide (k=3)=false:=decide_eq_false (by omega)
  have d4:decide (k=4)=false:=decide_eq_false (by omega)
  have d5:decide (k=5)=false:=decide_eq_false (by omega)
  have d6:decide (k=6)=false:=decide_eq_false (by omega)
  have e1:(k == 1)=false:=by simp;omega
  have e2:(k == 2)=false:=by simp;omega
  have e3:(k == 3)=false:=by simp;omega
  have e4:(k == 4)=false:=by simp;omega
  have e5:(k == 5)=false:=by simp;omega
  have e6:(k == 6)=false:=by simp;omega
  clear h
  go_enter Tryz.func141,Tryz.ntmps141
  go_wp2_with fail
  go_ret
  exact ⟨rfl,rfl⟩
 all_goals (
  go_enter Tryz.func141,Tryz.ntmps141
  go_wp2_with fail
  go_ret
  exact ⟨rfl,rfl⟩)
theorem aP (u:Bool) (n lo hi:Int) (w:World):Calls Tryz.prog 142 #[.bool u,.int .i64 n,.int .i64 lo,.int .i64 hi] w fun e w'=>e=.returned (.bool (aW u n lo hi))∧w=w':=by
 cases u with
 | false =>
  have HV:=zh (show aW false n lo hi=decide (n=0) from rfl)
  by_cases h0:n=0
  ·subst h0
   go_enter Tryz.func142,Tryz.ntmps142
   go_wp2_with fail
   go_ret
   exact ⟨by rw [HV.out];rfl,rfl⟩
  have d1:decide (n=0)=false:=decide_eq_false h0
  have d2:(n == 0)=false:=by simp;omega
  have HW:=zh (show aW false n lo hi=false by rw [HV.out,d1])
  clear h0 HV
  go_enter Tryz.func142,Tryz.ntmps142
  go_wp2_with fail
  go_ret
  exact ⟨by rw [HW.out];rfl,rfl⟩
 | true =>
  by_cases h1:lo≤n
  ·by_cases h2 : n ≤ hi
   ·have HV := zh (show aW true n lo hi = true from decide_eq_true ⟨h1, h2⟩)
    go_enter Tryz.func142,Tryz.ntmps142
    go_wp2_with fail
    go_ret
    exact ⟨by rw [HV.out];rfl,rfl⟩
   have HV:=zh (show aW true n lo hi=false from decide_eq_false (by omega))
   have d2:decide (n≤hi)=false:=decide_eq_false h2
   clear h2
   go_enter Tryz.func142,Tryz.ntmps142
   go_wp2_with fail
   go_ret
   exact ⟨by rw [HV.out];rfl,rfl⟩
  have HV:=zh (show aW true n lo hi=false from decide_eq_false (by omega))
  have d1:decide (lo≤n)=false:=decide_eq_false h1
  clear h1
  go_enter Tryz.func142,Tryz.ntmps142
  go_wp2_with fail
  go_ret
  exact ⟨by rw [HV.out];rfl,rfl⟩
end
section
open Go.RowKit
def zbs (n:Nat):List Value:=List.replicate n (.int .u8 0)
theorem oC (n:Nat):(zbs n).length=n:=by simp [zbs]
theorem aDY (n:Nat):madeCells (Value.int .u8 0).cells (n * 1)=(zbs n).toArray:=by
 apply Array.ext_getElem?
 intro j
 simp only [madeCells,zbs,Nat.mul_one,Array.getElem?_map,Value.cells,List.getElem?_toArray,List.getElem?_replicate]
 by_cases hj:j < n
 ·simp [hj,Array.getElem?_range,Nat.mod_one]
 simp [hj]
theorem aNl (n k:Nat) (h:n+k≤140737488355328) (w:World):(Instr.makeSlice 45 (.int .i64 (n:Int)) (.int .i64 ((n:Int)+(k:Int)))).run Tryz.prog w=.ok (.slice (some ⟨w.heap.size,0,none⟩) n (n+k)) (w.alloc (.cells (zbs (n+k)).toArray 5)):=by
 obtain ⟨i,hi,hz,hs,hby⟩:=bL.get
 have h:=run_make (P:=Tryz.prog) w 45 5 i (.int .u8 0) bL.ut hi hz .i64 .i64 n ((n:Int)+k) (by omega) (by omega) (by rw [hby];omega) (by omega)
 rw [hs,show ((n:Int)+k).toNat=n+k from by omega,aDY,show ((n:Int)).toNat=n from by omega] at h
 exact h
theorem yP {w:World} {base g cap n:Nat} {e:TypeId} {l:List UInt8} {cur:Array Value} (hh:w.heap[g]?=some (.cells cur e (0,0))) (hb:base≤g) (hl:l.length=n) (hc:n≤cap) (hm:cap≤140737488355328) (hs:cur.size=cap) (ht:cur.toList.take n=bcs l):OwnB w base e (some ⟨g,0,none⟩) n cap l :=
 ⟨by rw [aJ,hl,Nat.mul_one],.inr ⟨g,cap,cur,rfl,hb,hh,hc,by simp only [maxLen];omega,by omega,by rw [Nat.mul_one];exact ht⟩⟩
theorem aAK (A:Option Addr) (n c:Nat) (l:List UInt8) (k:Nat) (w:World) (h:SlB w A n c l) (hk:n+k≤140737488355328) :
  Calls Tryz.prog 250 #[.slice A n c,.int .i64 (k:Int)] w fun e w'=>∃ A',e=.returned (.slice A' n (n+k))∧OwnB w' w.heap.size 5 A' n (n+k) l∧Ext w w':=by
 have hmk:=aNl n k hk
 have HL:=zh h.len
 have HR:=zh (h.rd.ext ((Ext.refl w).alloc' (.cells (zbs (n+k)).toArray 5)))
 clear h
 go_enter Tryz.func250,Tryz.ntmps250
 go_wp2_with (with_reducible refine wpList_copy_splice rfl _ _ _ _ rfl 5 Tryz.underlying45 (by kernel_rfl) _ _ _ _ _ _ rfl rfl w.heap.size 0 (zbs (n+k)) 5 (heap_alloc_new w _) (bcs l) ?c1 ?c2 ?c3 (dT l) w.heap.size w ((Ext.refl w).alloc' _) (Nat.le_refl _) ?_)
 case c1=>rw [aJ,HL.out];exact (Nat.min_self n).symm
 case c2=>exact fun hp=>HR.out.src hp
 case c3=>rw [aJ,oC,HL.out];omega
 intro w1 hb1 he1
 go_wp2_with fail
 go_ret
 exact ⟨_,rfl,yP hb1.out (Nat.le_refl _) HL.out (by omega) hk (by rw [List.size_toArray,length_splice _ _ _ (by rw [aJ,oC,HL.out];omega),oC]) (by simp [splice,aJ,HL.out]),he1⟩
theorem aDe (k n j:Nat) (hj:j < k):(cK k n)[j]'(by rw [cW];exact hj)=UInt8.ofNat (n / 256 ^ (k - 1 - j) % 256):=by
 induction k generalizing n j with
 | zero=>omega
 | succ k ih =>
  simp only [cK]
  by_cases h:j < k
  ·rw [List.getElem_append_left (by rw [cW];exact h),ih _ _ h,Nat.div_div_eq_div_mul,show k+1 - 1 - j=(k - 1 - j)+1 from by omega,Nat.pow_succ,Nat.mul_comm 256]
  obtain rfl:j=k:=by omega
  rw [List.getElem_append_right (by rw [cW];omega)]
  simp [cW]
theorem qP (k n i:Nat) (hi:i < k):(cK k n).take (k - i)=(cK k n).take (k - (i+1)) ++ [toB ((n:Int) / 2 ^ (8 * i))]:=by
 rw [show k - i=k - (i+1)+1 from by omega,List.take_succ_eq_append_getElem (by rw [cW];omega),aDe _ _ _ (by omega)]
 congr 2
 rw [show k - 1 - (k - (i+1))=i from by omega,show (256:Nat)=2 ^ 8 from rfl,← Nat.pow_mul]
 unfold toB
 rw [show ((n:Int) / 2 ^ (8 * i))=((n / 2 ^ (8 * i):Nat):Int) from by simp]
 congr 1
theorem aIy {q wd n:Nat} {l:List UInt8} {v:UInt64} {A:Option Addr} {c:Nat} {w:World} {base:Nat} {e:TypeId} {z:Int} (h:OwnB w base e A (n+q+1) c (l ++ ((cK wd v.toNat).take q ++ [toB z]))) (kk:Nat) (hk:q=wd - (kk+1)) (hb:(cK wd v.toNat).take (wd - kk)=(cK wd v.toNat).take (wd - (kk+1)) ++ [toB ((v.toNat:Int) / 2 ^ (8 * kk))]) (hw:kk < wd) (hz:z=(v.toNat:Int) / 2 ^ (8 * kk)):OwnB w base e A (n+(wd - kk)) c (l ++ (cK wd v.toNat).take (wd - kk)):=by
 subst hk
 rw [hb,← hz,show n+(wd - kk)=n+(wd - (kk+1))+1 from by omega]
 exact h
theorem nA (A:Option Addr) (n c:Nat) (l:List UInt8) (v:UInt64) (wd:Nat) (hwd:wd≤8) (w:World) (h:SlB w A n c l) (hn:n≤140737488351232) :
  Calls Tryz.prog 220 #[.slice A n c,.int .u64 (un v),.int .i64 (wd:Int)] w fun e w'=>∃ A' c',e=.returned (.slice A' (n+wd) c')∧OwnB w' w.heap.size 5 A' (n+wd) c' (l ++ cK wd v.toNat)∧Ext w w':=by
 have k0:(0:Int)≤(wd:Int):=by omega
 have k1:(wd:Int)≤8:=by omega
 have hv0:=fH v
 have HV1:=zh (aKr v)
 have HS:=zh h
 clear h
 go_enter Tryz.func220,Tryz.ntmps220
 go_wp2_with fail
 refine (aAK A n c l wd _ HS.out (by omega)).mono ?_
 rintro e w1 ⟨A1,rfl,hO1,hE1⟩
 have HO1:=zh hO1
 have HE1:=zh hE1
 clear hO1 hE1
 go_wp2_with fail
 go_loopw [7,8] (fun x i wr=>∃ (j:Nat) (A2:Option Addr) (c2:Nat),j≤wd∧i=.int .i64 ((j:Int) - 1)∧x=.slice A2 (n+(wd - j)) c2∧OwnB wr w.heap.size 5 A2 (n+(wd - j)) c2 (l ++ (cK wd v.toNat).take (wd - j))∧Ext w wr) (fun _ i _=>(intOf i+1).toNat)
 case atStart=>exact ⟨wd,A1,n+wd,Nat.le_refl _,rfl,by simp,by simpa using HO1.out,HE1.out⟩
 case round =>
  obtain ⟨j,A2,c2,hj,rfl,rfl,hO,hE⟩:=hrel
  have HO:=zh hO
  have HE:=zh hE
  clear hO hE
  by_cases hlt:0 < j
  ·obtain ⟨i, rfl⟩ : ∃ i, j = i + 1 := ⟨j - 1, by omega⟩
   obtain ⟨kk,hkk⟩:∃ kk,kk=i:=⟨_,rfl⟩
   have HB:=zh (qP wd v.toNat kk (by omega))
   have HKK:=zh hkk
   clear hkk
   obtain ⟨q,hq⟩:∃ q,q=wd - (i+1):=⟨_,rfl⟩
   rw [← hq] at HO ⊢
   have HQ:=zh (show q=wd - (kk+1) from by rw [HKK.out];exact hq)
   have hq8:q≤8:=by omega
   clear hq
   rw [show ((i+1:Nat):Int) - 1=(i:Int) from by omega]
   have hi7:i=0 ∨ i=1 ∨ i=2 ∨ i=3 ∨ i=4 ∨ i=5 ∨ i=6 ∨ i=7:=by omega
   rcases hi7 with rfl | rfl | rfl | rfl | rfl | rfl | rfl | rfl
   all_goals (
    go_wp2_with (at_builtin;go_must (refine bR bL rfl (.tmp 21) (.tmp 27) rfl w.heap.size A2 _ c2 _ rfl (HO.out.alloc _) _ 1 1 [toB _] rfl (SlB.new1 _ _ _ _ _ rfl (bK _)) (by omega) (HE.out.alloc' _).size w (HE.out.alloc' _) ?_))
    intro A4 c4 w4 hO4 hE4 hs4
    have HO4:=zh (aIy hO4 kk HQ.out HB.out (by have:=HKK.out;omega) (by rw [HKK.out];simp [un]))
    clear hO4
    go_wp2_with fail
    go_roundw
    case rel=>exact ⟨kk,A4,c4,by have:=HKK.out;omega,by rw [HKK.out];go_num,by have:=HKK.out;have:=HQ.out;congr 1;omega,HO4.out,hE4⟩
    case measure=>simp [intOf])
  obtain rfl:j=0:=by omega
  have i1:((0:Nat):Int) - 1 < 0:=by omega
  go_wp2_with fail
  go_ret
  exact ⟨A2,c2,by simp,by have:=HO.out;rwa [Nat.sub_zero,List.take_of_length_le (by rw [cW];omega)] at this,HE.out⟩
end
section
open Go.RowKit
attribute [local go_sem ↓] Go.wp_at_zero Go.wp_at_succ
theorem kB (A:Option Addr) (n c:Nat) (l:List UInt8) (v:UInt64) (wd:Nat) (hwd1:1≤wd) (hwd:wd≤8) (w:World) (h:SlB w A n c l) (hn:n≤140737488351232) :
  Calls Tryz.prog 143 #[.slice A n c,.int .u64 (un v),.int .i64 (wd:Int)] w fun e w'=>∃ A' c',e=.returned (.slice A' (n+wd) c')∧OwnB w' w.heap.size 5 A' (n+wd) c' (l ++ cK wd v.toNat)∧Ext w w':=by
 have k0:(0:Int) < (wd:Int):=by omega
 have k1:(wd:Int)≤8:=by omega
 have hv0:=fH v
 have HV1:=zh (aKr v)
 have HS:=zh (h.ext ((Ext.refl w).alloc' (.cells #[] 5)))
 clear h
 go_enter Tryz.func143,Tryz.ntmps143
 go_wp2_with (at_builtin;go_must (refine bR bL rfl (.tmp 9) (.tmp 10) rfl w.heap.size _ 0 _ [] rfl (OwnB.made w w.heap.size #[] 0 _ rfl (Nat.le_refl _) (by omega) rfl) A n c l rfl HS.out (by omega) ((Ext.refl w).alloc' _).size w ((Ext.refl w).alloc' _) ?_))
 intro A1 c1 w1 hO1 hE1 hs1
 have HO1:=zh (show OwnB w1 w.heap.size 5 A1 n c1 l from by simpa using hO1)
 have HE1:=zh hE1
 clear hO1 hE1
 go_wp2_with fail
 go_loopw [7,8] (fun x i wr=>∃ (j:Nat) (A2:Option Addr) (c2:Nat),j≤wd∧i=.int .i64 ((j:Int) - 1)∧x=.slice A2 (n+(wd - j)) c2∧OwnB wr w.heap.size 5 A2 (n+(wd - j)) c2 (l ++ (cK wd v.toNat).take (wd - j))∧Ext w wr) (fun _ i _=>(intOf i+1).toNat)
 case atStart=>exact ⟨wd,A1,c1,Nat.le_refl _,rfl,by simp,by simpa using HO1.out,HE1.out⟩
 case round =>
  obtain ⟨j,A2,c2,hj,rfl,rfl,hO,hE⟩:=hrel
  have HO:=zh hO
  have HE:=zh hE
  clear hO hE
  by_cases hlt:0 < j
  ·obtain ⟨i, rfl⟩ : ∃ i, j = i + 1 := ⟨j - 1, by omega⟩
   obtain ⟨kk,hkk⟩:∃ kk,kk=i:=⟨_,rfl⟩
   have HB:=zh (qP wd v.toNat kk (by omega))
   have HKK:=zh hkk
   clear hkk
   obtain ⟨q,hq⟩:∃ q,q=wd - (i+1):=⟨_,rfl⟩
   rw [← hq] at HO ⊢
   have HQ:=zh (show q=wd - (kk+1) from by rw [HKK.out];exact hq)
   have hq8:q≤8:=by omega
   clear hq
   rw [show ((i+1:Nat):Int) - 1=(i:Int) from by omega]
   have hi7:i=0 ∨ i=1 ∨ i=2 ∨ i=3 ∨ i=4 ∨ i=5 ∨ i=6 ∨ i=7:=by omega
   rcases hi7 with rfl | rfl | rfl | rfl | rfl | rfl | rfl | rfl
   all_goals (
    go_wp2_with (at_builtin;go_must (refine bR bL rfl (.tmp 20) (.tmp 27) rfl w.heap.size A2 _ c2 _ rfl (HO.out.alloc _) _ 1 1 [toB _] rfl (SlB.new1 _ _ _ _ _ rfl (bK _)) (by omega) (HE.out.alloc' _).size w (HE.out.alloc' _) ?_))
    intro A4 c4 w4 hO4 hE4 hs4
    have HO4:=zh (aIy hO4 kk HQ.out HB.out (by have:=HKK.out;omega) (by rw [HKK.out];simp [un]))
    clear hO4
    go_wp2_with fail
    go_roundw
    case rel=>exact ⟨kk,A4,c4,by have:=HKK.out;omega,by rw [HKK.out];go_num,by have:=HKK.out;have:=HQ.out;congr 1;omega,HO4.out,hE4⟩
    case measure=>simp [intOf])
  obtain rfl:j=0:=by omega
  have i1:((0:Nat):Int) - 1 < 0:=by omega
  go_wp2_with fail
  go_ret
  exact ⟨A2,c2,by simp,by have:=HO.out;rwa [Nat.sub_zero,List.take_of_length_le (by rw [cW];omega)] at this,HE.out⟩
def beI (wd:Nat) (z:Int):List UInt8:=cK wd (z % 18446744073709551616).toNat
theorem iH (wd:Nat) (z:Int):(beI wd z).length=wd:=cW _ _
def uI (z:Int):UInt64:=UInt64.ofNat (z % 18446744073709551616).toNat
theorem nS (z:Int):IntKind.u64.wrap z=un (uI z):=by
 rw [IntKind.wrap_u64];unfold un uI;rw [UInt64.toNat_ofNat_of_lt' (by simp [UInt64.size];omega)];omega
theorem aDw (z:Int):(uI z).toNat=(z % 18446744073709551616).toNat:=by
 unfold uI;rw [UInt64.toNat_ofNat_of_lt' (by simp [UInt64.size];omega)]
theorem oO (A:Option Addr) (n c:Nat) (l:List UInt8) (z:Int) (wd:Nat) (hwd1:1≤wd) (hwd:wd≤8) (w:World) (h:SlB w A n c l) (hn:n≤140737488351232) :
  Calls Tryz.prog 86 #[.slice A n c,.int .i64 z,.int .i64 (wd:Int)] w fun e w'=>∃ A' c',e=.returned (.slice A' (n+wd) c')∧OwnB w' w.heap.size 5 A' (n+wd) c' (l ++ beI wd z)∧Ext w w':=by
 have hu:=nS z
 have HA:=zh (kB A n c l (uI z) wd hwd1 hwd w h hn)
 rw [aDw] at HA
 generalize uI z=u at *
 clear h
 go_enter Tryz.func86,Tryz.ntmps86
 go_wp2_with fail
 refine HA.out.mono ?_
 rintro e w1 ⟨A1,c1,rfl,hO,hE⟩
 go_wp2_with fail
 go_ret
 exact ⟨A1,c1,rfl,hO,hE⟩
theorem qY (A:Option Addr) (n c:Nat) (l:List UInt8) (v:UInt64) (w:World) (h:SlB w A n c l) (hn:n≤140737488351232) :
  Calls Tryz.prog 87 #[.slice A n c,.agg (nmc v)] w fun e w'=>∃ A' c',e=.returned (.slice A' (n+8) c')∧OwnB w' w.heap.size 5 A' (n+8) c' (l ++ nmb v)∧Ext w w':=by
 have hE0:=(Ext.refl w).alloc' (.cells (nmc v) 30)
 have HS:=zh (fun (W:World) (hW:Ext w W)=>h.ext hW)
 have HB:=zh (Blk.new w 30 (nmc v))
 have HE0:=zh hE0
 clear h hE0
 go_enter Tryz.func87,Tryz.ntmps87
 go_wp2_with fail
 go_region_law (first | (refine uA bL rfl (.tmp 5) (.tmp 6) rfl (w.heap.size+1) (some ⟨w.heap.size+1,0,none⟩) 0 0 [] (by rfl) (OwnB.drew (OwnB.made (w.alloc (.cells (nmc v) 30)) (w.heap.size+1) #[] 0 (w.heap.size+1) (by simp) (Nat.le_refl _) (by omega) rfl)) A n c l (by rfl) (HS.out _ ((HE0.out.alloc' _).drew')) (by omega) (by simp) ?_;intro A5 c5 w5 hO5 hg5;have hE5:=sR (w0:=w.alloc (.cells (nmc v) 30)) (OwnB.drew (OwnB.made (w.alloc (.cells (nmc v) 30)) (w.heap.size+1) #[] 0 (w.heap.size+1) (by simp) (Nat.le_refl _) (by omega) rfl)) (((Below.refl _ _).alloc (by simp) _).drew) (by simp) hg5;have HO5:=zh (show OwnB w5 (w.heap.size+1) 5 A5 n c5 l from by simpa using hO5);have HE5:=zh hE5;have HS5:=zh (SlB.blkN (HB.out.below hE5 (by omega)));clear hO5 hE5 hg5) | (refine uA bL rfl (.tmp 7) (.tmp 8) rfl (w.heap.size+1) A5 n c5 l (by rfl) HO5.out (some ⟨w.heap.size,0,none⟩) 8 8 (nmb v) (by rfl) HS5.out (by omega) (by have:=HE5.out.size;simpa using this) ?_;intro A6 c6 w6 hO6 hg6;have hE6:=sR HO5.out HE5.out (by have:=HE5.out.size;simpa using this) hg6;have HO6:=zh hO6;have HE6:=zh hE6;clear hO6 hg6 hE6))
 all_goals (
  go_wp2_with fail
  go_ret
  refine ⟨A6,c6,rfl,bB HO6.out (by omega),HE0.out.trans (HE6.out.mono (by simp))⟩)
end
section
open Go.RowKit
class RowT (α:Type) where
 sz:Nat
 z:α
 enc:α→List Value
 ok:α→World→Prop
 pos:0 < sz
 len:∀ x,(enc x).length=sz
 one:∀ x,∀ u ∈ enc x,u.oneCell'=true
 ext:∀ x w w',ok x w→Ext w w'→ok x w'
section
variable {α:Type} [RowT α]
def gcs (L:List α):List Value:=L.flatMap RowT.enc
theorem aFa:gcs ([]:List α)=[]:=rfl
theorem dD (x:α) (r:List α):gcs (x :: r)=RowT.enc x ++ gcs r:=by simp [gcs]
theorem jC (x:α):gcs [x]=RowT.enc x:=by simp [gcs]
theorem cH (a b:List α):gcs (a ++ b)=gcs a ++ gcs b:=by simp [gcs]
theorem aI (L:List α):(gcs L).length=L.length * RowT.sz α:=by
 induction L with
 | nil=>simp [gcs]
 | cons x r ih=>rw [dD,List.length_append,RowT.len,ih,List.length_cons,Nat.add_mul,Nat.one_mul,Nat.add_comm]
theorem cG (L:List α):∀ u ∈ gcs L,u.oneCell'=true:=by
 intro u hu
 simp only [gcs,List.mem_flatMap] at hu
 obtain ⟨x,_,h⟩:=hu
 exact RowT.one x u h
theorem eH (L:List α) (k:Nat):(gcs L).drop (k * RowT.sz α)=gcs (L.drop k):=by
 induction k generalizing L with
 | zero=>simp
 | succ k ih =>
  cases L with
  | nil=>simp [gcs]
  | cons n r =>
   rw [dD,List.drop_succ_cons,← ih r,show (k+1) * RowT.sz α=(RowT.enc n).length+k * RowT.sz α from by rw [RowT.len,Nat.add_mul,Nat.one_mul,Nat.add_comm],List.drop_append,List.drop_of_length_le (by omega)]
   simp
theorem iW (L:List α) (k:Nat):(gcs L).take (k * RowT.sz α)=gcs (L.take k):=by
 induction k generalizing L with
 | zero=>simp [gcs]
 | succ k ih =>
  cases L with
  | nil=>simp [gcs]
  | cons n r =>
   rw [dD,List.take_succ_cons,dD,← ih r,show (k+1) * RowT.sz α=(RowT.enc n).length+k * RowT.sz α from by rw [RowT.len,Nat.add_mul,Nat.one_mul,Nat.add_comm],List.take_append,List.take_of_length_le (by omega)]
   simp
def aH (L:List α) (k:Nat):α:=L.getD k (RowT.z)
theorem cF {L:List α} {k:Nat} (h:k < L.length):L[k]=aH L k:=by simp [aH,h]
theorem aIf {L:List α} {k:Nat} (h:k < L.length):((gcs L).drop (k * RowT.sz α)).take (RowT.sz α)=RowT.enc (aH L k):=by
 rw [eH,List.drop_eq_getElem_cons h,dD,List.take_append_of_le_length (by rw [RowT.len];omega),List.take_of_length_le (by rw [RowT.len];omega),cF h]
theorem gJ {L:List α} {k:Nat} (h:k < L.length):L.take (k+1)=L.take k ++ [aH L k]:=by
 rw [List.take_succ_eq_append_getElem h,cF h]
theorem iR {L:List α} {k:Nat} (h:k < L.length):aH L k ∈ L:=by
 rw [← cF h];exact List.getElem_mem _
structure SlG (w:World) (A:Option Addr) (n c:Nat) (L:List α):Prop where
 len:L.length=n
 le:n≤c
 cap:c≤9223372036854775807
 rd:Rd w A (gcs L)
 ok:∀ R,R ∈ L→RowT.ok R w
variable {w w':World} {A:Option Addr} {n c:Nat} {L:List α}
theorem SlG.ext (h:SlG w A n c L) (e:Ext w w'):SlG w' A n c L:=⟨h.len,h.le,h.cap,h.rd.ext e,fun R hR=>RowT.ext _ _ _ (h.ok R hR) e⟩
theorem SlG.at (h:SlG w A n c L) (hn:0 < n):∃ b o,A=some ⟨b,o,none⟩∧w.rangeAt b o (gcs L)∧b < w.heap.size :=
 h.rd.at (by
  intro e
  have:=congrArg List.length e
  rw [aI,h.len] at this
  have:=Nat.mul_pos hn (RowT.pos (α:=α))
  simp at *;omega)
theorem SlG.nil (w:World):SlG w none 0 0 ([]:List α):=⟨rfl,Nat.le_refl _,Nat.zero_le _,.nil,fun R hR=>by cases hR⟩
theorem SlG.nth (h:SlG w A n c L) {k:Nat} (hk:k < n):RowT.ok (aH L k) w:=h.ok _ (iR (by rw [h.len];exact hk))
theorem cO {b o k:Nat} (h:w.rangeAt b o (gcs L)) (hk:k < L.length):w.rangeAt b (o+k * RowT.sz α) (RowT.enc (aH L k)):=by
 have h1:=aO (k:=RowT.sz α) (bD (k:=k * RowT.sz α) h)
 rwa [aIf hk] at h1
theorem SlG.upto (h:SlG w A n c L) {k c':Nat} (hk:k≤n) (hc:k≤c') (hc':c'≤9223372036854775807):SlG w A k c' (L.take k):=by
 refine ⟨by rw [List.length_take,h.len];omega,hc,hc',?_,fun R hR=>h.ok R (List.mem_of_mem_take hR)⟩
 rw [← iW];exact h.rd.take _
theorem SlG.cut (h:SlG w A n c L) {k:Nat} (hk:k≤n) (hkc:k < c):SlG w (A.map (·.add (k * RowT.sz α))) (n - k) (c - k) (L.drop k):=by
 refine ⟨by rw [List.length_drop,h.len],by have:=h.le;omega,by have:=h.cap;omega,?_,fun R hR=>h.ok R (List.mem_of_mem_drop hR)⟩
 have:=h.rd.cut (n:=n) (k:=k) (c:=c) (size:=RowT.sz α) (by rw [aI,h.len]) hk h.le
 rwa [if_neg (by omega),eH] at this
def OwnG (w:World) (base:Nat) (e:TypeId) (A:Option Addr) (n c:Nat) (L:List α):Prop:=w.ownsRow base e (RowT.sz α) (.slice A n c) n (gcs L)
section
variable {base:Nat} {e:TypeId}
theorem OwnG.len (h:OwnG w base e A n c L):L.length=n:=by
 have:=h.1;rw [aI] at this;exact Nat.eq_of_mul_eq_mul_right RowT.pos this
theorem OwnG.sl (h:OwnG w base e A n c L) (ok:∀ R,R ∈ L→RowT.ok R w):SlG w A n c L:=by
 obtain ⟨h1,h2⟩:=dY h
 exact ⟨h.len,h1,h2,Rd.of_own h,ok⟩
theorem OwnG.nil (w:World) (base:Nat) (e:TypeId):OwnG w base e none 0 0 ([]:List α):=World.ownsRow_nil w base e _
theorem OwnG.ext (h:OwnG w base e A n c L) (he:Ext w w'):OwnG w' base e A n c L:=bF h he
theorem OwnG.mono {base':Nat} (h:OwnG w base e A n c L) (hb:base'≤base):OwnG w base' e A n c L:=bB h hb
end
theorem aKY {sz:Nat} (hsz:RowT.sz α=sz) {b o:Nat}:∀ (n:Nat),(∀ j,j < n→∃ y:α,w.rangeAt b (o+j * sz) (RowT.enc y)∧RowT.ok y w)→∃ L:List α,L.length=n∧w.rangeAt b o (gcs L)∧∀ R,R ∈ L→RowT.ok R w:=by
 intro n
 subst hsz
 induction n with
 | zero=>intro _;exact ⟨[],rfl,fun j v hv=>by simp [gcs] at hv,fun R hR=>by cases hR⟩
 | succ n ih =>
  intro h
  obtain ⟨L,hL,hr,hok⟩:=ih (fun j hj=>h j (by omega))
  obtain ⟨y,hy,hyo⟩:=h n (by omega)
  refine ⟨L ++ [y],by simp [hL],?_,?_⟩
  ·rw [cH, jC]
   refine jN hr ?_
   rw [aI,hL];exact hy
  intro R hR
  rcases List.mem_append.1 hR with hR | hR
  ·exact hok R hR
  rw [List.mem_singleton.1 hR];exact hyo
end
def Grw (w w':World):Prop:=Ext w w'∧w.drawn≤w'.drawn
theorem Grw.refl (w:World):Grw w w:=⟨Ext.refl w,Nat.le_refl _⟩
theorem Grw.ext {w w':World} (h:Grw w w'):Ext w w':=h.1
theorem Grw.trans {a b c:World} (h:Grw a b) (k:Grw b c):Grw a c:=⟨h.1.trans k.1,Nat.le_trans h.2 k.2⟩
theorem Grw.drew {a b:World} (h:Grw a b):Grw a b.drew:=⟨h.1.drew',by have:=h.2;show a.drawn≤b.drawn+1;omega⟩
theorem Grw.drewN {a b:World} (h:Grw a b) (n:Nat):Grw a (b.drewN n):=⟨⟨h.1.os,h.1.tape,h.1.output,h.1.size,h.1.block⟩,by have:=h.2;show a.drawn≤b.drawn+n;omega⟩
theorem Grw.alloc {a b:World} (h:Grw a b) (o:Obj):Grw a (b.alloc o):=⟨h.1.alloc' o,h.2⟩
theorem Grw.set {a b:World} (h:Grw a b) {p:Addr} (hp:a.heap.size≤p.block) (u:Value):Grw a (b.setCell p u):=⟨h.1.setCell hp u,h.2⟩
theorem Grw.grow {a b:World} (h:Grw a b):∃ q os,b=Sort.grow (a.drewN q) os:=by
 obtain ⟨⟨h1,h2,h3,h4,h5⟩,h6⟩:=h
 refine ⟨b.drawn - a.drawn,b.heap.extract a.heap.size b.heap.size,?_⟩
 obtain ⟨bh,bt,bd,bo,bu⟩:=b
 obtain ⟨ah,at',ad,ao,au⟩:=a
 simp only at h1 h2 h3 h4 h5 h6
 subst h1;subst h2;subst h3
 simp only [Sort.grow,World.drewN,World.mk.injEq,true_and,and_true]
 refine ⟨?_,by omega⟩
 apply Array.ext_getElem?
 intro i
 by_cases hi:i < ah.size
 ·rw [Array.getElem?_append_left hi,h5 i hi]
 rw [Array.getElem?_append_right (by omega)]
 simp [Array.getElem?_extract]
 by_cases hb:i < bh.size
 ·rw [if_pos (by omega),show ah.size+(i - ah.size)=i from by omega]
 rw [if_neg (by omega)];simp;omega
end
section
open Go.RowKit
attribute [local go_sem ↓] Go.wp_at_zero Go.wp_at_succ
structure VtR where
 k:Int
 sl:Int
 ro:Int
 ch:Int
 si:Int
 su:Int
 pa:UInt64
 va:UInt64
deriving DecidableEq
def wfI (z:Int):Prop:=(Lit.int .i64 z).wf=true
structure VtR.wf (v:VtR):Prop where
 k:wfI v.k
 sl:wfI v.sl
 ro:wfI v.ro
 ch:wfI v.ch
 si:wfI v.si
 su:wfI v.su
abbrev vtA (v:VtR):Array Value:=#[.int .i64 v.k,.int .i64 v.sl,.int .i64 v.ro,.int .i64 v.ch,.int .i64 v.si,.int .i64 v.su,.int .u8 (nb8 v.pa 0),.int .u8 (nb8 v.pa 1),.int .u8 (nb8 v.pa 2),.int .u8 (nb8 v.pa 3),.int .u8 (nb8 v.pa 4),.int .u8 (nb8 v.pa 5),.int .u8 (nb8 v.pa 6),.int .u8 (nb8 v.pa 7),.int .u8 (nb8 v.va 0),.int .u8 (nb8 v.va 1),.int .u8 (nb8 v.va 2),.int .u8 (nb8 v.va 3),.int .u8 (nb8 v.va 4),.int .u8 (nb8 v.va 5),.int .u8 (nb8 v.va 6),.int .u8 (nb8 v.va 7)]
def vtL (v:VtR):List Value:=(vtA v).toList
theorem oF (v:VtR):(vtL v).length=22:=rfl
theorem aEE (v:VtR):(vtL v).toArray=vtA v:=rfl
theorem aED (v:VtR):∀ u ∈ vtL v,u.oneCell'=true:=by
 intro u hu
 simp only [vtL,List.mem_cons,List.not_mem_nil,or_false] at hu
 rcases hu with rfl | rfl | rfl | rfl | rfl | rfl | rfl | rfl | rfl | rfl | rfl | rfl | rfl | rfl | rfl | rfl | rfl | rfl | rfl | rfl | rfl | rfl <;> rfl
theorem zL (v:VtR):(vtA v).all (·.oneCell')=true:=all_oneCell_toArray (aED v)
instance:RowT VtR where
 sz:=22
 z:=⟨0,0,0,0,0,0,0,0⟩
 enc:=vtL
 ok v w:=v.wf
 pos:=by decide
 len:=oF
 one:=aED
 ext _ _ _ h _:=h
structure SgR where
 v:VtR
 A:Option Addr
 n:Nat
 c:Nat
 sig:List UInt8
abbrev sgA (S:SgR):Array Value:=#[.int .i64 S.v.k,.int .i64 S.v.sl,.int .i64 S.v.ro,.int .i64 S.v.ch,.int .i64 S.v.si,.int .i64 S.v.su,.int .u8 (nb8 S.v.pa 0),.int .u8 (nb8 S.v.pa 1),.int .u8 (nb8 S.v.pa 2),.int .u8 (nb8 S.v.pa 3),.int .u8 (nb8 S.v.pa 4),.int .u8 (nb8 S.v.pa 5),.int .u8 (nb8 S.v.pa 6),.int .u8 (nb8 S.v.pa 7),.int .u8 (nb8 S.v.va 0),.int .u8 (nb8 S.v.va 1),.int .u8 (nb8 S.v.va 2),.int .u8 (nb8 S.v.va 3),.int .u8 (nb8 S.v.va 4),.int .u8 (nb8 S.v.va 5),.int .u8 (nb8 S.v.va 6),.int .u8 (nb8 S.v.va 7),.slice S.A S.n S.c]
def sgL (S:SgR):List Value:=(sgA S).toList
theorem aDG (S:SgR):(sgL S).length=23:=rfl
theorem tF (v:SgR):∀ u ∈ sgL v,u.oneCell'=true:=by
 intro u hu
 simp only [sgL,List.mem_cons,List.not_mem_nil,or_false] at hu
 rcases hu with rfl | rfl | rfl | rfl | rfl | rfl | rfl | rfl | rfl | rfl | rfl | rfl | rfl | rfl | rfl | rfl | rfl | rfl | rfl | rfl | rfl | rfl | rfl <;> rfl
theorem aEN (v:SgR):(sgA v).all (·.oneCell')=true:=all_oneCell_toArray (tF v)
structure SgR.ok (S:SgR) (w:World):Prop where
 v:S.v.wf
 sig:SlB w S.A S.n S.c S.sig
theorem SgR.ok.ext {S:SgR} {w w':World} (h:S.ok w) (e:Ext w w'):S.ok w':=⟨h.v,h.sig.ext e⟩
instance:RowT SgR where
 sz:=23
 z:=⟨⟨0,0,0,0,0,0,0,0⟩,none,0,0,[]⟩
 enc:=sgL
 ok S w:=S.ok w
 pos:=by decide
 len:=aDG
 one:=tF
 ext _ _ _ h e:=h.ext e
section
variable {o:Oper} {a:Act} {w:World} {ops:Array Oper} {rest:List Oper} {Q:Exit→Act→World→Prop}
theorem kJ (hgd:o.guard=none) (x:Operand) (ho:o.op=.load 134 x) (b of:Nat) (hx:a.eval x=.pointer (some ⟨b,of,none⟩)) (R:VtR) (hc:w.rangeAt b of (vtL R))
  (h:wpList Tryz.prog ops Q rest (a.put o.dst (.agg (vtA R))) w):wpList Tryz.prog ops Q (o :: rest) a w:=by
 have:=wpList_load_mid (P:=Tryz.prog) (Q:=Q) (ops:=ops) (rest:=rest) hgd 134 x ho b of hx (vtL R) _ hc Tryz.underlying134 rfl (by rw [oF];kernel_rfl)
 rw [aEE] at this
 exact this h
theorem pF (hgd:o.guard=none) (x y:Operand) (ho:o.op=.store 134 x y) (cs:Array Value) (hcs:cs.size=22) (R:VtR) (hx:a.eval x=.pointer (some ⟨w.heap.size,0,none⟩)) (hy:a.eval y=.agg (vtA R))
  (h:wpList Tryz.prog ops Q rest (a.put o.dst undef) (w.alloc (.cells (vtA R) 134))):wpList Tryz.prog ops Q (o :: rest) a (w.alloc (.cells cs 134)):=by
 have ht:=aK (Blk.new w 134 cs)
 rw [hcs] at ht
 refine wpList_store_mid hgd 134 x y ho w.heap.size 0 (vtA R) hx hy ht (by kernel_rfl) (zL R) ?_
 rw [dO w 134 cs (vtA R) (by rw [hcs];rfl)]
 exact h
end
theorem pI (x:Int) (hx:wfI x):Tryz.prog.keyLits 2 3 [.int .i64 x]=some [.int .i64 x]:=by
 unfold Program.keyLits
 rw [Tryz.underlying3]
 simp only
 rw [if_pos ⟨trivial,hx⟩]
theorem aGN (x:Int) (hx:wfI x):Tryz.prog.keyLits 2 42 [.int .i64 x]=some [.int .i64 x]:=by
 unfold Program.keyLits
 rw [Tryz.underlying42]
 simp only
 rw [if_pos ⟨trivial,hx⟩]
def vtK (v:VtR):List Lit:=[.int .i64 v.k,.int .i64 v.sl,.int .i64 v.ro,.int .i64 v.ch,.int .i64 v.si,.int .i64 v.su] ++ ((nmb v.pa).map nO ++ (nmb v.va).map nO)
def vtC (v:VtR):List Value:=[.int .i64 v.k,.int .i64 v.sl,.int .i64 v.ro,.int .i64 v.ch,.int .i64 v.si,.int .i64 v.su] ++ (bcs (nmb v.pa) ++ bcs (nmb v.va))
theorem aMi (v:VtR):vtL v=vtC v:=by unfold vtC;rw [dU,dU];rfl
theorem aIM {a b:VtR} (h:vtK a=vtK b):a=b:=by
 unfold vtK at h
 simp only [List.cons_append,List.nil_append,List.cons.injEq,Lit.int.injEq,true_and] at h
 obtain ⟨h1,h2,h3,h4,h5,h6,h7⟩:=h
 have h8:=List.append_inj h7 (by simp [aG])
 have h9:=kY h8.1
 have h10:=kY h8.2
 cases a;cases b
 simp only at *
 subst h1;subst h2;subst h3;subst h4;subst h5;subst h6;subst h9;subst h10
 rfl
theorem aMs (v:VtR) (h:v.wf):Tryz.prog.keyLits 3 134 (vtC v)=some (vtK v):=by
 obtain ⟨h1,h2,h3,h4,h5,h6⟩:=h
 have c1:Tryz.prog.cellsOf 3=1:=by kernel_rfl
 have cm:Tryz.prog.cellsOf 42=1:=by kernel_rfl
 have c22:Tryz.prog.cellsOf 134=22:=by kernel_rfl
 have hp:(bcs (nmb v.pa)).length=8:=by rw [aJ,aG]
 have hv:(bcs (nmb v.va)).length=8:=by rw [aJ,aG]
 have t8:(bcs (nmb v.pa) ++ bcs (nmb v.va)).take 8=bcs (nmb v.pa):=by rw [← hp];exact List.take_left
 have d8:(bcs (nmb v.pa) ++ bcs (nmb v.va)).drop 8=bcs (nmb v.va):=by rw [← hp];exact List.drop_left
 have t8':(bcs (nmb v.va)).take 8=bcs (nmb v.va):=List.take_of_length_le (by omega)
 have hl:(vtC v).length=22:=by unfold vtC;rw [List.length_append,List.length_append,hp,hv];rfl
 unfold Program.keyLits
 rw [Tryz.underlying134]
 simp only
 rw [if_pos ⟨by rw [hl,c22],by kernel_rfl⟩]
 simp only [List.mapM_cons,List.mapM_nil,c1,cm,rP,vtC,List.cons_append,List.nil_append,List.drop_zero,List.drop_succ_cons,List.take_succ_cons,List.take_zero,pI _ h1,pI _ h2,pI _ h3,pI _ h4,pI _ h5,aGN _ h6,t8,d8,t8',aEY]
 simp [vtK]
theorem aJH (a b:VtR) (ha:a.wf) (hb:b.wf) (w:World):(Op.equalIn 10000 134 (.agg (vtA a)) (.agg (vtA b))).run Tryz.prog w=.ok (decide (a=b)) w:=by
 have hE:=run_equalIn_deep (P:=Tryz.prog) 9997 3 134 (by kernel_rfl)
 have hfm:∀ v:VtR,(Value.agg (vtA v)).formed Tryz.prog 134=true:=fun v=>by
  have c22:Tryz.prog.cellsOf 134=22:=by kernel_rfl
  simp [Value.formed,Tryz.underlying134,c22]
 have hk:∀ v:VtR,v.wf→Tryz.prog.keyLits 3 134 (Value.agg (vtA v)).cells.toList=some (vtK v):=fun v h=>by
  show Tryz.prog.keyLits 3 _ (vtL v)=_
  rw [aMi];exact aMs v h
 obtain ⟨r,hr,hiff⟩:=hE w 3 3 _ _ _ _ (hfm a) (hfm b) (hk a ha) (hk b hb)
 have hr':(Op.equalIn 10000 134 (.agg (vtA a)) (.agg (vtA b))).run Tryz.prog w=.ok r w:=hr
 rw [hr']
 have:r=decide (a=b):=by
  by_cases h:a=b
  ·subst h;simp [hiff.2 rfl]
  have:r ≠ true:=fun e=>h (aIM (hiff.1 e))
  simp [h,this]
 rw [this]
theorem aHk (a b:VtR) (ha:a.wf) (hb:b.wf) (w:World):(binOp .eql 134 (.agg (vtA a)) (.agg (vtA b))).run Tryz.prog w=.ok (.bool (decide (a=b))) w:=by
 rw [run_eql_struct,aJH a b ha hb w]
 rfl
end
end Go.Proofs.YtohmmcahpakokaaGreat
