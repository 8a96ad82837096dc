import Derived.Deep.Cut
import Derived.Shelf.SlLaysF0
import Derived.Test.YtgmnmjeccfnmbaaGreatProg
import Derived.DeepKeys4
import Derived.Maps.Own
import Derived.Lib.LazyBuf
import Derived.Test.YtgmnmjeccfnmbaaGreatE04
import Derived.Test.YtgmnmjeccfnmbaaGreatEL
set_option maxRecDepth 100000
set_option maxHeartbeats 8000000
set_option linter.unusedSectionVars false
set_option linter.unusedVariables false
set_option linter.unusedSimpArgs false
namespace Go.Proofs.YtgmnmjeccfnmbaaGreat
open Go.Proofs.Tryz
section
open Go.RowKit
attribute [local go_sem ↓] Go.wp_at_zero Go.wp_at_succ
theorem aIa {R:OpR} (h:¬ (1≤R.k∧R.k≤6)):vOp R=false:=by unfold vOp;rw [decide_eq_false h,Bool.false_and]
theorem dN:nmc 0=#[.int .u8 0,.int .u8 0,.int .u8 0,.int .u8 0,.int .u8 0,.int .u8 0,.int .u8 0,.int .u8 0]:=vM.symm
theorem jK (b1 b2 b3 b4 b5 b6 b7 b8:Bool):b1=false ∨ (b1=true∧b2=false) ∨ (b1=true∧b2=true∧b3=false) ∨ (b1=true∧b2=true∧b3=true∧b4=false) ∨ (b1=true∧b2=true∧b3=true∧b4=true∧b5=false) ∨ (b1=true∧b2=true∧b3=true∧b4=true∧b5=true∧b6=false) ∨ (b1=true∧b2=true∧b3=true∧b4=true∧b5=true∧b6=true∧b7=false) ∨ (b1=true∧b2=true∧b3=true∧b4=true∧b5=true∧b6=true∧b7=true∧b8=false) ∨ (b1=true∧b2=true∧b3=true∧b4=true∧b5=true∧b6=true∧b7=true∧b8=true):=by
 cases b1 <;> simp
 cases b2 <;> simp
 cases b3 <;> simp
 cases b4 <;> simp
 cases b5 <;> simp
 cases b6 <;> simp
 cases b7 <;> simp
theorem aEs (R:OpR) (h:¬ (1≤R.k∧R.k≤6)) (w:World) :
  Calls prog 113 #[.agg (opA R)] w fun e w'=>e=.returned (.bool false)∧Ext w w':=by
 have HU:=zh (fun W=>eX R.k W)
 rw [aCw h] at HU
 have HE:=zh ((Ext.refl w).alloc' (.cells (opA R) 52))
 clear h
 go_enter func113,ntmps113
 simp only [iM,kC]
 go_wp2_with (go_at_call 168;(with_reducible refine (HU.out _).mono ?_);rintro e wv ⟨rfl,rfl⟩)
 go_ret
 exact ⟨rfl,HE.out⟩
theorem aGI (R:OpR) (h:R.k=1) (w:World) (hR:R.ok w) :
  Calls prog 113 #[.agg (opA R)] w fun e w'=>e=.returned (.bool (vOp R))∧Ext w w':=by
 have HU:=zh (fun W=>eX R.k W)
 rw [show kV R.k=5 from ew] at HU
 have l1:(R.n1:Int)≤9223372036854775807:=ec
 have l2:(R.n2:Int)≤9223372036854775807:=eb
 obtain ⟨b1,e1⟩:=gx (cQ true R.tO 0 15)
 have H1:=zh (fun W=>aW true R.tO 0 15 W)
 rw [e1] at H1
 obtain ⟨b2,e2⟩:=gx (cQ true R.am 1 1099511627776)
 have H2:=zh (fun W=>aW true R.am 1 1099511627776 W)
 rw [e2] at H2
 obtain ⟨b3,e3⟩:=gx (cQ false R.ul 1 1000)
 have H3:=zh (fun W=>aW false R.ul 1 1000 W)
 rw [e3] at H3
 obtain ⟨b4,e4⟩:=gx (cQ false R.va 0 9)
 have H4:=zh (fun W=>aW false R.va 0 9 W)
 exact tq
theorem aGH (R:OpR) (h:R.k=2) (w:World) (hR:R.ok w) :
  Calls prog 113 #[.agg (opA R)] w fun e w'=>e=.returned (.bool (vOp R))∧Ext w w':=by
 have HU:=zh (fun W=>eX R.k W)
 rw [show kV R.k=29 from ew] at HU
 have l1:(R.n1:Int)≤9223372036854775807:=ec
 have l2:(R.n2:Int)≤9223372036854775807:=eb
 obtain ⟨b1,e1⟩:=gx (cQ true R.tO 0 15)
 have H1:=zh (fun W=>aW true R.tO 0 15 W)
 rw [e1] at H1
 obtain ⟨b2,e2⟩:=gx (cQ true R.am 1 1099511627776)
 have H2:=zh (fun W=>aW true R.am 1 1099511627776 W)
 rw [e2] at H2
 obtain ⟨b3,e3⟩:=gx (cQ true R.ul 1 1000)
 have H3:=zh (fun W=>aW true R.ul 1 1000 W)
 rw [e3] at H3
 obtain ⟨b4,e4⟩:=gx (cQ false R.va 0 9)
 have H4:=zh (fun W=>aW false R.va 0 9 W)
 rw [e4] at H4
 obtain ⟨b5,e5⟩:=gx (cQ false (R.n1:Int) 0 32)
 have H5:=zh (fun W=>aW false (R.n1:Int) 0 32 W)
 rw [e5] at H5
 obtain ⟨b6,e6⟩:=gx (cQ false (R.n2:Int) 1 2000)
 have H6:=zh (fun W=>aW false (R.n2:Int) 1 2000 W)
 rw [e6] at H6
 have E7:=zh (fun W=>cE R.hs 0 W)
 have E8:=zh (fun W=>cE R.lk 0 W)
 obtain ⟨b7,e7⟩:=gx (true)
 obtain ⟨b8,e8⟩:=gx (decide (R.lk=0))
 have HV:=zh (show vOp R=(b1 && (b2 && (b3 && (b4 && (b5 && (b6 && (b7 && b8))))))) by
  exact Bi)
 exact ub
theorem aGG (R:OpR) (h:R.k=3) (w:World) (hR:R.ok w) :
  Calls prog 113 #[.agg (opA R)] w fun e w'=>e=.returned (.bool (vOp R))∧Ext w w':=by
 have HU:=zh (fun W=>eX R.k W)
 rw [show kV R.k=101 from ew] at HU
 have l1:(R.n1:Int)≤9223372036854775807:=ec
 have l2:(R.n2:Int)≤9223372036854775807:=eb
 obtain ⟨b1,e1⟩:=gx (cQ true R.tO 0 15)
 have H1:=zh (fun W=>aW true R.tO 0 15 W)
 rw [e1] at H1
 obtain ⟨b2,e2⟩:=gx (cQ true R.am 1 1099511627776)
 have H2:=zh (fun W=>aW true R.am 1 1099511627776 W)
 rw [e2] at H2
 obtain ⟨b3,e3⟩:=gx (cQ false R.ul 1 1000)
 have H3:=zh (fun W=>aW false R.ul 1 1000 W)
 rw [e3] at H3
 obtain ⟨b4,e4⟩:=gx (cQ false R.va 0 9)
 have H4:=zh (fun W=>aW false R.va 0 9 W)
 rw [e4] at H4
 obtain ⟨b5,e5⟩:=gx (cQ true (R.n1:Int) 0 32)
 have H5:=zh (fun W=>aW true (R.n1:Int) 0 32 W)
 exact tu
theorem aGF (R:OpR) (h:R.k=4) (w:World) (hR:R.ok w) :
  Calls prog 113 #[.agg (opA R)] w fun e w'=>e=.returned (.bool (vOp R))∧Ext w w':=by
 have HU:=zh (fun W=>eX R.k W)
 rw [show kV R.k=37 from ew] at HU
 have l1:(R.n1:Int)≤9223372036854775807:=ec
 have l2:(R.n2:Int)≤9223372036854775807:=eb
 obtain ⟨b1,e1⟩:=gx (cQ true R.tO 0 15)
 have H1:=zh (fun W=>aW true R.tO 0 15 W)
 rw [e1] at H1
 obtain ⟨b2,e2⟩:=gx (cQ true R.am 1 1099511627776)
 have H2:=zh (fun W=>aW true R.am 1 1099511627776 W)
 rw [e2] at H2
 obtain ⟨b3,e3⟩:=gx (cQ false R.ul 1 1000)
 have H3:=zh (fun W=>aW false R.ul 1 1000 W)
 rw [e3] at H3
 obtain ⟨b4,e4⟩:=gx (cQ false R.va 0 9)
 have H4:=zh (fun W=>aW false R.va 0 9 W)
 rw [e4] at H4
 obtain ⟨b5,e5⟩:=gx (cQ false (R.n1:Int) 0 32)
 have H5:=zh (fun W=>aW false (R.n1:Int) 0 32 W)
 exact tu
theorem aGE (R:OpR) (h:R.k=5) (w:World) (hR:R.ok w) :
  Calls prog 113 #[.agg (opA R)] w fun e w'=>e=.returned (.bool (vOp R))∧Ext w w':=by
 have HU:=zh (fun W=>eX R.k W)
 rw [show kV R.k=6 from ew] at HU
 have l1:(R.n1:Int)≤9223372036854775807:=ec
 have l2:(R.n2:Int)≤9223372036854775807:=eb
 obtain ⟨b1,e1⟩:=gx (cQ false R.tO 0 15)
 have H1:=zh (fun W=>aW false R.tO 0 15 W)
 rw [e1] at H1
 obtain ⟨b2,e2⟩:=gx (cQ true R.am 1 1099511627776)
 have H2:=zh (fun W=>aW true R.am 1 1099511627776 W)
 rw [e2] at H2
 obtain ⟨b3,e3⟩:=gx (cQ false R.ul 1 1000)
 have H3:=zh (fun W=>aW false R.ul 1 1000 W)
 rw [e3] at H3
 obtain ⟨b4,e4⟩:=gx (cQ true R.va 0 9)
 have H4:=zh (fun W=>aW true R.va 0 9 W)
 exact tq
theorem aGD (R:OpR) (h:R.k=6) (w:World) (hR:R.ok w) :
  Calls prog 113 #[.agg (opA R)] w fun e w'=>e=.returned (.bool (vOp R))∧Ext w w':=by
 have HU:=zh (fun W=>eX R.k W)
 rw [show kV R.k=130 from ew] at HU
 have l1:(R.n1:Int)≤9223372036854775807:=ec
 have l2:(R.n2:Int)≤9223372036854775807:=eb
 obtain ⟨b1,e1⟩:=gx (cQ false R.tO 0 15)
 have H1:=zh (fun W=>aW false R.tO 0 15 W)
 rw [e1] at H1
 obtain ⟨b2,e2⟩:=gx (cQ false R.am 1 1099511627776)
 have H2:=zh (fun W=>aW false R.am 1 1099511627776 W)
 rw [e2] at H2
 obtain ⟨b3,e3⟩:=gx (cQ false R.ul 1 1000)
 have H3:=zh (fun W=>aW false R.ul 1 1000 W)
 rw [e3] at H3
 obtain ⟨b4,e4⟩:=gx (cQ true R.va 0 9)
 have H4:=zh (fun W=>aW true R.va 0 9 W)
 rw [e4] at H4
 obtain ⟨b5,e5⟩:=gx (cQ false (R.n1:Int) 0 32)
 have H5:=zh (fun W=>aW false (R.n1:Int) 0 32 W)
 rw [e5] at H5
 obtain ⟨b6,e6⟩:=gx (cQ true (R.n2:Int) 1 2000)
 have H6:=zh (fun W=>aW true (R.n2:Int) 1 2000 W)
 rw [e6] at H6
 have E7:=zh (fun W=>cE R.hs 0 W)
 have E8:=zh (fun W=>cE R.lk 0 W)
 obtain ⟨b7,e7⟩:=gx (decide (R.hs=0))
 obtain ⟨b8,e8⟩:=gx (decide (R.lk=0))
 have HV:=zh (show vOp R=(b1 && (b2 && (b3 && (b4 && (b5 && (b6 && (b7 && b8))))))) by
  exact Bi)
 rw [e7] at E7
 exact ub
theorem aCu (R:OpR) (w:World) (hR:R.ok w) :
  Calls prog 113 #[.agg (opA R)] w fun e w'=>e=.returned (.bool (vOp R))∧Ext w w':=by
 rcases lI R.k with h | h | h | h | h | h | h
 ·exact aGI R h w hR
 ·exact aGH R h w hR
 ·exact aGG R h w hR
 ·exact aGF R h w hR
 ·exact aGE R h w hR
 ·exact aGD R h w hR
 rw [aIa h];exact aEs R h w
def uA (p:List UInt8):List UInt8:=beI 2 (p.length:Int) ++ p
theorem uW (p:List UInt8):(uA p).length=2+p.length:=by simp [uA,iG]
def dT (R:OpR):List UInt8 :=
 [toB R.k] ++ (if fTo R.k then [toB R.tO] else []) ++ (if fVa R.k then [toB R.va] else []) ++ (if fAm R.k then beI 6 R.am else []) ++ (if fUl R.k then beI 2 R.ul else []) ++ (if fUl R.k then nmb R.hs else []) ++ (if fLk R.k then nmb R.lk else []) ++ (if aAh R.k then uA R.pre else []) ++ (if aAg R.k then uA R.prf else [])
theorem aBW {R:OpR} (h:R.k=1):dT R=[toB R.k] ++ [toB R.tO] ++ beI 6 R.am:=by simp [dT,h,fTo,fVa,fAm,fUl,fLk,aAh,aAg]
theorem aBV {R:OpR} (h:R.k=2):dT R=[toB R.k] ++ [toB R.tO] ++ beI 6 R.am ++ beI 2 R.ul ++ nmb R.hs:=by simp [dT,h,fTo,fVa,fAm,fUl,fLk,aAh,aAg]
theorem aBU {R:OpR} (h:R.k=3):dT R=[toB R.k] ++ [toB R.tO] ++ beI 6 R.am ++ nmb R.lk ++ uA R.pre:=by simp [dT,h,fTo,fVa,fAm,fUl,fLk,aAh,aAg]
theorem aBT {R:OpR} (h:R.k=4):dT R=[toB R.k] ++ [toB R.tO] ++ beI 6 R.am ++ nmb R.lk:=by simp [dT,h,fTo,fVa,fAm,fUl,fLk,aAh,aAg]
theorem aBS {R:OpR} (h:R.k=5):dT R=[toB R.k] ++ [toB R.va] ++ beI 6 R.am:=by simp [dT,h,fTo,fVa,fAm,fUl,fLk,aAh,aAg]
theorem aBR {R:OpR} (h:R.k=6):dT R=[toB R.k] ++ [toB R.va] ++ uA R.prf:=by simp [dT,h,fTo,fVa,fAm,fUl,fLk,aAh,aAg]
theorem wJ {R:OpR} (h:vOp R=true):1≤R.k∧R.k≤6:=by
 unfold vOp at h;simp only [Bool.and_eq_true,decide_eq_true_eq] at h;exact h.1
theorem aAZ {R:OpR} (h:vOp R=true):R.n1≤32:=by
 unfold vOp cQ at h;simp only [Bool.and_eq_true,decide_eq_true_eq] at h
 have:=h.2.2.2.2.2.1
 split at this <;> simp only [decide_eq_true_eq] at this <;> omega
theorem aAY {R:OpR} (h:vOp R=true):R.n2≤2000:=by
 unfold vOp cQ at h;simp only [Bool.and_eq_true,decide_eq_true_eq] at h
 have:=h.2.2.2.2.2.2.1
 split at this <;> simp only [decide_eq_true_eq] at this <;> omega
theorem eO (A:Option Addr) (n c:Nat) (l:List UInt8) (z:Int) (wd:Nat) (hwd:wd≤8) (w:World) (h:SlB w A n c l) (hn:n≤140737488351232) :
  Calls prog 202 #[.slice A n c,.int .u64 (un (uI z)),.int .i64 (wd:Int)] w fun e w'=>∃ A' c',e=.returned (.slice A' (n+wd) c')∧OwnB w' w.heap.size 5 A' (n+wd) c' (l ++ beI wd z)∧Ext w w':=by
 have:=pA A n c l (uI z) wd hwd w h hn
 rw [aEu] at this;exact this
section
variable {P:Program} {t e:TypeId}
theorem cD {ops:Array Oper} {rest:List Oper} {o:Oper} {a:Act} {w:World} {Q:Exit→Act→World→Prop} (E:Elem P t e (.int .u8 0) 1 1) (hgd:o.guard=none) (s x:Operand)
  (ho:o.op=.call { callee:=.builtin .append,args:=#[s,x],argTypes:=#[t,t] })
  (base:Nat) (A:Option Addr) (n c:Nat) (l:List UInt8) (hs:a.eval s=.slice A n c) (hown:OwnB w base e A n c l)
  (A2:Option Addr) (m c2:Nat) (l2:List UInt8) (hx:a.eval x=.slice A2 m c2) (hr:SlB w A2 m c2 l2)
  (hb:n+m≤140737488355328) (hbase:base≤w.heap.size)
  (h:∀ A' c' w',OwnB w' base e A' (n+m) c' (l ++ l2)→w.grownBy w' (Value.ownBlock (.slice A n c))→wpList P ops Q rest (a.put o.dst (.slice A' (n+m) c')) w'):wpList P ops Q (o :: rest) a w:=by
 refine wpList_plain hgd fun K hK=>oB E s x ho base A n c (bcs l) hs hown A2 m c2 (bcs l2) hx hr.rd ff (dU l2) aa aa hbase fun A' c' w' h2 h3=>hK _ _ (h A' c' w' ?_ h3)
 unfold OwnB;rw [fK];exact h2
end
theorem nV (A:Option Addr) (n c:Nat) (l:List UInt8) (P:Option Addr) (m d:Nat) (p:List UInt8) (w:World) (h:SlB w A n c l) (hp:SlB w P m d p) (hm:m≤65535) (hn:n≤1000000000) :
  Calls prog 203 #[.slice A n c,.slice P m d] w fun e w'=>∃ A' n' c',e=.returned (.tuple #[.slice A' n' c',.bool true])∧OwnB w' w.heap.size 5 A' n' c' (l ++ uA p)∧Ext w w':=by
 have hu:=pP (m:Int)
 have hlen:=hp.len
 have HA:=zh (eO A n c l (m:Int) 2 aa w h aa)
 have HP:=zh hp
 have HB:=zh (show uA p=beI 2 (m:Int) ++ p by unfold uA;rw [hlen])
 have d1:decide (65535 < (m:Int))=false:=decide_eq_false aa
 clear h hp hlen
 generalize uI (m:Int)=u at *
 go_enter func203,ntmps203
 exact u7
structure ApS (w0 w:World) (B:Nat) (R:OpR) (A:Option Addr) (n c:Nat) (l:List UInt8):Prop where
 box:Blk w B 52 (opA R)
 own:OwnB w w0.heap.size 5 A n c l
 low:Ext w0 w
section
variable {w0 w w':World} {B:Nat} {R:OpR} {A A':Option Addr} {n n' c c':Nat} {l l':List UInt8}
theorem ApS.app {w2:World} (h:ApS w0 w B R A n c l) (he:Ext w w2) (hO:OwnB w' w0.heap.size 5 A' n' c' l') (hg:w2.grownBy w' (Value.ownBlock (.slice A n c))):ApS w0 w' B R A' n' c' l':=by
 have hb:=h.box.ext he
 have ho:=OwnB.ext h.own he
 exact ⟨hb.grown hg (aL ho hb ae),hO,Below.grown (h.low.trans he) hg (h.low.trans he).size (fun k hk=>(aBB ho k hk).1)⟩
theorem ApS.call (h:ApS w0 w B R A n c l) (hO:OwnB w' w.heap.size 5 A' n' c' l') (he:Ext w w'):ApS w0 w' B R A' n' c' l' :=
 ⟨h.box.ext he,bA hO h.low.size,h.low.trans he⟩
end
theorem aNf {w:World} {B:Nat} {R:OpR} {t:TypeId} (h:Blk w B t (opA R)):SlB w (some ⟨B,13,none⟩) 8 8 (nmb R.hs) :=
 ⟨aK _,Nat.le_refl _,by omega,.inr ⟨B,13,rfl,by have:=aQ (k:=8) (bG (k:=13) (aC h));rw [eJ];simpa using this⟩⟩
theorem aLp {w:World} {B:Nat} {R:OpR} {t:TypeId} (h:Blk w B t (opA R)):SlB w (some ⟨B,5,none⟩) 8 8 (nmb R.lk) :=
 ⟨aK _,Nat.le_refl _,by omega,.inr ⟨B,5,rfl,by have:=aQ (k:=8) (bG (k:=5) (aC h));rw [eJ];simpa using this⟩⟩
theorem aFC (R:OpR) (h:R.k=1) (hv:vOp R=true) (w0:World) (A:Option Addr) (n c:Nat) (l:List UInt8) (w:World) (hR:R.ok w0) (hE:Ext w0 w) (hO:OwnB w w0.heap.size 5 A n c l) (hn:n≤1000000) :
  Calls prog 145 #[.slice A n c,.agg (opA R)] w fun e w'=>∃ A' n' c',e=.returned (.slice A' n' c')∧OwnB w' w0.heap.size 5 A' n' c' (l ++ dT R)∧Ext w0 w':=by
 have HU:=zh (fun W=>eX R.k W)
 rw [show kV R.k=5 from ew] at HU
 have HEN:=zh (aBW h)
 have u_am:=pP R.am
 have hA:=(Ext.refl w).alloc' (.cells (opA R) 52)
 have S0:=zh (show ApS w0 (w.alloc (.cells (opA R) 52)) w.heap.size R A n c l from ⟨Blk.new w _ _,OwnB.ext hO hA,hE.trans hA⟩)
 have HR:=zh hR
 clear hR hE hO h hv hA
 go_enter func145,ntmps145
 go_wp2_with fail
 refine (HU.out _).mono ?_
 rintro e wv ⟨rfl,rfl⟩
 have q0:(w.alloc (.cells (opA R) 52)).cell? ⟨w.heap.size,0,none⟩=some (.int .i64 R.k):=S0.out.box.cell 0
 go_wp2_with (at_builtin;go_must (refine cD bU rfl (.tmp 9) (.tmp 13) rfl w0.heap.size A _ c _ rfl (S0.out.own.alloc _) _ 1 1 [toB R.k] rfl (SlB.new1 _ _ _ _ _ dh br) aa (S0.out.low.alloc' _).size ?_))
 intro A1 c1 w1 hO1 hg1
 have S1:=zh (S0.out.app ((Ext.refl _).alloc' _) hO1 hg1)
 clear hO1 hg1 q0 S0
 have q1:w1.cell? ⟨w.heap.size,1,none⟩=some (.int .i64 R.tO):=S1.out.box.cell 1
 go_wp2_with (at_builtin;go_must (refine cD bU rfl (.tmp 18) (.tmp 22) rfl w0.heap.size A1 _ c1 _ rfl (S1.out.own.alloc _) _ 1 1 [toB R.tO] rfl (SlB.new1 _ _ _ _ _ dh br) aa (S1.out.low.alloc' _).size ?_))
 exact u5
theorem aFB (R:OpR) (h:R.k=2) (hv:vOp R=true) (w0:World) (A:Option Addr) (n c:Nat) (l:List UInt8) (w:World) (hR:R.ok w0) (hE:Ext w0 w) (hO:OwnB w w0.heap.size 5 A n c l) (hn:n≤1000000) :
  Calls prog 145 #[.slice A n c,.agg (opA R)] w fun e w'=>∃ A' n' c',e=.returned (.slice A' n' c')∧OwnB w' w0.heap.size 5 A' n' c' (l ++ dT R)∧Ext w0 w':=by
 have HU:=zh (fun W=>eX R.k W)
 rw [show kV R.k=29 from ew] at HU
 have HEN:=zh (aBV h)
 have u_am:=pP R.am
 have u_ul:=pP R.ul
 have hA:=(Ext.refl w).alloc' (.cells (opA R) 52)
 have S0:=zh (show ApS w0 (w.alloc (.cells (opA R) 52)) w.heap.size R A n c l from ⟨Blk.new w _ _,OwnB.ext hO hA,hE.trans hA⟩)
 have HR:=zh hR
 clear hR hE hO h hv hA
 go_enter func145,ntmps145
 go_wp2_with fail
 refine (HU.out _).mono ?_
 rintro e wv ⟨rfl,rfl⟩
 have q0:(w.alloc (.cells (opA R) 52)).cell? ⟨w.heap.size,0,none⟩=some (.int .i64 R.k):=S0.out.box.cell 0
 go_wp2_with (at_builtin;go_must (refine cD bU rfl (.tmp 9) (.tmp 13) rfl w0.heap.size A _ c _ rfl (S0.out.own.alloc _) _ 1 1 [toB R.k] rfl (SlB.new1 _ _ _ _ _ dh br) aa (S0.out.low.alloc' _).size ?_))
 intro A1 c1 w1 hO1 hg1
 have S1:=zh (S0.out.app ((Ext.refl _).alloc' _) hO1 hg1)
 clear hO1 hg1 q0 S0
 have q1:w1.cell? ⟨w.heap.size,1,none⟩=some (.int .i64 R.tO):=S1.out.box.cell 1
 go_wp2_with (at_builtin;go_must (refine cD bU rfl (.tmp 18) (.tmp 22) rfl w0.heap.size A1 _ c1 _ rfl (S1.out.own.alloc _) _ 1 1 [toB R.tO] rfl (SlB.new1 _ _ _ _ _ dh br) aa (S1.out.low.alloc' _).size ?_))
 intro A2 c2 w2 hO2 hg2
 have S2:=zh (S1.out.app ((Ext.refl _).alloc' _) hO2 hg2)
 clear hO2 hg2 q1 S1
 have q2:w2.cell? ⟨w.heap.size,2,none⟩=some (.int .i64 R.am):=S2.out.box.cell 2
 go_wp2_with fail
 refine (eO _ _ _ _ R.am 6 aa _ S2.out.own.sl aa).mono ?_
 rintro e w3 ⟨A3,c3,rfl,hO3,he3⟩
 have S3:=zh (S2.out.call hO3 he3)
 clear hO3 he3 q2 S2
 have q3:w3.cell? ⟨w.heap.size,3,none⟩=some (.int .i64 R.ul):=S3.out.box.cell 3
 go_wp2_with fail
 refine (eO _ _ _ _ R.ul 2 aa _ S3.out.own.sl aa).mono ?_
 rintro e w4 ⟨A4,c4,rfl,hO4,he4⟩
 have S4:=zh (S3.out.call hO4 he4)
 clear hO4 he4 q3 S3
 go_wp2_with (at_builtin;go_must (refine cD bU rfl (.tmp 52) (.tmp 54) rfl w0.heap.size A4 _ c4 _ rfl S4.out.own _ 8 8 (nmb R.hs) rfl (aNf S4.out.box) aa S4.out.low.size ?_))
 intro A5 c5 w5 hO5 hg5
 have S5:=zh (S4.out.app (Ext.refl _) hO5 hg5)
 clear hO5 hg5 S4
 exact y7
theorem aFA (R:OpR) (h:R.k=3) (hv:vOp R=true) (w0:World) (A:Option Addr) (n c:Nat) (l:List UInt8) (w:World) (hR:R.ok w0) (hE:Ext w0 w) (hO:OwnB w w0.heap.size 5 A n c l) (hn:n≤1000000) :
  Calls prog 145 #[.slice A n c,.agg (opA R)] w fun e w'=>∃ A' n' c',e=.returned (.slice A' n' c')∧OwnB w' w0.heap.size 5 A' n' c' (l ++ dT R)∧Ext w0 w':=by
 have HU:=zh (fun W=>eX R.k W)
 rw [show kV R.k=101 from ew] at HU
 have HEN:=zh (aBU h)
 have b1:=aAZ hv
 have u_am:=pP R.am
 have hA:=(Ext.refl w).alloc' (.cells (opA R) 52)
 have S0:=zh (show ApS w0 (w.alloc (.cells (opA R) 52)) w.heap.size R A n c l from ⟨Blk.new w _ _,OwnB.ext hO hA,hE.trans hA⟩)
 have HR:=zh hR
 clear hR hE hO h hv hA
 go_enter func145,ntmps145
 go_wp2_with fail
 refine (HU.out _).mono ?_
 rintro e wv ⟨rfl,rfl⟩
 have q0:(w.alloc (.cells (opA R) 52)).cell? ⟨w.heap.size,0,none⟩=some (.int .i64 R.k):=S0.out.box.cell 0
 go_wp2_with (at_builtin;go_must (refine cD bU rfl (.tmp 9) (.tmp 13) rfl w0.heap.size A _ c _ rfl (S0.out.own.alloc _) _ 1 1 [toB R.k] rfl (SlB.new1 _ _ _ _ _ dh br) aa (S0.out.low.alloc' _).size ?_))
 intro A1 c1 w1 hO1 hg1
 have S1:=zh (S0.out.app ((Ext.refl _).alloc' _) hO1 hg1)
 clear hO1 hg1 q0 S0
 have q1:w1.cell? ⟨w.heap.size,1,none⟩=some (.int .i64 R.tO):=S1.out.box.cell 1
 go_wp2_with (at_builtin;go_must (refine cD bU rfl (.tmp 18) (.tmp 22) rfl w0.heap.size A1 _ c1 _ rfl (S1.out.own.alloc _) _ 1 1 [toB R.tO] rfl (SlB.new1 _ _ _ _ _ dh br) aa (S1.out.low.alloc' _).size ?_))
 intro A2 c2 w2 hO2 hg2
 have S2:=zh (S1.out.app ((Ext.refl _).alloc' _) hO2 hg2)
 clear hO2 hg2 q1 S1
 have q2:w2.cell? ⟨w.heap.size,2,none⟩=some (.int .i64 R.am):=S2.out.box.cell 2
 go_wp2_with fail
 refine (eO _ _ _ _ R.am 6 aa _ S2.out.own.sl aa).mono ?_
 rintro e w3 ⟨A3,c3,rfl,hO3,he3⟩
 have S3:=zh (S2.out.call hO3 he3)
 clear hO3 he3 q2 S2
 go_wp2_with (at_builtin;go_must (refine cD bU rfl (.tmp 59) (.tmp 61) rfl w0.heap.size A3 _ c3 _ rfl S3.out.own _ 8 8 (nmb R.lk) rfl (aLp S3.out.box) aa S3.out.low.size ?_))
 intro A4 c4 w4 hO4 hg4
 have S4:=zh (S3.out.app (Ext.refl _) hO4 hg4)
 clear hO4 hg4 S3
 have q4:w4.cell? ⟨w.heap.size,21,none⟩=some (.slice R.A1 R.n1 R.c1):=S4.out.box.cell 21
 go_wp2_with fail
 refine (nV _ _ _ _ _ _ _ R.pre _ S4.out.own.sl (HR.out.pre.ext S4.out.low) aa aa).mono ?_
 rintro e w5 ⟨A5,n5,c5,rfl,hO5,he5⟩
 have S5:=zh (S4.out.call hO5 he5)
 clear hO5 he5 q4 S4
 exact y7
theorem aFz (R:OpR) (h:R.k=4) (hv:vOp R=true) (w0:World) (A:Option Addr) (n c:Nat) (l:List UInt8) (w:World) (hR:R.ok w0) (hE:Ext w0 w) (hO:OwnB w w0.heap.size 5 A n c l) (hn:n≤1000000) :
  Calls prog 145 #[.slice A n c,.agg (opA R)] w fun e w'=>∃ A' n' c',e=.returned (.slice A' n' c')∧OwnB w' w0.heap.size 5 A' n' c' (l ++ dT R)∧Ext w0 w':=by
 have HU:=zh (fun W=>eX R.k W)
 rw [show kV R.k=37 from ew] at HU
 have HEN:=zh (aBT h)
 have u_am:=pP R.am
 have hA:=(Ext.refl w).alloc' (.cells (opA R) 52)
 have S0:=zh (show ApS w0 (w.alloc (.cells (opA R) 52)) w.heap.size R A n c l from ⟨Blk.new w _ _,OwnB.ext hO hA,hE.trans hA⟩)
 have HR:=zh hR
 clear hR hE hO h hv hA
 go_enter func145,ntmps145
 go_wp2_with fail
 refine (HU.out _).mono ?_
 rintro e wv ⟨rfl,rfl⟩
 have q0:(w.alloc (.cells (opA R) 52)).cell? ⟨w.heap.size,0,none⟩=some (.int .i64 R.k):=S0.out.box.cell 0
 go_wp2_with (at_builtin;go_must (refine cD bU rfl (.tmp 9) (.tmp 13) rfl w0.heap.size A _ c _ rfl (S0.out.own.alloc _) _ 1 1 [toB R.k] rfl (SlB.new1 _ _ _ _ _ dh br) aa (S0.out.low.alloc' _).size ?_))
 intro A1 c1 w1 hO1 hg1
 have S1:=zh (S0.out.app ((Ext.refl _).alloc' _) hO1 hg1)
 clear hO1 hg1 q0 S0
 have q1:w1.cell? ⟨w.heap.size,1,none⟩=some (.int .i64 R.tO):=S1.out.box.cell 1
 go_wp2_with (at_builtin;go_must (refine cD bU rfl (.tmp 18) (.tmp 22) rfl w0.heap.size A1 _ c1 _ rfl (S1.out.own.alloc _) _ 1 1 [toB R.tO] rfl (SlB.new1 _ _ _ _ _ dh br) aa (S1.out.low.alloc' _).size ?_))
 intro A2 c2 w2 hO2 hg2
 have S2:=zh (S1.out.app ((Ext.refl _).alloc' _) hO2 hg2)
 clear hO2 hg2 q1 S1
 have q2:w2.cell? ⟨w.heap.size,2,none⟩=some (.int .i64 R.am):=S2.out.box.cell 2
 go_wp2_with fail
 refine (eO _ _ _ _ R.am 6 aa _ S2.out.own.sl aa).mono ?_
 rintro e w3 ⟨A3,c3,rfl,hO3,he3⟩
 have S3:=zh (S2.out.call hO3 he3)
 clear hO3 he3 q2 S2
 go_wp2_with (at_builtin;go_must (refine cD bU rfl (.tmp 59) (.tmp 61) rfl w0.heap.size A3 _ c3 _ rfl S3.out.own _ 8 8 (nmb R.lk) rfl (aLp S3.out.box) aa S3.out.low.size ?_))
 intro A4 c4 w4 hO4 hg4
 have S4:=zh (S3.out.app (Ext.refl _) hO4 hg4)
 clear hO4 hg4 S3
 go_wp2_with fail
 go_ret
 refine ⟨A4,_,c4,rfl,?_,S4.out.low⟩
 rw [HEN.out];simpa using S4.out.own
theorem aFy (R:OpR) (h:R.k=5) (hv:vOp R=true) (w0:World) (A:Option Addr) (n c:Nat) (l:List UInt8) (w:World) (hR:R.ok w0) (hE:Ext w0 w) (hO:OwnB w w0.heap.size 5 A n c l) (hn:n≤1000000) :
  Calls prog 145 #[.slice A n c,.agg (opA R)] w fun e w'=>∃ A' n' c',e=.returned (.slice A' n' c')∧OwnB w' w0.heap.size 5 A' n' c' (l ++ dT R)∧Ext w0 w':=by
 have HU:=zh (fun W=>eX R.k W)
 rw [show kV R.k=6 from ew] at HU
 have HEN:=zh (aBS h)
 have u_am:=pP R.am
 have hA:=(Ext.refl w).alloc' (.cells (opA R) 52)
 have S0:=zh (show ApS w0 (w.alloc (.cells (opA R) 52)) w.heap.size R A n c l from ⟨Blk.new w _ _,OwnB.ext hO hA,hE.trans hA⟩)
 have HR:=zh hR
 clear hR hE hO h hv hA
 go_enter func145,ntmps145
 go_wp2_with fail
 refine (HU.out _).mono ?_
 rintro e wv ⟨rfl,rfl⟩
 have q0:(w.alloc (.cells (opA R) 52)).cell? ⟨w.heap.size,0,none⟩=some (.int .i64 R.k):=S0.out.box.cell 0
 go_wp2_with (at_builtin;go_must (refine cD bU rfl (.tmp 9) (.tmp 13) rfl w0.heap.size A _ c _ rfl (S0.out.own.alloc _) _ 1 1 [toB R.k] rfl (SlB.new1 _ _ _ _ _ dh br) aa (S0.out.low.alloc' _).size ?_))
 intro A1 c1 w1 hO1 hg1
 have S1:=zh (S0.out.app ((Ext.refl _).alloc' _) hO1 hg1)
 clear hO1 hg1 q0 S0
 have q1:w1.cell? ⟨w.heap.size,4,none⟩=some (.int .i64 R.va):=S1.out.box.cell 4
 go_wp2_with (at_builtin;go_must (refine cD bU rfl (.tmp 27) (.tmp 31) rfl w0.heap.size A1 _ c1 _ rfl (S1.out.own.alloc _) _ 1 1 [toB R.va] rfl (SlB.new1 _ _ _ _ _ dh br) aa (S1.out.low.alloc' _).size ?_))
 exact u5
theorem aFx (R:OpR) (h:R.k=6) (hv:vOp R=true) (w0:World) (A:Option Addr) (n c:Nat) (l:List UInt8) (w:World) (hR:R.ok w0) (hE:Ext w0 w) (hO:OwnB w w0.heap.size 5 A n c l) (hn:n≤1000000) :
  Calls prog 145 #[.slice A n c,.agg (opA R)] w fun e w'=>∃ A' n' c',e=.returned (.slice A' n' c')∧OwnB w' w0.heap.size 5 A' n' c' (l ++ dT R)∧Ext w0 w':=by
 have HU:=zh (fun W=>eX R.k W)
 rw [show kV R.k=130 from ew] at HU
 have HEN:=zh (aBR h)
 have b2:=aAY hv
 have hA:=(Ext.refl w).alloc' (.cells (opA R) 52)
 have S0:=zh (show ApS w0 (w.alloc (.cells (opA R) 52)) w.heap.size R A n c l from ⟨Blk.new w _ _,OwnB.ext hO hA,hE.trans hA⟩)
 have HR:=zh hR
 clear hR hE hO h hv hA
 go_enter func145,ntmps145
 go_wp2_with fail
 refine (HU.out _).mono ?_
 rintro e wv ⟨rfl,rfl⟩
 have q0:(w.alloc (.cells (opA R) 52)).cell? ⟨w.heap.size,0,none⟩=some (.int .i64 R.k):=S0.out.box.cell 0
 go_wp2_with (at_builtin;go_must (refine cD bU rfl (.tmp 9) (.tmp 13) rfl w0.heap.size A _ c _ rfl (S0.out.own.alloc _) _ 1 1 [toB R.k] rfl (SlB.new1 _ _ _ _ _ dh br) aa (S0.out.low.alloc' _).size ?_))
 intro A1 c1 w1 hO1 hg1
 have S1:=zh (S0.out.app ((Ext.refl _).alloc' _) hO1 hg1)
 clear hO1 hg1 q0 S0
 have q1:w1.cell? ⟨w.heap.size,4,none⟩=some (.int .i64 R.va):=S1.out.box.cell 4
 go_wp2_with (at_builtin;go_must (refine cD bU rfl (.tmp 27) (.tmp 31) rfl w0.heap.size A1 _ c1 _ rfl (S1.out.own.alloc _) _ 1 1 [toB R.va] rfl (SlB.new1 _ _ _ _ _ dh br) aa (S1.out.low.alloc' _).size ?_))
 intro A2 c2 w2 hO2 hg2
 have S2:=zh (S1.out.app ((Ext.refl _).alloc' _) hO2 hg2)
 clear hO2 hg2 q1 S1
 have q2:w2.cell? ⟨w.heap.size,22,none⟩=some (.slice R.A2 R.n2 R.c2):=S2.out.box.cell 22
 go_wp2_with fail
 refine (nV _ _ _ _ _ _ _ R.prf _ S2.out.own.sl (HR.out.prf.ext S2.out.low) aa aa).mono ?_
 rintro e w3 ⟨A3,n3,c3,rfl,hO3,he3⟩
 exact AO
theorem aCj (R:OpR) (hv:vOp R=true) (w0:World) (A:Option Addr) (n c:Nat) (l:List UInt8) (w:World) (hR:R.ok w0) (hE:Ext w0 w) (hO:OwnB w w0.heap.size 5 A n c l) (hn:n≤1000000) :
  Calls prog 145 #[.slice A n c,.agg (opA R)] w fun e w'=>∃ A' n' c',e=.returned (.slice A' n' c')∧OwnB w' w0.heap.size 5 A' n' c' (l ++ dT R)∧Ext w0 w':=by
 rcases lI R.k with h | h | h | h | h | h | h
 ·exact aFC R h hv w0 A n c l w hR hE hO hn
 ·exact aFB R h hv w0 A n c l w hR hE hO hn
 ·exact aFA R h hv w0 A n c l w hR hE hO hn
 ·exact aFz R h hv w0 A n c l w hR hE hO hn
 ·exact aFy R h hv w0 A n c l w hR hE hO hn
 ·exact aFx R h hv w0 A n c l w hR hE hO hn
 exact absurd (wJ hv) h
theorem aCM (a b:UInt64) (w:World):(binOp .neq 50 (.agg (nmc a)) (.agg (nmc b))).run prog w=.ok (.bool (!decide (a=b))) w:=by
 have h:=cE a b w
 rw [run_eql_struct] at h
 rw [run_neq_struct]
 generalize (Op.equalIn 10000 50 (.agg (nmc a)) (.agg (nmc b))).run prog w=r at *
 cases r with
 | ok v w'=>simp [Result.andThen] at h ⊢;obtain ⟨h1,h2⟩:=h;subst h2;exact ⟨by rw [h1],rfl⟩
 | _=>simp [Result.andThen] at h
theorem z3 {n:Int} {b:Bool} (h:decide (n=0)=b):(n == 0)=b∧(n != 0)=!b∧decide (n=0)=b:=by subst h;refine ⟨?_,?_,rfl⟩ <;> by_cases c:n=0 <;> simp [c]
theorem z6 {n:Nat} {b:Bool} (h:cQ true (n:Int) 0 32=b):decide ((32:Int) < (n:Int))=!b∧decide (32 < n)=!b:=by
 have h:decide ((0:Int)≤(n:Int)∧(n:Int)≤32)=b:=h
 rw [← h]
 by_cases c:32 < n
 ·rw [decide_eq_true (show (32:Int) < (n:Int) by omega),decide_eq_true c,decide_eq_false (p:=(0:Int)≤(n:Int)∧(n:Int)≤32) aa];exact ⟨rfl,rfl⟩
 rw [decide_eq_false (show ¬ (32:Int) < (n:Int) by omega),decide_eq_false c,decide_eq_true (p:=(0:Int)≤(n:Int)∧(n:Int)≤32) aa];exact ⟨rfl,rfl⟩
theorem z7 {n:Nat} {b:Bool} (h:cQ false (n:Int) 0 32=b):decide ((0:Int) < (n:Int))=!b∧decide (0 < n)=!b:=by
 have h:decide ((n:Int)=0)=b:=h
 subst h;constructor <;> by_cases c:n=0 <;> simp [c] <;> omega
theorem zI (k tO am ul va:Int) (lk hs:UInt64) (A1:Option Addr) (n1 c1:Nat) (pre:List UInt8) (A2:Option Addr) (n2 c2:Nat) (prf:List UInt8) (w:World) (l1:(n1:Int)≤9223372036854775807) (l2:(n2:Int)≤9223372036854775807) (hk:k=1 ∨ k=2 ∨ k=3 ∨ k=4 ∨ k=5 ∨ k=6) :
  Calls prog 87 #[.agg (opA ⟨k,tO,am,ul,va,lk,hs,A1,n1,c1,pre,A2,n2,c2,prf⟩)] w fun e w'=>e=.returned (.bool (vOp ⟨k,tO,am,ul,va,lk,hs,A1,n1,c1,pre,A2,n2,c2,prf⟩))∧Ext w w':=by
 have HE:=zh ((Ext.refl w).alloc' (.cells (opA ⟨k,tO,am,ul,va,lk,hs,A1,n1,c1,pre,A2,n2,c2,prf⟩) 52))
 have HW:=zh (fun n lo hi W=>iB n lo hi W)
 obtain ⟨b0,h0⟩:=gx (cQ (fTo k) tO 0 15)
 obtain ⟨b1,h1⟩:=gx (cQ (fAm k) am 1 1099511627776)
 obtain ⟨b2,h2⟩:=gx (cQ (fUl k) ul 1 1000)
 obtain ⟨b3,h3⟩:=gx (cQ (fVa k) va 0 9)
 obtain ⟨y4,hy4⟩:=gx (decide (lk=(0:UInt64)))
 obtain ⟨y5,hy5⟩:=gx (decide (hs=(0:UInt64)))
 have v4:=fun W=>aCM lk 0 W
 rw [hy4,dN] at v4
 have v5:=fun W=>aCM hs 0 W
 rw [hy5,dN] at v5
 obtain ⟨b4,h4⟩:=gx (fLk k || y4)
 obtain ⟨b5,h5⟩:=gx (fUl k || y5)
 obtain ⟨b6,h6⟩:=gx (cQ (aAh k) (n1:Int) 0 32)
 obtain ⟨b7,h7⟩:=gx (cQ (aAg k) (n2:Int) 1 2000)
 have HV:=zh (show vOp ⟨k,tO,am,ul,va,lk,hs,A1,n1,c1,pre,A2,n2,c2,prf⟩=(b0 && (b1 && (b2 && (b3 && (b6 && (b7 && (b5 && b4))))))) from by
  unfold vOp
  rw [decide_eq_true (p:=1≤k∧k≤6) aa,Bool.true_and,← h0,← h1,← h2,← h3,← h4,← h5,← h6,← h7,← hy4,← hy5])
 have w1:jY 1 1 6=true:=ae
 have w2:jY 2 1 6=true:=ae
 have w3:jY 3 1 6=true:=ae
 have w4:jY 4 1 6=true:=ae
 have w5:jY 5 1 6=true:=ae
 have w6:jY 6 1 6=true:=ae
 clear hy4 hy5
 rcases hk with rfl | rfl | rfl | rfl | rfl | rfl
 all_goals (
  first | (have q0:jY tO 0 15=b0:=h0) | (have g0:decide (tO=0)=b0:=h0;obtain ⟨q0,r0,s0⟩:=z3 g0)
  first | (have q1:jY am 1 1099511627776=b1:=h1) | (have g1:decide (am=0)=b1:=h1;obtain ⟨q1,r1,s1⟩:=z3 g1)
  first | (have q2:jY ul 1 1000=b2:=h2) | (have g2:decide (ul=0)=b2:=h2;obtain ⟨q2,r2,s2⟩:=z3 g2)
  first | (have q3:jY va 0 9=b3:=h3) | (have g3:decide (va=0)=b3:=h3;obtain ⟨q3,r3,s3⟩:=z3 g3)
  first | (have g6:cQ true (n1:Int) 0 32=b6:=h6;obtain ⟨q6,r6⟩:=z6 g6) | (have g6:cQ false (n1:Int) 0 32=b6:=h6;obtain ⟨q6,r6⟩:=z7 g6)
  first | (have q7:jY (n2:Int) 1 2000=b7:=h7) | (have g7:decide ((n2:Int)=0)=b7:=h7;obtain ⟨q7,r7,s7⟩:=z3 g7)
  first | rw [show y4=b4 from h4] at v4 | skip
  first | rw [show y5=b5 from h5] at v5 | skip
  have H4:=zh h4
  have H5:=zh h5
  clear h0 h1 h2 h3 h4 h5 h6 h7
  go_enter func87,ntmps87
  go_upto_region 7 with (go_at_call 86;(with_reducible refine (HW.out _ _ _ _).mono ?_);rintro e wv ⟨rfl,rfl⟩)
  cases b0
  ·exact yo
  go_upto_region 9 with (go_at_call 86;(with_reducible refine (HW.out _ _ _ _).mono ?_);rintro e wv ⟨rfl,rfl⟩)
  cases b1
  ·exact yo
  go_upto_region 11 with (go_at_call 86;(with_reducible refine (HW.out _ _ _ _).mono ?_);rintro e wv ⟨rfl,rfl⟩)
  cases b2
  ·exact yo
  go_upto_region 13 with (go_at_call 86;(with_reducible refine (HW.out _ _ _ _).mono ?_);rintro e wv ⟨rfl,rfl⟩)
  cases b3
  ·exact yo
  go_upto_region 15 with (go_at_call 86;(with_reducible refine (HW.out _ _ _ _).mono ?_);rintro e wv ⟨rfl,rfl⟩)
  cases b4
  ·first
   | exact absurd (show true=false from H4.out) ae
   | (
    exact AV)
  cases b5
  ·first
   | exact absurd (show true=false from H5.out) ae
   | (
    exact AV)
  go_upto_region 17 with (go_at_call 86;(with_reducible refine (HW.out _ _ _ _).mono ?_);rintro e wv ⟨rfl,rfl⟩)
  cases b6
  ·exact yo
  go_upto_region 19 with (go_at_call 86;(with_reducible refine (HW.out _ _ _ _).mono ?_);rintro e wv ⟨rfl,rfl⟩)
  cases b7
  all_goals (
   exact AV))
end
section
open Go.RowKit
theorem aJV (l:List UInt8) (at_ k:Nat) (h:at_+k * 8+8≤l.length):((aZ l (at_+k * 8) 8:Nat):Int)=un (kK l at_ k):=by
 have:=mU (kK l at_ k)
 rw [aDo l at_ k h] at this
 unfold un aZ;rw [this]
theorem aIu (A:Option Addr) (n c:Nat) (l:List UInt8) (at_ k:Nat) (z:Int) (hz:z=((at_+k * 8:Nat):Int)) (w:World) (h:SlB w A n c l) (hf:at_+k * 8+8≤n) (hn:n≤140737488355328) :
  Calls prog 205 #[.slice A n c,.int .i64 z,.int .i64 8] w fun e w'=>e=.returned (.tuple #[.int .u64 (un (kK l at_ k)),.bool true])∧w=w':=by
 subst hz
 rw [← aJV l at_ k (by have:=h.len;omega)]
 exact aCW A n c l (at_+k * 8) 8 w h aa aa hf hn
theorem uL (A:Option Addr) (len c:Nat) (l:List UInt8) (at_ n:Nat) (w:World) (h:SlB w A len c l) (hn:n≤1000) (hf:at_+n * 8≤len) (hat:at_≤1000) (hl:len≤140737488355328) :
  Calls prog 149 #[.slice A len c,.int .i64 (at_:Int),.int .i64 (n:Int)] w fun e w'=>∃ A' c',e=.returned (.slice A' n c')∧SlN w' A' n c' (aF l at_ n)∧Ext w w':=by
 have HS:=zh h
 clear h
 go_enter func149,ntmps149
 go_wp2_with fail
 go_loopw [7,8] (fun v i wr=>∃ (k:Nat) (A1:Option Addr) (c1:Nat),k≤n∧i=.int .i64 (k:Int)∧v=.slice A1 k c1∧wr.ownsRow w.heap.size 50 8 (.slice A1 k c1) k (ncs ((List.range k).map (kK l at_)))∧Ext w wr) (fun _ i _=>n - (intOf i).toNat)
 case atStart=>exact ⟨0,_,_,aa,rfl,rfl,World.ownsRow_nil _ _ _ _,Ext.refl _⟩
 case round =>
  obtain ⟨k,A1,c1,hk,rfl,rfl,hO,hE⟩:=hrel
  have HO:=zh hO
  have HE:=zh hE
  clear hO hE
  by_cases hlt:k < n
  ·have HZ := zh (show (at_ : Int) + 8 * (k : Int) = ((at_ + k * 8 : Nat) : Int) by omega)
   have HF:=zh (show at_+k * 8+8≤len by omega)
   have HR:=zh (show (List.range (k+1)).map (kK l at_)=(List.range k).map (kK l at_) ++ [kK l at_ k] by rw [List.range_succ,List.map_append];rfl)
   have j1:(k:Int) < (n:Int):=aa
   go_wp2_with fail
   refine (aIu A len c l at_ k _ HZ.out _ (HS.out.ext HE.out) HF.out hl).mono ?_
   rintro e w1 ⟨rfl,rfl⟩
   go_wp2_with fail
   refine zcl (aAB _ _) fun w2 he2=>?_
   have HE2:=zh (HE.out.trans he2)
   have HO2:=zh (bC HO.out he2)
   clear he2
   go_wp2_with (at_builtin;go_must (refine fS cY rfl (.tmp 25) (.tmp 28) rfl w.heap.size A1 k c1 (ncs ((List.range k).map (kK l at_))) rfl (bC HO2.out ((Ext.refl _).alloc' _)) (some ⟨w2.heap.size,0,none⟩) 1 1 (ncs [kK l at_ k]) rfl (Rd.newN _ _ _ _ rfl) kn (lU _) aa aa ?z1 w ?z2 ?_))
   case z1=>exact (HE2.out.alloc' _).size
   case z2=>exact HE2.out.alloc' _
   exact xx
  obtain rfl:k=n:=aa
  go_wp2_with fail
  go_ret
  exact ⟨A1,c1,rfl,SlN.of_own HO.out,HE.out⟩
def gS (pub:UInt64) (levels:Int) (m:UInt64) (l:List UInt8):Bool :=
 if levels=1 then decide (l.length=186) && (decide (aZ l 0 2 < 32) && decide (eH l 2 (aZ l 0 2 % 32) m=pub))
 else if levels=2 then decide (l.length=370) && (decide (aZ l 0 2 < 1024) && decide (eH l 186 (aZ l 0 2 / 32) (eH l 2 (aZ l 0 2 % 32) m)=pub))
 else false
theorem qW (A:Option Addr) (len c:Nat) (l:List UInt8) (at_ j:Nat) (z q:Int) (hz:z=(at_:Int)) (hq:q=(j:Int)) (m:UInt64) (w:World) (h:SlB w A len c l) (hf:at_+184≤len) (hat:at_≤500) (hj:j < 32) :
  Calls prog 184 #[.slice A len c,.int .i64 z,.int .i64 q,.agg (nmc m)] w fun e w'=>e=.returned (.agg (nmc (eH l at_ j m)))∧Ext w w':=by
 subst hz;subst hq;exact aDZ A len c l at_ j m w h hf hat hj
theorem mX (pub:UInt64) (lv:Int) (m:UInt64) (l:List UInt8) (h:eT lv ≠ (l.length:Int)):gS pub lv m l=false:=by
 unfold gS
 by_cases h1:lv=1
 ·subst h1;rw [if_pos rfl,decide_eq_false (show ¬ l.length=186 from fun e=>h gp)];rfl
 rw [if_neg h1]
 by_cases h2:lv=2
 ·subst h2;rw [if_pos rfl,decide_eq_false (show ¬ l.length=370 from fun e=>h gp)];rfl
 rw [if_neg h2]
theorem aCs (pub:UInt64) (lv:Int) (m:UInt64) (l:List UInt8) (h:lL lv≤(aZ l 0 2:Int)):gS pub lv m l=false:=by
 unfold gS
 by_cases h1:lv=1
 ·subst h1;rw [if_pos rfl,decide_eq_false (show ¬ aZ l 0 2 < 32 from by have:(32:Int)≤(aZ l 0 2:Int):=h;omega)];simp
 rw [if_neg h1]
 by_cases h2:lv=2
 ·subst h2;rw [if_pos rfl,decide_eq_false (show ¬ aZ l 0 2 < 1024 from by have:(1024:Int)≤(aZ l 0 2:Int):=h;omega)];simp
 rw [if_neg h2]
theorem aAr (pub m:UInt64) (lv:Int) (A:Option Addr) (n c:Nat) (l:List UInt8) (w:World) (h:SlB w A n c l) (hno:n < 2 ∨ eT lv ≠ (n:Int) ∨ lL lv≤(aZ l 0 2:Int)) :
  Calls prog 122 #[.agg (nmc pub),.int .i64 lv,.agg (nmc m),.slice A n c] w fun e w'=>e=.returned (.bool false)∧Ext w w':=by
 have hE:=((Ext.refl w).alloc' (.cells (nmc pub) 50)).alloc' (.cells (nmc m) 50)
 have HE:=zh hE
 have hcap:=h.cap
 have hle:=h.le
 by_cases h2:n < 2
 ·clear hno
  go_enter func122,ntmps122
  go_wp2_with (go_at_call 123;refine (aKr A n c _ h2).mono ?_;rintro e w1 ⟨rfl,rfl⟩)
  go_ret
  exact ⟨rfl,HE.out⟩
 have HL:=zh (sG A n c l _ (h.ext HE.out) aa)
 have HH:=zh h
 clear h hE
 by_cases hs:eT lv=(n:Int)
 ·have hc:lL lv≤(aZ l 0 2:Int):=by
   rcases hno with h | h | h
   ·omega
   ·exact absurd hs h
   exact h
  have b1:((n:Int) != eT lv)=false:=by rw [hs];simp
  clear hno hs
  generalize hx:aZ l 0 2=x at *
  generalize hcz:lL lv=cz at *
  generalize hsz:eT lv=sz at *
  have HC:=zh hcz
  have HS:=zh hsz
  clear hx hcz hsz
  go_enter func122,ntmps122
  go_wp2_with fail
  refine HL.out.mono ?_
  rintro e w1 ⟨rfl,rfl⟩
  go_wp2_with (first | (go_at_call 182;refine (rM lv _).mono ?_;rintro e w1 ⟨rfl,rfl⟩;rw [HS.out]) | (go_at_call 183;refine (kO lv _).mono ?_;rintro e w1 ⟨rfl,rfl⟩;rw [HC.out]))
  go_ret
  exact ⟨rfl,HE.out⟩
 have b1:((n:Int) != eT lv)=true:=r8
 clear hno hs
 generalize hx:aZ l 0 2=x at *
 generalize hsz:eT lv=sz at *
 have HS:=zh hsz
 clear hx hsz
 go_enter func122,ntmps122
 go_wp2_with fail
 refine HL.out.mono ?_
 rintro e w1 ⟨rfl,rfl⟩
 go_wp2_with (first | (go_at_call 182;refine (rM lv _).mono ?_;rintro e w1 ⟨rfl,rfl⟩;rw [HS.out]) | (go_at_call 183;refine (kO lv _).mono ?_;rintro e w1 ⟨rfl,rfl⟩))
 go_ret
 exact ⟨rfl,HE.out⟩
section
variable {β:Type} [DecidableEq β]
structure STO (lt:β→β→Bool):Prop where
 irrefl:∀ x,lt x x=false
 trans:∀ x y z,lt x y=true→lt y z=true→lt x z=true
 total:∀ x y,lt x y=false→lt y x=false→x=y
variable {lt:β→β→Bool}
theorem STO.asymm (h:STO lt) {x y:β} (hxy:lt x y=true):lt y x=false:=by
 cases hyx:lt y x with
 | false=>rfl
 | true=>have:=h.trans x y x hxy hyx;rw [h.irrefl] at this;cases this
theorem STO.ntrans (h:STO lt) {x y z:β} (h1:lt x y=false) (h2:lt y z=false):lt x z=false:=by
 cases hxz:lt x z with
 | false=>rfl
 | true =>
  cases hyx:lt y x with
  | true=>have:=h.trans y x z hyx hxz;rw [h2] at this;cases this
  | false =>
   obtain rfl:=h.total x y h1 hyx
   rw [h2] at hxz;cases hxz
def Asc (lt:β→β→Bool) (L:List β):Prop:=L.Pairwise fun x y=>lt x y=true
def aBI (lt:β→β→Bool) (x:β):List β→List β
 | []=>[x]
 | y :: r=>if lt y x=true then y :: aBI lt x r else if y=x then y :: r else x :: y :: r
def xW (lt:β→β→Bool) (acc L:List β):List β:=L.foldl (fun acc x=>aBI lt x acc) acc
def qY (lt:β→β→Bool) (L:List β):List β:=xW lt [] L
theorem aDr (h:STO lt) (x y:β) (L:List β):y ∈ aBI lt x L ↔ y=x ∨ y ∈ L:=by
 induction L with
 | nil=>simp [aBI]
 | cons z r ih =>
  unfold aBI
  split
  ·simp only [List.mem_cons, ih]
   constructor
   ·rintro (h | h | h) <;> simp [h]
   rintro (h | h | h) <;> simp [h]
  split
  ·rename_i h1 h2; subst h2; simp only [List.mem_cons]
   constructor
   ·rintro (h | h) <;> simp [h]
   rintro (h | h | h) <;> simp [h]
  simp only [List.mem_cons]
theorem aJF (h:STO lt) (x:β) (L:List β) (hL:Asc lt L):Asc lt (aBI lt x L):=by
 induction L with
 | nil=>simp [aBI,Asc]
 | cons z r ih =>
  unfold Asc at hL ih ⊢
  obtain ⟨h1,h2⟩:=List.pairwise_cons.1 hL
  unfold aBI
  split
  ·rename_i hz
   refine List.pairwise_cons.2 ⟨fun y hy=>?_,ih h2⟩
   rcases (aDr h x y r).1 hy with rfl | hy
   ·exact hz
   exact h1 y hy
  rename_i hz
  split
  ·exact hL
  rename_i hne
  have hxz:lt x z=true:=by
   cases hh:lt x z with
   | true=>rfl
   | false=>exact absurd (h.total z x (by simpa using hz) hh) hne
  refine List.pairwise_cons.2 ⟨fun y hy=>?_,hL⟩
  rcases List.mem_cons.1 hy with rfl | hy
  ·exact hxz
  exact h.trans _ _ _ hxz (h1 y hy)
theorem aFb (h:STO lt) (y:β) (L acc:List β):y ∈ xW lt acc L ↔ y ∈ acc ∨ y ∈ L:=by
 induction L generalizing acc with
 | nil=>simp [xW]
 | cons x r ih =>
  show y ∈ xW lt (aBI lt x acc) r ↔ _
  rw [ih,aDr h,List.mem_cons]
  constructor
  ·rintro ((h | h) | h) <;> simp [h]
  rintro (h | h | h) <;> simp [h]
theorem aFv (h:STO lt) (L acc:List β) (ha:Asc lt acc):Asc lt (xW lt acc L):=by
 induction L generalizing acc with
 | nil=>exact ha
 | cons x r ih=>exact ih _ (aJF h x acc ha)
theorem aFc (h:STO lt) (y:β) (L:List β):y ∈ qY lt L ↔ y ∈ L:=by
 unfold qY;rw [aFb h];simp
theorem aFw (h:STO lt) (L:List β):Asc lt (qY lt L):=aFv h L [] List.Pairwise.nil
theorem aEh (h:STO lt):∀ (L M:List β),Asc lt L→Asc lt M→(∀ y,y ∈ L ↔ y ∈ M)→L=M
 | [],[],_,_,_=>rfl
 | [],y :: s,_,_,he=>by have:=(he y).2 (by simp);simp at this
 | x :: r,[],_,_,he=>by have:=(he x).1 (by simp);simp at this
 | x :: r,y :: s,hL,hM,he=>by
  unfold Asc at hL hM
  obtain ⟨a1,a2⟩:=List.pairwise_cons.1 hL
  obtain ⟨b1,b2⟩:=List.pairwise_cons.1 hM
  have hxy:x=y:=by
   rcases List.mem_cons.1 ((he x).1 dr) with e | e
   ·exact e
   rcases List.mem_cons.1 ((he y).2 dr) with e' | e'
   ·exact e'.symm
   have h1:=b1 x e
   have h2:=a1 y e'
   rw [h.asymm h1] at h2;cases h2
  subst hxy
  rw [aEh h r s a2 b2 (fun z=>by
   have hz:=he z
   simp only [List.mem_cons] at hz
   constructor
   ·intro hr
    rcases hz.1 (Or.inr hr) with e | e
    ·subst e;have:=a1 z hr;rw [h.irrefl] at this;cases this
    exact e
   intro hs
   rcases hz.2 (Or.inr hs) with e | e
   ·subst e;have:=b1 z hs;rw [h.irrefl] at this;cases this
   exact e)]
def mS:β→List β→List β
 | _,[]=>[]
 | p,y :: r=>if y=p then mS p r else y :: mS y r
def compO:List β→List β
 | []=>[]
 | x :: r=>x :: mS x r
theorem aHn (y:β):∀ (L:List β) (p:β),y ∈ p :: mS p L ↔ y ∈ p :: L:=by
 intro L
 induction L with
 | nil=>intro p;rfl
 | cons x r ih =>
  intro p
  unfold mS
  split
  ·rename_i e; subst e
   rw [ih x];simp
  rename_i e
  rw [List.mem_cons,ih x,List.mem_cons,List.mem_cons,List.mem_cons]
theorem aHm (y:β) (L:List β):y ∈ compO L ↔ y ∈ L:=by
 cases L with
 | nil=>rfl
 | cons x r=>exact aHn y r x
def Wsc (lt:β→β→Bool) (L:List β):Prop:=L.Pairwise fun x y=>lt y x=false
theorem aHO (h:STO lt):∀ (L:List β) (p:β),Wsc lt (p :: L)→Asc lt (p :: mS p L):=by
 intro L
 induction L with
 | nil=>intro p _;exact List.pairwise_singleton _ _
 | cons x r ih =>
  intro p hW
  unfold Wsc at hW
  obtain ⟨h1,h2⟩:=List.pairwise_cons.1 hW
  obtain ⟨h3,h4⟩:=List.pairwise_cons.1 h2
  unfold mS
  split
  ·rename_i e;subst e;exact ih x h2
  rename_i e
  have hx:=ih x h2
  have hpx:lt p x=true:=by
   cases hh:lt p x with
   | true=>rfl
   | false=>exact absurd (h.total x p (h1 x dr) hh) e
  refine List.pairwise_cons.2 ⟨fun y hy=>?_,hx⟩
  rcases List.mem_cons.1 hy with rfl | hy
  ·exact hpx
  exact h.trans _ _ _ hpx ((List.pairwise_cons.1 hx).1 y hy)
theorem aHN (h:STO lt) {L:List β} (hW:Wsc lt L):Asc lt (compO L):=by
 cases L with
 | nil=>exact List.Pairwise.nil
 | cons x r=>exact aHO h r x hW
theorem aDS (h:STO lt) {L M:List β} (hW:Wsc lt M) (he:∀ y,y ∈ M ↔ y ∈ L):compO M=qY lt L :=
 aEh h _ _ (aHN h hW) (aFw h L) (fun y=>by rw [aHm,aFc h,he])
theorem aFs (L:List β) (x y:β):compO (L ++ [x,y])=if y=x then compO (L ++ [x]) else compO (L ++ [x]) ++ [y]:=by
 have key:∀ (L:List β) (p x:β),mS p (L ++ [x,y])=if y=x then mS p (L ++ [x]) else mS p (L ++ [x]) ++ [y]:=by
  intro L
  induction L with
  | nil =>
   intro p x
   simp only [List.nil_append,mS]
   by_cases h1:x=p
   ·subst h1;by_cases h2:y=x <;> simp [h2]
   by_cases h2:y=x <;> simp [h1,h2]
  | cons z r ih =>
   intro p x
   simp only [List.cons_append,mS]
   split
   ·exact ih p x
   rw [ih z x];split <;> simp
 cases L with
 | nil=>simp only [List.nil_append,compO,mS];split <;> simp
 | cons z r =>
  simp only [List.cons_append,compO]
  rw [key];split <;> simp
end
theorem yZ {w:World} {g:Nat} {t:TypeId} {n:UInt64} (h:Blk w g t (nmc n)) (r:UInt64):(storeCells ⟨g,0,none⟩ (nmc r).toList).run prog w=.ok () (w.setCells g 0 (nmc r).toList):=by
 have hl:(nmc r).toList.length=8:=by rw [bW,aT,aK]
 have:=run_storeCells_cells (P:=prog) g 0 (nmc r).toList 0 w (fun j hj=>by rw [Nat.add_zero,Nat.zero_add,h.cell j,Array.getElem?_eq_getElem (by rw [dD];omega)];rfl) (fun j hj=>h.frozen _) (by rw [bW];exact dU _)
 exact this
theorem aEr (pub m:UInt64) (A:Option Addr) (n c:Nat) (l:List UInt8) (w:World) (h:SlB w A n c l) (hn:n=186) (hlf:aZ l 0 2 < 32) :
  Calls prog 122 #[.agg (nmc pub),.int .i64 1,.agg (nmc m),.slice A n c] w fun e w'=>e=.returned (.bool (decide (eH l 2 (aZ l 0 2 % 32) m=pub)))∧Ext w w':=by
 subst hn
 have hE:=((Ext.refl w).alloc' (.cells (nmc pub) 50)).alloc' (.cells (nmc m) 50)
 have hbp:=(Blk.new w 50 (nmc pub)).alloc (.cells (nmc m) 50)
 have hbm:Blk ((w.alloc (.cells (nmc pub) 50)).alloc (.cells (nmc m) 50)) (w.heap.size+1) 50 (nmc m):=Blk.newAt _ _ _ _ dr
 have HE:=zh hE
 have HP:=zh hbp
 have hrm:=dL hbm
 have HL:=zh (sG A 186 c l _ (h.ext HE.out) aa)
 have HH:=zh (h.ext HE.out)
 have hcap:=h.cap
 clear h hE hbp hbm
 generalize hx:aZ l 0 2=x at *
 clear hx
 have hq:=fun w=>cE (eH l 2 (x % 32) m) pub w
 go_enter func122,ntmps122
 go_wp2_with fail
 refine HL.out.mono ?_
 rintro e w1 ⟨rfl,rfl⟩
 go_wp2_with (first | (go_at_call 182;refine (rM 1 _).mono ?_;rintro e w1 ⟨rfl,rfl⟩;rw [show eT 1=186 from rfl]) | (go_at_call 183;refine (kO 1 _).mono ?_;rintro e w1 ⟨rfl,rfl⟩;rw [show lL 1=32 from rfl]) | (with_reducible refine aM rfl (.tmp 6) rfl (w.heap.size+1) 0 rfl m hrm ?_))
 refine zcl (qW A 186 c l 2 (x % 32) _ _ rfl aa m _ HH.out aa aa aa) fun w2 he2=>?_
 have HP2:=zh (HP.out.ext he2)
 have HE2:=zh (HE.out.trans he2)
 clear hrm he2
 generalize hr0:eH l 2 (x % 32) m=r at *
 have HR0:=zh hr0
 clear hr0
 have hst:=cW w2 w2.heap.size rfl r
 have hr:=dL (Blk.new w2 50 (nmc r))
 have hp:=dL (HP2.out.alloc (.cells (nmc r) 50))
 go_wp2_with (first | (with_reducible refine aM rfl (.tmp 11) rfl w2.heap.size 0 rfl r hr ?_) | (with_reducible refine aM rfl (.tmp 4) rfl w.heap.size 0 rfl pub hp ?_))
 go_ret
 exact ⟨by rw [HR0.out];rfl,HE2.out.alloc' _⟩
theorem aEq (pub m:UInt64) (A:Option Addr) (n c:Nat) (l:List UInt8) (w:World) (h:SlB w A n c l) (hn:n=370) (hlf:aZ l 0 2 < 1024) :
  Calls prog 122 #[.agg (nmc pub),.int .i64 2,.agg (nmc m),.slice A n c] w fun e w'=>e=.returned (.bool (decide (eH l 186 (aZ l 0 2 / 32) (eH l 2 (aZ l 0 2 % 32) m)=pub)))∧Ext w w':=by
 subst hn
 have hE:=((Ext.refl w).alloc' (.cells (nmc pub) 50)).alloc' (.cells (nmc m) 50)
 have hbp:=(Blk.new w 50 (nmc pub)).alloc (.cells (nmc m) 50)
 have hbm:Blk ((w.alloc (.cells (nmc pub) 50)).alloc (.cells (nmc m) 50)) (w.heap.size+1) 50 (nmc m):=Blk.newAt _ _ _ _ dr
 have HE:=zh hE
 have HP:=zh hbp
 have hrm:=dL hbm
 have HL:=zh (sG A 370 c l _ (h.ext HE.out) aa)
 have HH:=zh (h.ext HE.out)
 have hcap:=h.cap
 clear h hE hbp hbm
 generalize hx:aZ l 0 2=x at *
 clear hx
 go_enter func122,ntmps122
 go_wp2_with fail
 refine HL.out.mono ?_
 rintro e w1 ⟨rfl,rfl⟩
 go_wp2_with (first | (go_at_call 182;refine (rM 2 _).mono ?_;rintro e w1 ⟨rfl,rfl⟩;rw [show eT 2=370 from rfl]) | (go_at_call 183;refine (kO 2 _).mono ?_;rintro e w1 ⟨rfl,rfl⟩;rw [show lL 2=1024 from rfl]) | (with_reducible refine aM rfl (.tmp 6) rfl (w.heap.size+1) 0 rfl m hrm ?_))
 refine zcl (qW A 370 c l 2 (x % 32) _ _ rfl aa m _ HH.out aa aa aa) fun w2 he2=>?_
 have HP2:=zh (HP.out.ext he2)
 have HE2:=zh (HE.out.trans he2)
 have HH2:=zh (HH.out.ext he2)
 clear hrm he2
 generalize hr0:eH l 2 (x % 32) m=r at *
 have HR0:=zh hr0
 clear hr0
 have hst:=cW w2 w2.heap.size rfl r
 have hA:=(Ext.refl w2).alloc' (.cells (nmc r) 50)
 have HB:=zh (Blk.new w2 50 (nmc r))
 have hr:=dL HB.out
 have HH3:=zh (HH2.out.ext hA)
 have HP3:=zh (HP2.out.ext hA)
 have HE3:=zh (HE2.out.trans hA)
 clear hA
 go_wp2_with (with_reducible refine aM rfl (.tmp 11) rfl w2.heap.size 0 rfl r hr ?_)
 clear hr hst
 generalize w2.alloc (.cells (nmc r) 50)=W2 at *
 refine zcl (qW A 370 c l 186 (x / 32) _ _ rfl aa r _ HH3.out aa aa aa) fun w3 he3=>?_
 have HB3:=zh (HB.out.ext he3)
 have HP4:=zh (HP3.out.ext he3)
 have HE4:=zh (HE3.out.trans he3)
 have hlt:=HP.out.lt
 have hne:w.heap.size ≠ w2.heap.size:=by have:=HE2.out.size;have:=HP2.out.lt;omega
 clear he3
 generalize hr1:eH l 186 (x / 32) r=r2 at *
 have HR1:=zh hr1
 clear hr1
 have hq:=fun w=>cE r2 pub w
 have hst:=yZ HB3.out r2
 have hr2:=dL (aJC HB3.out r2)
 have hp2:=dL (HP4.out.setCells_far hne (nmc r2).toList 0)
 go_wp2_with (first | (with_reducible refine aM rfl (.tmp 11) rfl w2.heap.size 0 rfl r2 hr2 ?_) | (with_reducible refine aM rfl (.tmp 4) rfl w.heap.size 0 rfl pub hp2 ?_))
 go_ret
 exact ⟨by rw [HR0.out,HR1.out];rfl,Below.setCells' HE4.out HE2.out.size _ _⟩
theorem wH (pub m:UInt64) (lv:Int) (A:Option Addr) (n c:Nat) (l:List UInt8) (w:World) (h:SlB w A n c l) :
  Calls prog 122 #[.agg (nmc pub),.int .i64 lv,.agg (nmc m),.slice A n c] w fun e w'=>e=.returned (.bool (gS pub lv m l))∧Ext w w':=by
 have hlen:=h.len
 by_cases hs:eT lv=(n:Int)
 ·by_cases hc : lL lv ≤ (aZ l 0 2 : Int)
  ·rw [aCs pub lv m l hc]
   exact aAr pub m lv A n c l w h (.inr (.inr hc))
  by_cases h1:lv=1
  ·subst h1
   have hn:n=186:=by have:(186:Int)=(n:Int):=hs;omega
   have hlf:aZ l 0 2 < 32:=by have:¬ (32:Int)≤(aZ l 0 2:Int):=hc;omega
   have hv:gS pub 1 m l=decide (eH l 2 (aZ l 0 2 % 32) m=pub):=by
    exact Bd
   rw [hv]
   exact aEr pub m A n c l w h hn hlf
  by_cases h2:lv=2
  ·subst h2
   have hn:n=370:=by have:(370:Int)=(n:Int):=hs;omega
   have hlf:aZ l 0 2 < 1024:=by have:¬ (1024:Int)≤(aZ l 0 2:Int):=hc;omega
   have hv:gS pub 2 m l=decide (eH l 186 (aZ l 0 2 / 32) (eH l 2 (aZ l 0 2 % 32) m)=pub):=by
    exact yy
   rw [hv]
   exact aEq pub m A n c l w h hn hlf
  exact absurd (show lL lv≤(aZ l 0 2:Int) by rw [show lL lv=0 from by simp [lL,h1,h2]];omega) hc
 rw [mX pub lv m l (by rw [hlen];exact hs)]
 exact aAr pub m lv A n c l w h (.inr (.inl hs))
end
section
open Go.Shelf
def wM:Go.Shelf.Ren:=⟨fun | 6=>51 | 15=>116 | 14=>115 | 28=>179 | 29=>180 | 20=>171 | 21=>172 | 22=>173 | 23=>174 | 24=>175 | 25=>176 | 26=>177 | 27=>178 | 46=>215 | 47=>216 | 48=>217 | 49=>218 | 50=>219 | 57=>237 | n=>n,fun | 22=>90 | 24=>61 | 25=>94 | 3=>3 | 39=>146 | 0=>0 | 53=>199 | 55=>165 | 4=>4 | 46=>193 | 45=>192 | 50=>149 | 5=>5 | 9=>9 | 66=>222 | 70=>226 | 76=>235 | 77=>236 | n=>n,fun | n=>n⟩
theorem aIj:Go.Proofs.SlLaysF0.n6 prog wM:={
 mixed:=by kernel_rfl
 f6:=⟨Tryz.f51.name,by decide,func51.trans (congrArg some (by kernel_rfl))⟩
 f14:=⟨Tryz.f115.name,by decide,func115.trans (congrArg some (by kernel_rfl))⟩
 f15:=func116.trans (congrArg some (by kernel_rfl))
 f20:=⟨Tryz.f171.name,by decide,func171.trans (congrArg some (by kernel_rfl))⟩
 f21:=⟨Tryz.f172.name,by decide,func172.trans (congrArg some (by kernel_rfl))⟩
 f22:=⟨Tryz.f173.name,by decide,func173.trans (congrArg some (by kernel_rfl))⟩
 f23:=⟨Tryz.f174.name,by decide,func174.trans (congrArg some (by kernel_rfl))⟩
 f24:=⟨Tryz.f175.name,by decide,func175.trans (congrArg some (by kernel_rfl))⟩
 f25:=⟨Tryz.f176.name,by decide,func176.trans (congrArg some (by kernel_rfl))⟩
 f26:=⟨Tryz.f177.name,by decide,func177.trans (congrArg some (by kernel_rfl))⟩
 f27:=⟨Tryz.f178.name,by decide,func178.trans (congrArg some (by kernel_rfl))⟩
 f28:=func179.trans (congrArg some (by kernel_rfl))
 f29:=func180.trans (congrArg some (by kernel_rfl))
 f46:=⟨Tryz.f215.name,by decide,func215.trans (congrArg some (by kernel_rfl))⟩
 f47:=func216.trans (congrArg some (by kernel_rfl))
 f48:=func217.trans (congrArg some (by kernel_rfl))
 f49:=⟨Tryz.f218.name,by decide,func218.trans (congrArg some (by kernel_rfl))⟩
 f50:=⟨Tryz.f219.name,by decide,func219.trans (congrArg some (by kernel_rfl))⟩
 f57:=⟨Tryz.f237.name,by decide,func237.trans (congrArg some (by kernel_rfl))⟩
 t0:=underlying0
 a0:=Tryz.isAgg0
 z0:=Tryz.sizeOf0
 v0:=Tryz.zeroValue0
 t3:=underlying3
 a3:=Tryz.isAgg3
 z3:=Tryz.sizeOf3
 v3:=Tryz.zeroValue3
 t4:=underlying4
 a4:=Tryz.isAgg4
 z4:=Tryz.sizeOf4
 v4:=Tryz.zeroValue4
 t5:=underlying5
 a5:=Tryz.isAgg5
 z5:=Tryz.sizeOf5
 v5:=Tryz.zeroValue5
 t9:=underlying9
 a9:=Tryz.isAgg9
 z9:=Tryz.sizeOf9
 v9:=Tryz.zeroValue9
 t22:=underlying90
 a22:=Tryz.isAgg90
 z22:=Tryz.sizeOf90
 v22:=Tryz.zeroValue90
 t25:=underlying94
 a25:=Tryz.isAgg94
 z25:=Tryz.sizeOf94
 v25:=Tryz.zeroValue94
 t39:=underlying146
 a39:=Tryz.isAgg146
 z39:=Tryz.sizeOf146
 v39:=Tryz.zeroValue146
 t45:=underlying192
 a45:=Tryz.isAgg192
 z45:=Tryz.sizeOf192
 v45:=Tryz.zeroValue192
 t46:=underlying193
 a46:=Tryz.isAgg193
 z46:=Tryz.sizeOf193
 v46:=Tryz.zeroValue193
 t50:=underlying149
 a50:=Tryz.isAgg149
 z50:=Tryz.sizeOf149
 v50:=Tryz.zeroValue149
 t53:=underlying199
 a53:=Tryz.isAgg199
 z53:=Tryz.sizeOf199
 v53:=Tryz.zeroValue199
 t55:=underlying165
 a55:=Tryz.isAgg165
 z55:=Tryz.sizeOf165
 v55:=Tryz.zeroValue165
 t66:=underlying222
 a66:=Tryz.isAgg222
 z66:=Tryz.sizeOf222
 v66:=Tryz.zeroValue222
 t70:=underlying226
 a70:=Tryz.isAgg226
 z70:=Tryz.sizeOf226
 v70:=Tryz.zeroValue226
 t76:=underlying235
 a76:=Tryz.isAgg235
 z76:=Tryz.sizeOf235
 v76:=Tryz.zeroValue235
 t77:=underlying236
 a77:=Tryz.isAgg236
 z77:=Tryz.sizeOf236
 v77:=Tryz.zeroValue236 }
end
section
open Go.RowKit
attribute [local go_sem ↓] Go.wp_at_zero Go.wp_at_succ
theorem bJ (i:Nat) (hi:i < 8):nb8 0 i=0:=by
 match i,hi with
 | 0,_ | 1,_ | 2,_ | 3,_ | 4,_ | 5,_ | 6,_ | 7,_=>rfl
structure OpV where
 k:Int
 tO:Int
 am:Int
 ul:Int
 va:Int
 lk:UInt64
 hs:UInt64
 pre:List UInt8
 prf:List UInt8
def OpR.v (R:OpR):OpV:=⟨R.k,R.tO,R.am,R.ul,R.va,R.lk,R.hs,R.pre,R.prf⟩
abbrev jX:Array Value:=#[.int .i64 0,.int .i64 0,.int .i64 0,.int .i64 0,.int .i64 0,.int .u8 0,.int .u8 0,.int .u8 0,.int .u8 0,.int .u8 0,.int .u8 0,.int .u8 0,.int .u8 0,.int .u8 0,.int .u8 0,.int .u8 0,.int .u8 0,.int .u8 0,.int .u8 0,.int .u8 0,.int .u8 0,.slice none 0 0,.slice none 0 0]
theorem fP {fn:Func} {p:Tmp} {ty:TypeId} (hres:fn.results=#[.cell p ty]) (tmps:Array Value) (w1:World) (g:Nat) (cs:Array Value) (hp:tmps.getD p undef=.pointer (some ⟨g,0,none⟩)) (hl:(loadVar ty ⟨g,0,none⟩).run prog w1=.ok (.agg cs) w1) :
  (results fn tmps).run prog w1=.ok (.agg cs) w1:=by
 have hp':tmps[p]?.getD undef=.pointer (some ⟨g,0,none⟩):=qk
 simp [results,hres,hp',asAddr,hl]
theorem aLa (z:Int):beI 1 z=[toB z]:=by
 unfold beI cU cU toB
 simp only [List.nil_append]
 congr 2
 omega
theorem cF (A:Option Addr) (n c:Nat) (l:List UInt8) (z:Int) (w:World) (h:SlB w A n c l) (hn:n≤140737488351232) :
  Calls prog 151 #[.slice A n c,.int .i64 z,.int .i64 1] w fun e w'=>∃ A' c',e=.returned (.slice A' (n+1) c')∧OwnB w' w.heap.size 5 A' (n+1) c' (l ++ [toB z])∧Ext w w':=by
 rw [← aLa];exact qK A n c l z 1 aa aa w h hn
def wK (ac sq:Int) (n:Nat):Bool:=decide (0≤ac∧ac≤15∧0≤sq∧sq≤31∧1≤n∧n≤4)
def vTx (ac sq:Int) (L:List OpR):Bool:=wK ac sq L.length && decide (∀ k,k < L.length→vOp (bR L k)=true)
theorem aCv {ac sq:Int} {L:List OpR} (h:wK ac sq L.length=false):vTx ac sq L=false:=by unfold vTx;rw [h,Bool.false_and]
theorem aHZ {ac sq:Int} {L:List OpR} {k:Nat} (hk:k < L.length) (h:vOp (bR L k)=false):vTx ac sq L=false:=by
 unfold vTx;rw [decide_eq_false (p:=∀ k,k < L.length→vOp (bR L k)=true) (fun hh=>by rw [hh k hk] at h;cases h),Bool.and_false]
theorem aFL {ac sq:Int} {L:List OpR} (h:wK ac sq L.length=true) (h2:∀ k,k < L.length→vOp (bR L k)=true):vTx ac sq L=true:=by
 unfold vTx;rw [h,decide_eq_true h2];rfl
theorem dX {ac sq:Int} {L:List OpR} (h:vTx ac sq L=true):(0≤ac∧ac≤15∧0≤sq∧sq≤31∧1≤L.length∧L.length≤4)∧∀ k,k < L.length→vOp (bR L k)=true:=by
 unfold vTx wK at h;simp only [Bool.and_eq_true,decide_eq_true_eq] at h;exact h
def aDT (b:Bool):Int:=if b then 0 else 1
theorem aCt (ac sq:Int) (A:Option Addr) (n c:Nat) (L:List OpR) (w:World) (hS:SlO w A n c L) (hh:0≤ac∧ac≤15∧0≤sq∧sq≤31∧1≤n∧n≤4) :
  Calls prog 49 #[.agg (txA ac sq A n c)] w fun e w'=>e=.returned (.int .i64 (aDT (vTx ac sq L)))∧Ext w w':=by
 have hle:=hS.le
 have hcap:=hS.cap
 have HLEN:=zh hS.len
 have HE:=zh ((Ext.refl w).alloc' (.cells (txA ac sq A n c) 33))
 have HS:=zh hS
 clear hS
 have HH:=zh (show wK ac sq L.length=true by rw [HLEN.out];exact decide_eq_true hh)
 have d1:decide (ac < 0)=false:=decide_eq_false aa
 have d2:decide (16≤ac)=false:=decide_eq_false aa
 have d3:decide (sq < 0)=false:=decide_eq_false aa
 have d4:decide (32≤sq)=false:=decide_eq_false aa
 have d5:decide ((n:Int) < 1)=false:=decide_eq_false aa
 have d6:decide (4 < (n:Int))=false:=decide_eq_false aa
 have hn4:n≤4:=aa
 obtain ⟨b,o,rfl,hr,hb⟩:=HS.out.at aa
 have HR:=zh hr
 have HBL:=zh hb
 clear hr hb hh
 go_enter func49,ntmps49
 go_wp2_with fail
 go_loopw [38] (fun i wr=>∃ k:Nat,k≤n∧i=.int .i64 (k:Int)∧Hid (∀ j,j < k→vOp (bR L j)=true)∧Ext w wr) (fun i _=>n - (intOf i).toNat)
 case atStart=>exact ⟨0,Nat.zero_le _,rfl,zh (fun j hj=>aa),HE.out⟩
 case round =>
  obtain ⟨k,hk,rfl,HP,hX⟩:=hrel
  have HX:=zh hX
  clear hX
  by_cases hlt:k < n
  ·have hr := sA (aY HR.out (HX.out.block b HBL.out)) (k := k) fk
   have HQ:=zh (fun (hx:vOp (bR L k)=true)=>show ∀ j,j < k+1→vOp (bR L j)=true from fun j hj=>by
    exact Bg)
   have HN:=zh (fun (hx:vOp (bR L k)=false)=>show aDT (vTx ac sq L)=1 by rw [aHZ ak hx];rfl)
   have HOK:=zh ((HS.out.nth hlt).ext HX.out)
   have i0:(0:Int)≤(k:Int):=aa
   have i1:(k:Int) < (n:Int):=aa
   obtain ⟨R,hR⟩:=gx (bR L k)
   rw [hR] at hr HQ HN HOK
   clear hR
   have hnew:=aIT wr R
   go_wp2_with (first | (with_reducible refine gC rfl (.tmp 40) rfl b (o+k * 23) rfl R hr ?_) | (with_reducible refine uF rfl (.tmp 4) (.tmp 41) rfl _ rfl R rfl rfl ?_) | (with_reducible refine gC rfl (.tmp 4) rfl wr.heap.size 0 rfl R hnew ?_))
   have HA:=zh ((Ext.refl wr).alloc' (.cells (opA R) 52))
   refine zcl (aCu R _ (HOK.out.ext HA.out)) fun w1 he1=>?_
   have HX1:=zh (HX.out.trans (HA.out.trans he1))
   clear he1 hr
   cases hv:vOp R with
   | true =>
    have HQ':=zh (HQ.out hv)
    clear hv
    go_wp2_with fail
    go_roundw
    case rel=>exact ⟨k+1,aa,ar,HQ',HX1.out⟩
    case measure=>simp [intOf];omega
   | false =>
    have HN':=zh (HN.out hv)
    clear hv
    go_wp2_with fail
    go_ret
    exact ⟨by rw [HN'.out];rfl,HX1.out⟩
  exact xo
theorem aAX (ac sq:Int) (A:Option Addr) (n c:Nat) (L:List OpR) (w:World) (hS:SlO w A n c L) (hh:¬ (0≤ac∧ac≤15∧0≤sq∧sq≤31∧1≤n∧n≤4)) :
  Calls prog 49 #[.agg (txA ac sq A n c)] w fun e w'=>e=.returned (.int .i64 (aDT (vTx ac sq L)))∧Ext w w':=by
 have hle:=hS.le
 have hcap:=hS.cap
 have HLEN:=zh hS.len
 have HE:=zh ((Ext.refl w).alloc' (.cells (txA ac sq A n c) 33))
 have HS:=zh hS
 clear hS
 have HV:=zh (show aDT (vTx ac sq L)=1 by rw [aCv (by rw [HLEN.out];exact decide_eq_false hh)];rfl)
 have hc:ac < 0 ∨ (decide (ac < 0)=false∧16≤ac) ∨ (decide (ac < 0)=false∧decide (16≤ac)=false∧sq < 0) ∨ (decide (ac < 0)=false∧decide (16≤ac)=false∧decide (sq < 0)=false∧32≤sq) ∨ (decide (ac < 0)=false∧decide (16≤ac)=false∧decide (sq < 0)=false∧decide (32≤sq)=false∧(n:Int) < 1) ∨ (decide (ac < 0)=false∧decide (16≤ac)=false∧decide (sq < 0)=false∧decide (32≤sq)=false∧decide ((n:Int) < 1)=false∧4 < (n:Int)):=by
  simp only [decide_eq_false_iff_not];omega
 clear hh HLEN HS
 rcases hc with d1 | ⟨d1,d2⟩ | ⟨d1,d2,d3⟩ | ⟨d1,d2,d3,d4⟩ | ⟨d1,d2,d3,d4,d5⟩ | ⟨d1,d2,d3,d4,d5,d6⟩
 all_goals (
  go_enter func49,ntmps49
  go_wp2_with fail
  go_ret
  exact ⟨bg,HE.out⟩)
theorem fI (ac sq:Int) (A:Option Addr) (n c:Nat) (L:List OpR) (w:World) (hS:SlO w A n c L) :
  Calls prog 49 #[.agg (txA ac sq A n c)] w fun e w'=>e=.returned (.int .i64 (aDT (vTx ac sq L)))∧Ext w w':=by
 by_cases hh:0≤ac∧ac≤15∧0≤sq∧sq≤31∧1≤n∧n≤4
 ·exact aCt ac sq A n c L w hS hh
 exact aAX ac sq A n c L w hS hh
def gA (L:List OpR):List UInt8:=L.flatMap dT
theorem pX (a b:List OpR):gA (a ++ b)=gA a ++ gA b:=by simp [gA]
def nT (ac sq:Int) (L:List OpR):List UInt8:=[toB ac,toB sq,toB (L.length:Int)] ++ gA L
theorem aAQ {R:OpR} {w:World} (hv:vOp R=true) (hR:R.ok w):(dT R).length≤3000:=by
 have h1:=hR.pre.len
 have h2:=hR.prf.len
 have b1:=aAZ hv
 have b2:=aAY hv
 rcases lI R.k with h | h | h | h | h | h | h
 ·rw [aBW h];simp [iG]
 ·rw [aBV h];simp [iG,aK]
 ·rw [aBU h];simp [iG,aK,uW];omega
 ·rw [aBT h];simp [iG,aK]
 ·rw [aBS h];simp [iG]
 ·rw [aBR h];simp [uW];omega
 exact absurd (wJ hv) h
theorem OwnB.len {w:World} {base:Nat} {e:TypeId} {A:Option Addr} {n c:Nat} {l:List UInt8} (h:OwnB w base e A n c l):l.length=n:=h.sl.len
theorem aIA (w:World) (base:Nat) (e:TypeId) (x y z:Int) (g:Nat) (hg:w.heap.size=g) (hb:base≤g) (x' y' z':Int) (hx:x'=((toB x).toNat:Int)) (hy:y'=((toB y).toNat:Int)) (hz:z'=((toB z).toNat:Int)):OwnB (w.alloc (.cells #[.int .u8 x',.int .u8 y',.int .u8 z'] e)) base e (some ⟨g,0,none⟩) 3 3 [toB x,toB y,toB z]:=by
 subst hg;subst hx;subst hy;subst hz
 exact tI (heap_alloc_new w _) hb rfl (Nat.le_refl _) aa rfl rfl
theorem aCB (z:Int):IntKind.u8.wrap z=((toB z).toNat:Int):=eY z
theorem aFq (ac sq:Int) (A:Option Addr) (n c:Nat) (L:List OpR) (w:World) (hS:SlO w A n c L) (hv:vTx ac sq L=true) :
  Calls prog 85 #[.agg (txA ac sq A n c)] w fun e w'=>∃ A' n' c',e=.returned (.slice A' n' c')∧OwnB w' w.heap.size 5 A' n' c' (nT ac sq L)∧n'≤13000∧Ext w w':=by
 obtain ⟨⟨h1,h2,h3,h4,h5,h6⟩,hops⟩:=dX hv
 have hlen:=hS.len
 rw [hlen] at h5 h6
 have hle:=hS.le
 have hcap:=hS.cap
 have hE:=(Ext.refl w).alloc' (.cells (txA ac sq A n c) 33)
 obtain ⟨b,o,rfl,hr0,hb0⟩:=hS.at aa
 have HSW:=zh (hS.ext hE)
 have HLEN:=zh hlen
 have HR0:=zh hr0
 have HBL:=zh hb0
 have HOPS:=zh hops
 have HE:=zh hE
 obtain ⟨w1,hw1⟩:∃ w1,w1=w.alloc (.cells (txA ac sq (some ⟨b,o,none⟩) n c) 33):=⟨_,rfl⟩
 have HW1:=zh hw1
 have HT1:=zh (aCB (n:Int))
 clear hS hE hr0 hb0 hops hlen hv hw1
 go_enter func85,ntmps85
 go_wp2_with fail
 go_loopw [20,3] (fun i v wr=>∃ (k:Nat) (A4:Option Addr) (n4 c4:Nat),k≤n∧i=.int .i64 (k:Int)∧v=.slice A4 n4 c4∧n4≤3+3000 * k∧OwnB wr w1.heap.size 5 A4 n4 c4 ([toB ac,toB sq,toB (n:Int)] ++ gA (L.take k))∧Ext w1 wr) (fun i _ _=>n - (intOf i).toNat)
 case atStart =>
  refine ⟨0,_,3,3,Nat.zero_le _,rfl,rfl,Nat.le_refl _,?_,?_⟩
  ·rw [HW1.out]
   simp only [gA,List.take_zero,List.flatMap_nil,List.append_nil]
   exact aIA _ _ _ _ _ _ _ dr dr _ _ _ dy dy dy
  rw [HW1.out];exact (Ext.refl _).alloc' _
 case round =>
  obtain ⟨k,A4,n4,c4,hk,rfl,rfl,hn4,hO,hX⟩:=hrel
  have HO:=zh hO
  have HX:=zh hX
  clear hO hX
  by_cases hlt:k < n
  ·have HE2 := zh (show Ext w wr from by rw [HW1.out] at HX; exact HE.out.trans HX.out)
   have hr:=sA (aY HR0.out (HE2.out.block b HBL.out)) (k:=k) ak
   have HTK:=zh (pC (L:=L) (k:=k) ak)
   have HOK:=zh (show (bR L k).ok w1 by rw [HW1.out];exact HSW.out.nth hlt)
   have HV:=zh (HOPS.out k ak)
   have i0:(0:Int)≤(k:Int):=aa
   have i1:(k:Int) < (n:Int):=aa
   obtain ⟨R,hR⟩:=gx (bR L k)
   rw [hR] at hr HTK HOK HV
   clear hR
   have hnew:=aIT wr R
   go_wp2_with (first | (with_reducible refine gC rfl (.tmp 22) rfl b (o+k * 23) rfl R hr ?_) | (with_reducible refine uF rfl (.tmp 5) (.tmp 23) rfl _ rfl R rfl rfl ?_) | (with_reducible refine gC rfl (.tmp 5) rfl wr.heap.size 0 rfl R hnew ?_))
   refine (aCj R HV.out w1 A4 n4 c4 _ _ HOK.out (HX.out.alloc' _) (HO.out.alloc _) aa).mono ?_
   rintro e w2 ⟨A5,n5,c5,rfl,hO5,hX5⟩
   have HO7:=zh (show OwnB w2 w1.heap.size 5 A5 n5 c5 ([toB ac,toB sq,toB (n:Int)] ++ gA (L.take (k+1))) by
    rw [HTK.out,pX]
    simpa [gA] using hO5)
   have hn5:n5≤3+3000 * (k+1):=by
    have a1:=hO5.len
    have a2:=HO.out.len
    have a3:=aAQ HV.out HOK.out
    rw [List.length_append,a2] at a1
    omega
   have HX5:=zh hX5
   clear hO5 hX5 hr hnew HO HTK
   go_wp2_with fail
   go_roundw
   case rel=>exact ⟨k+1,A5,n5,c5,aa,ar,rfl,hn5,HO7.out,HX5.out⟩
   case measure=>simp [intOf];omega
  obtain rfl:k=n:=aa
  go_wp2_with fail
  go_ret
  refine ⟨A4,n4,c4,rfl,bA (base:=w1.heap.size) ?_ (by rw [HW1.out];simp),aa,by rw [HW1.out] at HX;exact HE.out.trans HX.out⟩
  have:=HO.out
  exact y6
theorem kY {w:World} {g:Nat} {t:TypeId} {ac sq:Int} {A:Option Addr} {n c:Nat} {S:Option Addr} {m d:Nat} (h:Blk w g t (stA ac sq A n c S m d)):w.cell? ⟨g,0,none⟩=some (.int .i64 ac)∧w.cell? ⟨g,1,none⟩=some (.int .i64 sq)∧w.cell? ⟨g,2,none⟩=some (.slice A n c)∧w.cell? ⟨g,3,none⟩=some (.slice S m d) :=
 ⟨h.cell 0,h.cell 1,h.cell 2,h.cell 3⟩
theorem aAL (x y:UInt64) (w:World):Calls prog 228 #[.agg (nmc x),.agg (nmc y)] w fun e w'=>e=.returned (.bool (decide (un x < un y)))∧Ext w w':=by
 have hE:=((Ext.refl w).alloc' (.cells (nmc x) 50)).alloc' (.cells (nmc y) 50)
 have HB1:=zh ((Blk.new w 50 (nmc x)).alloc (.cells (nmc y) 50))
 have HB2:=zh (show Blk ((w.alloc (.cells (nmc x) 50)).alloc (.cells (nmc y) 50)) (w.heap.size+1) 50 (nmc y) from Blk.newAt _ _ _ _ dr)
 have HE:=zh hE
 obtain ⟨W0,hW0⟩:=gx ((w.alloc (.cells (nmc x) 50)).alloc (.cells (nmc y) 50))
 rw [hW0] at HB1 HB2 HE
 have HC:=zh (fun (W:World) (h:Ext W0 W)=>And.intro (dM (HB1.out.ext h)) (dM (HB2.out.ext h)))
 clear hE
 have hq:=fun W=>cE x y W
 obtain ⟨c1,c2⟩:=HC.out W0 (Ext.refl _)
 by_cases hxy:x=y
 ·have HV := zh (show decide (un x < un y) = false by rw [hxy]; simp)
  rw [decide_eq_true hxy] at hq
  clear hxy
  go_enter func228,ntmps228
  go_wp2_with fail
  go_ret
  exact ⟨bg,HE.out⟩
 rw [decide_eq_false hxy] at hq
 clear hxy
 go_enter func228,ntmps228
 go_wp2_with fail
 clear c1 c2 hq
 refine eV (S:=fun W=>Ext W0 W) ab ab ((Ext.refl W0).drew') ?_
 (refine zzx 0 ?_ (hy:=de))
 (refine cO (i:=1) (oi:=⟨some 9,.call { callee:=.value (.func 144),args:=#[.tmp 8],argTypes:=#[50] },165,"hash.go:47",#[⟨0,.data⟩],none⟩) (v:=?_) rfl ab ab (vU dp (fun W aP K hK=>?hy1)) ?_;case hy1=>(go_simp;go_at_call 144;(with_reducible refine zcl (jM x W) fun w1 he1=>?_);exact hK.out _ (aP.trans he1)))
 try simp only [bB]
 (refine zzx 2 ?_ (hy:=de))
 (refine cO (i:=3) (oi:=⟨some 11,.call { callee:=.value (.func 144),args:=#[.tmp 10],argTypes:=#[50] },165,"hash.go:47",#[⟨2,.data⟩,⟨1,.chain⟩],none⟩) (v:=?_) rfl ab ab (vU dp (fun W aP K hK=>?hy3)) ?_;case hy3=>(go_simp;go_at_call 144;(with_reducible refine zcl (jM y W) fun w1 he1=>?_);exact hK.out _ (aP.trans he1)))
 exact xl
end
section
open Go.RowKit
def lT (seed:UInt64) (a t:Int) (j:Nat) (m:UInt64):List UInt64:=gQ (vJ seed a t (j:Int)) m ++ gP (cJ seed a t) j
theorem aBA (seed:UInt64) (a t:Int) (j:Nat) (m:UInt64) (h:j < 32):(lT seed a t j m).length=23:=by
 have h1:=sO j h
 simp only [lT,gQ,List.length_append,List.length_map,List.length_range,rZ,oS,h1]
@[go_sem] theorem aMl (n:UInt64):Array.foldl (fun (cs:Array Value) (x:Value × Nat)=>cs.setIfInBounds x.snd x.fst) #[.int .u8 0,.int .u8 0,.int .u8 0,.int .u8 0,.int .u8 0,.int .u8 0,.int .u8 0,.int .u8 0,.int .i64 0,.map none] (nmc n).zipIdx 0 8=#[.int .u8 (nb8 n 0),.int .u8 (nb8 n 1),.int .u8 (nb8 n 2),.int .u8 (nb8 n 3),.int .u8 (nb8 n 4),.int .u8 (nb8 n 5),.int .u8 (nb8 n 6),.int .u8 (nb8 n 7),.int .i64 0,.map none]:=by
 rw [← gI n]
 kernel_rfl
theorem aIm (seed m:UInt64) (leaf t r:Nat) (h:leaf=32 * t+r) (hl:leaf < 32):oI seed 1 (leaf:Int) m=some ([toB ((leaf:Int) / 256),toB (leaf:Int)] ++ (lT seed 1 (t:Int) r m).flatMap nmb):=by
 obtain rfl:t=0:=aa
 obtain rfl:leaf=r:=aa
 unfold oI
 rw [if_pos ⟨rfl,aa,aa⟩,Int.toNat_natCast]
 congr 1
 simp only [yW,lT,List.flatMap_append,List.append_assoc]
 rw [show (leaf:Int) / 256=0 from aa]
 rfl
theorem aIl (seed m:UInt64) (leaf t r:Nat) (h:leaf=32 * t+r) (hr:r < 32) (hl:leaf < 1024):oI seed 2 (leaf:Int) m=some ([toB ((leaf:Int) / 256),toB (leaf:Int)] ++ (lT seed 1 (t:Int) r m).flatMap nmb ++ (lT seed 2 0 t (dS (cJ seed 1 (t:Int)))).flatMap nmb):=by
 unfold oI
 rw [if_neg aa,if_pos ⟨rfl,aa,aa⟩,Int.toNat_natCast,← aFS seed m leaf t r hr h]
 have e3:(leaf:Int).tmod 32=(r:Int):=by
  rw [Int.tmod_eq_emod_of_nonneg aa];omega
 rw [e3]
 simp only [lT,List.flatMap_append,List.append_assoc]
end
end Go.Proofs.YtgmnmjeccfnmbaaGreat
