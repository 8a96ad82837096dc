/- AppendBytes, appendOp (the program's): the encoding of an operation. -/
import Derived.Test.YtohmmcahpakokaaGreatJ08
set_option maxRecDepth 100000
set_option maxHeartbeats 8000000
set_option linter.unusedVariables false
set_option linter.unusedSimpArgs false
namespace Go.Proofs.YtohmmcahpakokaaGreat
section
open Go.RowKit
attribute [local go_sem ↓] Go.wp_at_zero Go.wp_at_succ
def rJ (p:List UInt8):List UInt8:=beI 2 (p.length:Int) ++ p
theorem sH (p:List UInt8):(rJ p).length=2+p.length:=by simp [rJ,iF]
def dF (R:OpR):List UInt8 :=
 [toB R.k] ++ (if fTo R.k then [toB R.tO] else []) ++ (if fVa R.k then [toB R.va] else []) ++ (if fAm R.k then beI 6 R.am else []) ++ (if fUl R.k then beI 2 R.ul else []) ++ (if fUl R.k then nmb R.hs else []) ++ (if fLk R.k then nmb R.lk else []) ++ (if aAp R.k then rJ R.pre else []) ++ (if aAo R.k then rJ R.prf else [])
theorem aAz {R:OpR} (h:R.k=1):dF R=[toB R.k] ++ [toB R.tO] ++ beI 6 R.am:=by simp [dF,h,fTo,fVa,fAm,fUl,fLk,aAp,aAo]
theorem aAy {R:OpR} (h:R.k=2):dF R=[toB R.k] ++ [toB R.tO] ++ beI 6 R.am ++ beI 2 R.ul ++ nmb R.hs:=by simp [dF,h,fTo,fVa,fAm,fUl,fLk,aAp,aAo]
theorem aAx {R:OpR} (h:R.k=3):dF R=[toB R.k] ++ [toB R.tO] ++ beI 6 R.am ++ nmb R.lk ++ rJ R.pre:=by simp [dF,h,fTo,fVa,fAm,fUl,fLk,aAp,aAo]
theorem aAw {R:OpR} (h:R.k=4):dF R=[toB R.k] ++ [toB R.tO] ++ beI 6 R.am ++ nmb R.lk:=by simp [dF,h,fTo,fVa,fAm,fUl,fLk,aAp,aAo]
theorem aAv {R:OpR} (h:R.k=5):dF R=[toB R.k] ++ [toB R.va] ++ beI 6 R.am:=by simp [dF,h,fTo,fVa,fAm,fUl,fLk,aAp,aAo]
theorem aAu {R:OpR} (h:R.k=6):dF R=[toB R.k] ++ [toB R.va] ++ rJ R.prf:=by simp [dF,h,fTo,fVa,fAm,fUl,fLk,aAp,aAo]
theorem tG {R:OpR} (h:vOp R=true):1≤R.k∧R.k≤6:=by
 unfold vOp at h;simp only [Bool.and_eq_true,decide_eq_true_eq] at h;exact h.1
theorem yW {R:OpR} (h:vOp R=true):R.n1≤32:=by
 unfold vOp aQ at h;simp only [Bool.and_eq_true,decide_eq_true_eq] at h
 have:=h.2.2.2.2.2.1
 split at this <;> simp only [decide_eq_true_eq] at this <;> omega
theorem yV {R:OpR} (h:vOp R=true):R.n2≤2000:=by
 unfold vOp aQ at h;simp only [Bool.and_eq_true,decide_eq_true_eq] at h
 have:=h.2.2.2.2.2.2.1
 split at this <;> simp only [decide_eq_true_eq] at this <;> omega
theorem eK (A:Option Addr) (n c:Nat) (l:List UInt8) (z:Int) (wd:Nat) (hwd:wd≤8) (w:World) (h:SlB w A n c l) (hn:n≤140737488351232) :
  Calls Tryz.prog 220 #[.slice A n c,.int .u64 (un (uI z)),.int .i64 (wd:Int)] w fun e w'=>∃ A' c',e=.returned (.slice A' (n+wd) c')∧OwnB w' w.heap.size 5 A' (n+wd) c' (l ++ beI wd z)∧Ext w w':=by
 have:=wA A n c l (uI z) wd hwd w h hn
 rw [aCN] at this;exact this
section
variable {P:Program} {t e:TypeId}
theorem bP {ops:Array Oper} {rest:List Oper} {o:Oper} {a:Act} {w:World} {Q:Exit→Act→World→Prop} (E:Elem P t e (.int .u8 0) 1 1) (hgd:o.guard=none) (s x:Operand)
  (ho:o.op=.call { callee:=.builtin .append,args:=#[s,x],argTypes:=#[t,t] })
  (base:Nat) (A:Option Addr) (n c:Nat) (l:List UInt8) (hs:a.eval s=.slice A n c) (hown:OwnB w base e A n c l)
  (A2:Option Addr) (m c2:Nat) (l2:List UInt8) (hx:a.eval x=.slice A2 m c2) (hr:SlB w A2 m c2 l2)
  (hb:n+m≤140737488355328) (hbase:base≤w.heap.size)
  (h:∀ A' c' w',OwnB w' base e A' (n+m) c' (l ++ l2)→w.grownBy w' (Value.ownBlock (.slice A n c))→wpList P ops Q rest (a.put o.dst (.slice A' (n+m) c')) w'):wpList P ops Q (o :: rest) a w:=by
 refine wpList_plain hgd fun K hK=>nZ E s x ho base A n c (bcs l) hs hown A2 m c2 (bcs l2) hx hr.rd (by rw [aJ,hr.len,Nat.mul_one]) (dW l2) (by omega) (by omega) hbase fun A' c' w' h2 h3=>hK _ _ (h A' c' w' ?_ h3)
 unfold OwnB;rw [eJ];exact h2
end
theorem lY (A:Option Addr) (n c:Nat) (l:List UInt8) (P:Option Addr) (m d:Nat) (p:List UInt8) (w:World) (h:SlB w A n c l) (hp:SlB w P m d p) (hm:m≤65535) (hn:n≤1000000000) :
  Calls Tryz.prog 221 #[.slice A n c,.slice P m d] w fun e w'=>∃ A' n' c',e=.returned (.tuple #[.slice A' n' c',.bool true])∧OwnB w' w.heap.size 5 A' n' c' (l ++ rJ p)∧Ext w w':=by
 have hu:=pD (m:Int)
 have hlen:=hp.len
 have HA:=zh (eK A n c l (m:Int) 2 (by omega) w h (by omega))
 have HP:=zh hp
 have HB:=zh (show rJ p=beI 2 (m:Int) ++ p by unfold rJ;rw [hlen])
 have d1:decide (65535 < (m:Int))=false:=decide_eq_false (by omega)
 clear h hp hlen
 generalize uI (m:Int)=u at *
 go_enter Tryz.func221,Tryz.ntmps221
 go_wp2_with fail
 refine HA.out.mono ?_
 rintro e w1 ⟨A1,c1,rfl,hO1,he1⟩
 have HO1:=zh hO1
 have HE1:=zh he1
 clear hO1 he1
 go_wp2_with (at_builtin;go_must (refine bZ bI rfl (.tmp 13) (.tmp 14) rfl w.heap.size A1 _ c1 _ rfl HO1.out P m d p rfl (HP.out.ext HE1.out) (by omega) HE1.out.size w HE1.out ?_))
 intro A2 c2 w2 hO2 hE2 hs2
 have HO2:=zh hO2
 clear hO2
 go_wp2_with fail
 go_ret2
 exact ⟨A2,_,c2,rfl,by rw [HB.out];simpa using HO2.out,hE2⟩
structure ApS (w0 w:World) (B:Nat) (R:OpR) (A:Option Addr) (n c:Nat) (l:List UInt8):Prop where
 box:Blk w B 69 (opA R)
 own:OwnB w w0.heap.size 5 A n c l
 low:Ext w0 w
section
variable {w0 w w':World} {B:Nat} {R:OpR} {A A':Option Addr} {n n' c c':Nat} {l l':List UInt8}
theorem ApS.app {w2:World} (h:ApS w0 w B R A n c l) (he:Ext w w2) (hO:OwnB w' w0.heap.size 5 A' n' c' l') (hg:w2.grownBy w' (Value.ownBlock (.slice A n c))):ApS w0 w' B R A' n' c' l':=by
 have hb:=h.box.ext he
 have ho:=OwnB.ext h.own he
 exact ⟨hb.grown hg (aI ho hb (by decide)),hO,Below.grown (h.low.trans he) hg (h.low.trans he).size (fun k hk=>(aGH ho k hk).1)⟩
theorem ApS.call (h:ApS w0 w B R A n c l) (hO:OwnB w' w.heap.size 5 A' n' c' l') (he:Ext w w'):ApS w0 w' B R A' n' c' l' :=
 ⟨h.box.ext he,bB hO h.low.size,h.low.trans he⟩
end
theorem aLf {w:World} {B:Nat} {R:OpR} {t:TypeId} (h:Blk w B t (opA R)):SlB w (some ⟨B,13,none⟩) 8 8 (nmb R.hs) :=
 ⟨aG _,Nat.le_refl _,by omega,.inr ⟨B,13,rfl,by have:=aU (k:=8) (bR (k:=13) (aD h));rw [fF];simpa using this⟩⟩
theorem aJp {w:World} {B:Nat} {R:OpR} {t:TypeId} (h:Blk w B t (opA R)):SlB w (some ⟨B,5,none⟩) 8 8 (nmb R.lk) :=
 ⟨aG _,Nat.le_refl _,by omega,.inr ⟨B,5,rfl,by have:=aU (k:=8) (bR (k:=5) (aD h));rw [fF];simpa using this⟩⟩
theorem aDQ (R:OpR) (h:R.k=1) (hv:vOp R=true) (w0:World) (A:Option Addr) (n c:Nat) (l:List UInt8) (w:World) (hR:R.ok w0) (hE:Ext w0 w) (hO:OwnB w w0.heap.size 5 A n c l) (hn:n≤1000000) :
  Calls Tryz.prog 168 #[.slice A n c,.agg (opA R)] w fun e w'=>∃ A' n' c',e=.returned (.slice A' n' c')∧OwnB w' w0.heap.size 5 A' n' c' (l ++ dF R)∧Ext w0 w':=by
 have HU:=zh (fun W=>dX R.k W)
 rw [show jI R.k=5 from by rw [h];decide] at HU
 have HEN:=zh (aAz h)
 have u_am:=pD R.am
 have hA:=(Ext.refl w).alloc' (.cells (opA R) 69)
 have S0:=zh (show ApS w0 (w.alloc (.cells (opA R) 69)) w.heap.size R A n c l from ⟨Blk.new w _ _,OwnB.ext hO hA,hE.trans hA⟩)
 have HR:=zh hR
 clear hR hE hO h hv hA
 go_enter Tryz.func168,Tryz.ntmps168
 go_wp2_with fail
 refine (HU.out _).mono ?_
 rintro e wv ⟨rfl,rfl⟩
 have q0:(w.alloc (.cells (opA R) 69)).cell? ⟨w.heap.size,0,none⟩=some (.int .i64 R.k):=S0.out.box.cell 0
 go_wp2_with (at_builtin;go_must (refine bP bI rfl (.tmp 9) (.tmp 13) rfl w0.heap.size A _ c _ rfl (S0.out.own.alloc _) _ 1 1 [toB R.k] rfl (SlB.new1 _ _ _ _ _ (by first | rfl | simp) (by first | exact bT _ | exact dY _)) (by omega) (S0.out.low.alloc' _).size ?_))
 intro A1 c1 w1 hO1 hg1
 have S1:=zh (S0.out.app ((Ext.refl _).alloc' _) hO1 hg1)
 clear hO1 hg1 q0 S0
 have q1:w1.cell? ⟨w.heap.size,1,none⟩=some (.int .i64 R.tO):=S1.out.box.cell 1
 go_wp2_with (at_builtin;go_must (refine bP bI rfl (.tmp 18) (.tmp 22) rfl w0.heap.size A1 _ c1 _ rfl (S1.out.own.alloc _) _ 1 1 [toB R.tO] rfl (SlB.new1 _ _ _ _ _ (by first | rfl | simp) (by first | exact bT _ | exact dY _)) (by omega) (S1.out.low.alloc' _).size ?_))
 intro A2 c2 w2 hO2 hg2
 have S2:=zh (S1.out.app ((Ext.refl _).alloc' _) hO2 hg2)
 clear hO2 hg2 q1 S1
 have q2:w2.cell? ⟨w.heap.size,2,none⟩=some (.int .i64 R.am):=S2.out.box.cell 2
 go_wp2_with fail
 refine (eK _ _ _ _ R.am 6 (by omega) _ S2.out.own.sl (by omega)).mono ?_
 rintro e w3 ⟨A3,c3,rfl,hO3,he3⟩
 have S3:=zh (S2.out.call hO3 he3)
 clear hO3 he3 q2 S2
 go_wp2_with fail
 go_ret
 refine ⟨A3,_,c3,rfl,?_,S3.out.low⟩
 rw [HEN.out];simpa using S3.out.own
theorem aDP (R:OpR) (h:R.k=2) (hv:vOp R=true) (w0:World) (A:Option Addr) (n c:Nat) (l:List UInt8) (w:World) (hR:R.ok w0) (hE:Ext w0 w) (hO:OwnB w w0.heap.size 5 A n c l) (hn:n≤1000000) :
  Calls Tryz.prog 168 #[.slice A n c,.agg (opA R)] w fun e w'=>∃ A' n' c',e=.returned (.slice A' n' c')∧OwnB w' w0.heap.size 5 A' n' c' (l ++ dF R)∧Ext w0 w':=by
 have HU:=zh (fun W=>dX R.k W)
 rw [show jI R.k=29 from by rw [h];decide] at HU
 have HEN:=zh (aAy h)
 have u_am:=pD R.am
 have u_ul:=pD R.ul
 have hA:=(Ext.refl w).alloc' (.cells (opA R) 69)
 have S0:=zh (show ApS w0 (w.alloc (.cells (opA R) 69)) w.heap.size R A n c l from ⟨Blk.new w _ _,OwnB.ext hO hA,hE.trans hA⟩)
 have HR:=zh hR
 clear hR hE hO h hv hA
 go_enter Tryz.func168,Tryz.ntmps168
 go_wp2_with fail
 refine (HU.out _).mono ?_
 rintro e wv ⟨rfl,rfl⟩
 have q0:(w.alloc (.cells (opA R) 69)).cell? ⟨w.heap.size,0,none⟩=some (.int .i64 R.k):=S0.out.box.cell 0
 go_wp2_with (at_builtin;go_must (refine bP bI rfl (.tmp 9) (.tmp 13) rfl w0.heap.size A _ c _ rfl (S0.out.own.alloc _) _ 1 1 [toB R.k] rfl (SlB.new1 _ _ _ _ _ (by first | rfl | simp) (by first | exact bT _ | exact dY _)) (by omega) (S0.out.low.alloc' _).size ?_))
 intro A1 c1 w1 hO1 hg1
 have S1:=zh (S0.out.app ((Ext.refl _).alloc' _) hO1 hg1)
 clear hO1 hg1 q0 S0
 have q1:w1.cell? ⟨w.heap.size,1,none⟩=some (.int .i64 R.tO):=S1.out.box.cell 1
 go_wp2_with (at_builtin;go_must (refine bP bI rfl (.tmp 18) (.tmp 22) rfl w0.heap.size A1 _ c1 _ rfl (S1.out.own.alloc _) _ 1 1 [toB R.tO] rfl (SlB.new1 _ _ _ _ _ (by first | rfl | simp) (by first | exact bT _ | exact dY _)) (by omega) (S1.out.low.alloc' _).size ?_))
 intro A2 c2 w2 hO2 hg2
 have S2:=zh (S1.out.app ((Ext.refl _).alloc' _) hO2 hg2)
 clear hO2 hg2 q1 S1
 have q2:w2.cell? ⟨w.heap.size,2,none⟩=some (.int .i64 R.am):=S2.out.box.cell 2
 go_wp2_with fail
 refine (eK _ _ _ _ R.am 6 (by omega) _ S2.out.own.sl (by omega)).mono ?_
 rintro e w3 ⟨A3,c3,rfl,hO3,he3⟩
 have S3:=zh (S2.out.call hO3 he3)
 clear hO3 he3 q2 S2
 have q3:w3.cell? ⟨w.heap.size,3,none⟩=some (.int .i64 R.ul):=S3.out.box.cell 3
 go_wp2_with fail
 refine (eK _ _ _ _ R.ul 2 (by omega) _ S3.out.own.sl (by omega)).mono ?_
 rintro e w4 ⟨A4,c4,rfl,hO4,he4⟩
 have S4:=zh (S3.out.call hO4 he4)
 clear hO4 he4 q3 S3
 go_wp2_with (at_builtin;go_must (refine bP bI rfl (.tmp 52) (.tmp 54) rfl w0.heap.size A4 _ c4 _ rfl S4.out.own _ 8 8 (nmb R.hs) rfl (aLf S4.out.box) (by omega) S4.out.low.size ?_))
 intro A5 c5 w5 hO5 hg5
 have S5:=zh (S4.out.app (Ext.refl _) hO5 hg5)
 clear hO5 hg5 S4
 go_wp2_with fail
 go_ret
 refine ⟨A5,_,c5,rfl,?_,S5.out.low⟩
 rw [HEN.out];simpa using S5.out.own
theorem aDO (R:OpR) (h:R.k=3) (hv:vOp R=true) (w0:World) (A:Option Addr) (n c:Nat) (l:List UInt8) (w:World) (hR:R.ok w0) (hE:Ext w0 w) (hO:OwnB w w0.heap.size 5 A n c l) (hn:n≤1000000) :
  Calls Tryz.prog 168 #[.slice A n c,.agg (opA R)] w fun e w'=>∃ A' n' c',e=.returned (.slice A' n' c')∧OwnB w' w0.heap.size 5 A' n' c' (l ++ dF R)∧Ext w0 w':=by
 have HU:=zh (fun W=>dX R.k W)
 rw [show jI R.k=101 from by rw [h];decide] at HU
 have HEN:=zh (aAx h)
 have b1:=yW hv
 have u_am:=pD R.am
 have hA:=(Ext.refl w).alloc' (.cells (opA R) 69)
 have S0:=zh (show ApS w0 (w.alloc (.cells (opA R) 69)) w.heap.size R A n c l from ⟨Blk.new w _ _,OwnB.ext hO hA,hE.trans hA⟩)
 have HR:=zh hR
 clear hR hE hO h hv hA
 go_enter Tryz.func168,Tryz.ntmps168
 go_wp2_with fail
 refine (HU.out _).mono ?_
 rintro e wv ⟨rfl,rfl⟩
 have q0:(w.alloc (.cells (opA R) 69)).cell? ⟨w.heap.size,0,none⟩=some (.int .i64 R.k):=S0.out.box.cell 0
 go_wp2_with (at_builtin;go_must (refine bP bI rfl (.tmp 9) (.tmp 13) rfl w0.heap.size A _ c _ rfl (S0.out.own.alloc _) _ 1 1 [toB R.k] rfl (SlB.new1 _ _ _ _ _ (by first | rfl | simp) (by first | exact bT _ | exact dY _)) (by omega) (S0.out.low.alloc' _).size ?_))
 intro A1 c1 w1 hO1 hg1
 have S1:=zh (S0.out.app ((Ext.refl _).alloc' _) hO1 hg1)
 clear hO1 hg1 q0 S0
 have q1:w1.cell? ⟨w.heap.size,1,none⟩=some (.int .i64 R.tO):=S1.out.box.cell 1
 go_wp2_with (at_builtin;go_must (refine bP bI rfl (.tmp 18) (.tmp 22) rfl w0.heap.size A1 _ c1 _ rfl (S1.out.own.alloc _) _ 1 1 [toB R.tO] rfl (SlB.new1 _ _ _ _ _ (by first | rfl | simp) (by first | exact bT _ | exact dY _)) (by omega) (S1.out.low.alloc' _).size ?_))
 intro A2 c2 w2 hO2 hg2
 have S2:=zh (S1.out.app ((Ext.refl _).alloc' _) hO2 hg2)
 clear hO2 hg2 q1 S1
 have q2:w2.cell? ⟨w.heap.size,2,none⟩=some (.int .i64 R.am):=S2.out.box.cell 2
 go_wp2_with fail
 refine (eK _ _ _ _ R.am 6 (by omega) _ S2.out.own.sl (by omega)).mono ?_
 rintro e w3 ⟨A3,c3,rfl,hO3,he3⟩
 have S3:=zh (S2.out.call hO3 he3)
 clear hO3 he3 q2 S2
 go_wp2_with (at_builtin;go_must (refine bP bI rfl (.tmp 59) (.tmp 61) rfl w0.heap.size A3 _ c3 _ rfl S3.out.own _ 8 8 (nmb R.lk) rfl (aJp S3.out.box) (by omega) S3.out.low.size ?_))
 intro A4 c4 w4 hO4 hg4
 have S4:=zh (S3.out.app (Ext.refl _) hO4 hg4)
 clear hO4 hg4 S3
 have q4:w4.cell? ⟨w.heap.size,21,none⟩=some (.slice R.A1 R.n1 R.c1):=S4.out.box.cell 21
 go_wp2_with fail
 refine (lY _ _ _ _ _ _ _ R.pre _ S4.out.own.sl (HR.out.pre.ext S4.out.low) (by omega) (by omega)).mono ?_
 rintro e w5 ⟨A5,n5,c5,rfl,hO5,he5⟩
 have S5:=zh (S4.out.call hO5 he5)
 clear hO5 he5 q4 S4
 go_wp2_with fail
 go_ret
 refine ⟨A5,_,c5,rfl,?_,S5.out.low⟩
 rw [HEN.out];simpa using S5.out.own
theorem aDN (R:OpR) (h:R.k=4) (hv:vOp R=true) (w0:World) (A:Option Addr) (n c:Nat) (l:List UInt8) (w:World) (hR:R.ok w0) (hE:Ext w0 w) (hO:OwnB w w0.heap.size 5 A n c l) (hn:n≤1000000) :
  Calls Tryz.prog 168 #[.slice A n c,.agg (opA R)] w fun e w'=>∃ A' n' c',e=.returned (.slice A' n' c')∧OwnB w' w0.heap.size 5 A' n' c' (l ++ dF R)∧Ext w0 w':=by
 have HU:=zh (fun W=>dX R.k W)
 rw [show jI R.k=37 from by rw [h];decide] at HU
 have HEN:=zh (aAw h)
 have u_am:=pD R.am
 have hA:=(Ext.refl w).alloc' (.cells (opA R) 69)
 have S0:=zh (show ApS w0 (w.alloc (.cells (opA R) 69)) w.heap.size R A n c l from ⟨Blk.new w _ _,OwnB.ext hO hA,hE.trans hA⟩)
 have HR:=zh hR
 clear hR hE hO h hv hA
 go_enter Tryz.func168,Tryz.ntmps168
 go_wp2_with fail
 refine (HU.out _).mono ?_
 rintro e wv ⟨rfl,rfl⟩
 have q0:(w.alloc (.cells (opA R) 69)).cell? ⟨w.heap.size,0,none⟩=some (.int .i64 R.k):=S0.out.box.cell 0
 go_wp2_with (at_builtin;go_must (refine bP bI rfl (.tmp 9) (.tmp 13) rfl w0.heap.size A _ c _ rfl (S0.out.own.alloc _) _ 1 1 [toB R.k] rfl (SlB.new1 _ _ _ _ _ (by first | rfl | simp) (by first | exact bT _ | exact dY _)) (by omega) (S0.out.low.alloc' _).size ?_))
 intro A1 c1 w1 hO1 hg1
 have S1:=zh (S0.out.app ((Ext.refl _).alloc' _) hO1 hg1)
 clear hO1 hg1 q0 S0
 have q1:w1.cell? ⟨w.heap.size,1,none⟩=some (.int .i64 R.tO):=S1.out.box.cell 1
 go_wp2_with (at_builtin;go_must (refine bP bI rfl (.tmp 18) (.tmp 22) rfl w0.heap.size A1 _ c1 _ rfl (S1.out.own.alloc _) _ 1 1 [toB R.tO] rfl (SlB.new1 _ _ _ _ _ (by first | rfl | simp) (by first | exact bT _ | exact dY _)) (by omega) (S1.out.low.alloc' _).size ?_))
 intro A2 c2 w2 hO2 hg2
 have S2:=zh (S1.out.app ((Ext.refl _).alloc' _) hO2 hg2)
 clear hO2 hg2 q1 S1
 have q2:w2.cell? ⟨w.heap.size,2,none⟩=some (.int .i64 R.am):=S2.out.box.cell 2
 go_wp2_with fail
 refine (eK _ _ _ _ R.am 6 (by omega) _ S2.out.own.sl (by omega)).mono ?_
 rintro e w3 ⟨A3,c3,rfl,hO3,he3⟩
 have S3:=zh (S2.out.call hO3 he3)
 clear hO3 he3 q2 S2
 go_wp2_with (at_builtin;go_must (refine bP bI rfl (.tmp 59) (.tmp 61) rfl w0.heap.size A3 _ c3 _ rfl S3.out.own _ 8 8 (nmb R.lk) rfl (aJp S3.out.box) (by omega) S3.out.low.size ?_))
 intro A4 c4 w4 hO4 hg4
 have S4:=zh (S3.out.app (Ext.refl _) hO4 hg4)
 clear hO4 hg4 S3
 go_wp2_with fail
 go_ret
 refine ⟨A4,_,c4,rfl,?_,S4.out.low⟩
 rw [HEN.out];simpa using S4.out.own
theorem aDM (R:OpR) (h:R.k=5) (hv:vOp R=true) (w0:World) (A:Option Addr) (n c:Nat) (l:List UInt8) (w:World) (hR:R.ok w0) (hE:Ext w0 w) (hO:OwnB w w0.heap.size 5 A n c l) (hn:n≤1000000) :
  Calls Tryz.prog 168 #[.slice A n c,.agg (opA R)] w fun e w'=>∃ A' n' c',e=.returned (.slice A' n' c')∧OwnB w' w0.heap.size 5 A' n' c' (l ++ dF R)∧Ext w0 w':=by
 have HU:=zh (fun W=>dX R.k W)
 rw [show jI R.k=6 from by rw [h];decide] at HU
 have HEN:=zh (aAv h)
 have u_am:=pD R.am
 have hA:=(Ext.refl w).alloc' (.cells (opA R) 69)
 have S0:=zh (show ApS w0 (w.alloc (.cells (opA R) 69)) w.heap.size R A n c l from ⟨Blk.new w _ _,OwnB.ext hO hA,hE.trans hA⟩)
 have HR:=zh hR
 clear hR hE hO h hv hA
 go_enter Tryz.func168,Tryz.ntmps168
 go_wp2_with fail
 refine (HU.out _).mono ?_
 rintro e wv ⟨rfl,rfl⟩
 have q0:(w.alloc (.cells (opA R) 69)).cell? ⟨w.heap.size,0,none⟩=some (.int .i64 R.k):=S0.out.box.cell 0
 go_wp2_with (at_builtin;go_must (refine bP bI rfl (.tmp 9) (.tmp 13) rfl w0.heap.size A _ c _ rfl (S0.out.own.alloc _) _ 1 1 [toB R.k] rfl (SlB.new1 _ _ _ _ _ (by first | rfl | simp) (by first | exact bT _ | exact dY _)) (by omega) (S0.out.low.alloc' _).size ?_))
 intro A1 c1 w1 hO1 hg1
 have S1:=zh (S0.out.app ((Ext.refl _).alloc' _) hO1 hg1)
 clear hO1 hg1 q0 S0
 have q1:w1.cell? ⟨w.heap.size,4,none⟩=some (.int .i64 R.va):=S1.out.box.cell 4
 go_wp2_with (at_builtin;go_must (refine bP bI rfl (.tmp 27) (.tmp 31) rfl w0.heap.size A1 _ c1 _ rfl (S1.out.own.alloc _) _ 1 1 [toB R.va] rfl (SlB.new1 _ _ _ _ _ (by first | rfl | simp) (by first | exact bT _ | exact dY _)) (by omega) (S1.out.low.alloc' _).size ?_))
 intro A2 c2 w2 hO2 hg2
 have S2:=zh (S1.out.app ((Ext.refl _).alloc' _) hO2 hg2)
 clear hO2 hg2 q1 S1
 have q2:w2.cell? ⟨w.heap.size,2,none⟩=some (.int .i64 R.am):=S2.out.box.cell 2
 go_wp2_with fail
 refine (eK _ _ _ _ R.am 6 (by omega) _ S2.out.own.sl (by omega)).mono ?_
 rintro e w3 ⟨A3,c3,rfl,hO3,he3⟩
 have S3:=zh (S2.out.call hO3 he3)
 clear hO3 he3 q2 S2
 go_wp2_with fail
 go_ret
 refine ⟨A3,_,c3,rfl,?_,S3.out.low⟩
 rw [HEN.out];simpa using S3.out.own
theorem aDL (R:OpR) (h:R.k=6) (hv:vOp R=true) (w0:World) (A:Option Addr) (n c:Nat) (l:List UInt8) (w:World) (hR:R.ok w0) (hE:Ext w0 w) (hO:OwnB w w0.heap.size 5 A n c l) (hn:n≤1000000) :
  Calls Tryz.prog 168 #[.slice A n c,.agg (opA R)] w fun e w'=>∃ A' n' c',e=.returned (.slice A' n' c')∧OwnB w' w0.heap.size 5 A' n' c' (l ++ dF R)∧Ext w0 w':=by
 have HU:=zh (fun W=>dX R.k W)
 rw [show jI R.k=130 from by rw [h];decide] at HU
 have HEN:=zh (aAu h)
 have b2:=yV hv
 have hA:=(Ext.refl w).alloc' (.cells (opA R) 69)
 have S0:=zh (show ApS w0 (w.alloc (.cells (opA R) 69)) w.heap.size R A n c l from ⟨Blk.new w _ _,OwnB.ext hO hA,hE.trans hA⟩)
 have HR:=zh hR
 clear hR hE hO h hv hA
 go_enter Tryz.func168,Tryz.ntmps168
 go_wp2_with fail
 refine (HU.out _).mono ?_
 rintro e wv ⟨rfl,rfl⟩
 have q0:(w.alloc (.cells (opA R) 69)).cell? ⟨w.heap.size,0,none⟩=some (.int .i64 R.k):=S0.out.box.cell 0
 go_wp2_with (at_builtin;go_must (refine bP bI rfl (.tmp 9) (.tmp 13) rfl w0.heap.size A _ c _ rfl (S0.out.own.alloc _) _ 1 1 [toB R.k] rfl (SlB.new1 _ _ _ _ _ (by first | rfl | simp) (by first | exact bT _ | exact dY _)) (by omega) (S0.out.low.alloc' _).size ?_))
 intro A1 c1 w1 hO1 hg1
 have S1:=zh (S0.out.app ((Ext.refl _).alloc' _) hO1 hg1)
 clear hO1 hg1 q0 S0
 have q1:w1.cell? ⟨w.heap.size,4,none⟩=some (.int .i64 R.va):=S1.out.box.cell 4
 go_wp2_with (at_builtin;go_must (refine bP bI rfl (.tmp 27) (.tmp 31) rfl w0.heap.size A1 _ c1 _ rfl (S1.out.own.alloc _) _ 1 1 [toB R.va] rfl (SlB.new1 _ _ _ _ _ (by first | rfl | simp) (by first | exact bT _ | exact dY _)) (by omega) (S1.out.low.alloc' _).size ?_))
 intro A2 c2 w2 hO2 hg2
 have S2:=zh (S1.out.app ((Ext.refl _).alloc' _) hO2 hg2)
 clear hO2 hg2 q1 S1
 have q2:w2.cell? ⟨w.heap.size,22,none⟩=some (.slice R.A2 R.n2 R.c2):=S2.out.box.cell 22
 go_wp2_with fail
 refine (lY _ _ _ _ _ _ _ R.prf _ S2.out.own.sl (HR.out.prf.ext S2.out.low) (by omega) (by omega)).mono ?_
 rintro e w3 ⟨A3,n3,c3,rfl,hO3,he3⟩
 have S3:=zh (S2.out.call hO3 he3)
 clear hO3 he3 q2 S2
 go_wp2_with fail
 go_ret
 refine ⟨A3,_,c3,rfl,?_,S3.out.low⟩
 rw [HEN.out];simpa using S3.out.own
theorem aAM (R:OpR) (hv:vOp R=true) (w0:World) (A:Option Addr) (n c:Nat) (l:List UInt8) (w:World) (hR:R.ok w0) (hE:Ext w0 w) (hO:OwnB w w0.heap.size 5 A n c l) (hn:n≤1000000) :
  Calls Tryz.prog 168 #[.slice A n c,.agg (opA R)] w fun e w'=>∃ A' n' c',e=.returned (.slice A' n' c')∧OwnB w' w0.heap.size 5 A' n' c' (l ++ dF R)∧Ext w0 w':=by
 rcases iC R.k with h | h | h | h | h | h | h
 ·exact aDQ R h hv w0 A n c l w hR hE hO hn
 ·exact aDP R h hv w0 A n c l w hR hE hO hn
 ·exact aDO R h hv w0 A n c l w hR hE hO hn
 ·exact aDN R h hv w0 A n c l w hR hE hO hn
 ·exact aDM R h hv w0 A n c l w hR hE hO hn
 ·exact aDL R h hv w0 A n c l w hR hE hO hn
 exact absurd (tG hv) h
end
end Go.Proofs.YtohmmcahpakokaaGreat
