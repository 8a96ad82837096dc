/- list (the reference's); Verify (the program's). -/
import Derived.DeepKeys4
import Derived.Maps.Own
import Derived.Lib.LazyBuf
import Derived.Test.YtohmmcahpakokaaGreatH09
import Derived.Test.YtohmmcahpakokaaGreatH12
set_option maxRecDepth 100000
set_option maxHeartbeats 8000000
set_option linter.unusedVariables false
set_option linter.unusedSimpArgs false
namespace Go.Proofs.YtohmmcahpakokaaGreat
section
open Go.RowKit
def mB (pub:UInt64) (levels:Int) (m:UInt64) (l:List UInt8):Bool :=
 if levels=1 then decide (l.length=186) && (decide (cC l 0 2 < 32) && decide (fH l 2 (cC l 0 2 % 32) m=pub))
 else if levels=2 then decide (l.length=370) && (decide (cC l 0 2 < 1024) && decide (fH l 186 (cC l 0 2 / 32) (fH l 2 (cC l 0 2 % 32) m)=pub))
 else false
theorem oS (A:Option Addr) (len c:Nat) (l:List UInt8) (at_ j:Nat) (z q:Int) (hz:z=(at_:Int)) (hq:q=(j:Int)) (m:UInt64) (w:World) (h:SlB w A len c l) (hf:at_+184≤len) (hat:at_≤500) (hj:j < 32) :
  Calls Tryz.prog 202 #[.slice A len c,.int .i64 z,.int .i64 q,.agg (nmc m)] w fun e w'=>e=.returned (.agg (nmc (fH l at_ j m)))∧Ext w w':=by
 subst hz;subst hq;exact aBS A len c l at_ j m w h hf hat hj
theorem nZ (pub:UInt64) (lv:Int) (m:UInt64) (l:List UInt8) (h:jZ lv ≠ (l.length:Int)):mB pub lv m l=false:=by
 unfold mB
 by_cases h1:lv=1
 ·subst h1;rw [if_pos rfl,decide_eq_false (show ¬ l.length=186 from fun e=>h (by rw [e];rfl))];rfl
 rw [if_neg h1]
 by_cases h2:lv=2
 ·subst h2;rw [if_pos rfl,decide_eq_false (show ¬ l.length=370 from fun e=>h (by rw [e];rfl))];rfl
 rw [if_neg h2]
theorem aFu (pub:UInt64) (lv:Int) (m:UInt64) (l:List UInt8) (h:rL lv≤(cC l 0 2:Int)):mB pub lv m l=false:=by
 unfold mB
 by_cases h1:lv=1
 ·subst h1;rw [if_pos rfl,decide_eq_false (show ¬ cC l 0 2 < 32 from by have:(32:Int)≤(cC l 0 2:Int):=h;omega)];simp
 rw [if_neg h1]
 by_cases h2:lv=2
 ·subst h2;rw [if_pos rfl,decide_eq_false (show ¬ cC l 0 2 < 1024 from by have:(1024:Int)≤(cC l 0 2:Int):=h;omega)];simp
 rw [if_neg h2]
theorem xI (pub m:UInt64) (lv:Int) (A:Option Addr) (n c:Nat) (l:List UInt8) (w:World) (h:SlB w A n c l) (hno:n < 2 ∨ jZ lv ≠ (n:Int) ∨ rL lv≤(cC l 0 2:Int)) :
  Calls Tryz.prog 145 #[.agg (nmc pub),.int .i64 lv,.agg (nmc m),.slice A n c] w fun e w'=>e=.returned (.bool false)∧Ext w w':=by
 have hE:=((Ext.refl w).alloc' (.cells (nmc pub) 30)).alloc' (.cells (nmc m) 30)
 have HE:=zh hE
 have hcap:=h.cap
 have hle:=h.le
 by_cases h2:n < 2
 ·clear hno
  go_enter Tryz.func145,Tryz.ntmps145
  go_wp2_with (go_at_call 146;refine (aHC A n c _ h2).mono ?_;rintro e w1 ⟨rfl,rfl⟩)
  go_ret
  exact ⟨rfl,HE.out⟩
 have HL:=zh (qB A n c l _ (h.ext HE.out) (by omega))
 have HH:=zh h
 clear h hE
 by_cases hs:jZ lv=(n:Int)
 ·have hc:rL lv≤(cC l 0 2:Int):=by
   rcases hno with h | h | h
   ·omega
   ·exact absurd hs h
   exact h
  have b1:((n:Int) != jZ lv)=false:=by rw [hs];simp
  clear hno hs
  generalize hx:cC l 0 2=x at *
  generalize hcz:rL lv=cz at *
  generalize hsz:jZ lv=sz at *
  have HC:=zh hcz
  have HS:=zh hsz
  clear hx hcz hsz
  go_enter Tryz.func145,Tryz.ntmps145
  go_wp2_with fail
  refine HL.out.mono ?_
  rintro e w1 ⟨rfl,rfl⟩
  go_wp2_with (first | (go_at_call 200;refine (pF lv _).mono ?_;rintro e w1 ⟨rfl,rfl⟩;rw [HS.out]) | (go_at_call 201;refine (jI lv _).mono ?_;rintro e w1 ⟨rfl,rfl⟩;rw [HC.out]))
  go_ret
  exact ⟨rfl,HE.out⟩
 have b1:((n:Int) != jZ lv)=true:=by rw [bne_iff_ne];exact fun e=>hs e.symm
 clear hno hs
 generalize hx:cC l 0 2=x at *
 generalize hsz:jZ lv=sz at *
 have HS:=zh hsz
 clear hx hsz
 go_enter Tryz.func145,Tryz.ntmps145
 go_wp2_with fail
 refine HL.out.mono ?_
 rintro e w1 ⟨rfl,rfl⟩
 go_wp2_with (first | (go_at_call 200;refine (pF lv _).mono ?_;rintro e w1 ⟨rfl,rfl⟩;rw [HS.out]) | (go_at_call 201;refine (jI lv _).mono ?_;rintro e w1 ⟨rfl,rfl⟩))
 go_ret
 exact ⟨rfl,HE.out⟩
end
section
open Go.RowKit
attribute [local go_sem ↓] Go.wp_at_zero Go.wp_at_succ
def aHh (v:OpV):Bool :=
 decide (1≤v.k∧v.k≤6) && (aT (fTo v.k) v.tO 0 15 && (aT (fAm v.k) v.am 1 1099511627776 && (aT (fUl v.k) v.ul 1 1000 && (aT (fVa v.k) v.va 0 9 && (aT (zX v.k) (v.pre.length:Int) 0 32 && (aT (zW v.k) (v.prf.length:Int) 1 2000 && ((fUl v.k || decide (v.hs=0)) && (fLk v.k || decide (v.lk=0)))))))))
theorem aIt {R:OpR} (h1:R.pre.length=R.n1) (h2:R.prf.length=R.n2):vOp R=aHh R.v:=by
 unfold vOp aHh OpR.v;simp only [h1,h2]
def aKa (ac sq:Int) (V:List OpV):Bool:=tF ac sq V.length && V.all aHh
theorem aIs {ac sq:Int} {L:List OpR} (h:∀ R,R ∈ L→vOp R=aHh R.v):vTx ac sq L=aKa ac sq (L.map OpR.v):=by
 unfold vTx aKa
 rw [List.length_map]
 congr 1
 rw [Bool.eq_iff_iff]
 simp only [decide_eq_true_eq,List.all_eq_true,List.mem_map]
 constructor
 ·rintro hh _ ⟨R, hR, rfl⟩
  obtain ⟨k,hk,rfl⟩:=List.getElem_of_mem hR
  have:=hh k hk
  have e:L[k]=bM L k:=by simp [bM,hk]
  rw [← h _ hR,e];exact this
 intro hh k hk
 rw [h _ (pS hk)]
 exact hh _ ⟨_,pS hk,rfl⟩
theorem dP {w:World} {base base':Nat} {e e':TypeId} {size size':Nat} {A A':Option Addr} {n n' c c':Nat} {xs xs':List Value} (h:w.ownsRow base e size (.slice A n c) n xs) (h':w.ownsRow base' e' size' (.slice A' n' c') n' xs') (hne:e ≠ e'):(Value.slice A n c).ownBlock=none ∨ (Value.slice A n c).ownBlock ≠ (Value.slice A' n' c').ownBlock:=by
 rcases h.2 with ⟨hv,_⟩ | ⟨g,cap,cur,hv,_,hh,_⟩
 ·exact .inl (by rw [hv];simp [Value.ownBlock])
 refine .inr ?_
 have:=aK (t:=e) (cs:=cur) h' hh hne
 rw [hv];exact this
section
variable {P:Program} {t e:TypeId} {z:Value} {size bytes:Nat}
theorem bB {ops:Array Oper} {rest:List Oper} {o:Oper} {a:Act} {w:World} {Q:Exit→Act→World→Prop} (E:Elem P t e z size bytes) (hgd:o.guard=none) (s x:Operand)
  (ho:o.op=.call { callee:=.builtin .append,args:=#[s,x],argTypes:=#[t,t] })
  (base:Nat) (A:Option Addr) (n c:Nat) (xs:List Value) (hs:a.eval s=.slice A n c) (hown:w.ownsRow base e size (.slice A n c) n xs)
  (A2:Option Addr) (m c2:Nat) (ys:List Value) (hx:a.eval x=.slice A2 m c2) (hr:Rd w A2 ys) (hl:ys.length=m * size) (h1:∀ u ∈ ys,u.oneCell'=true)
  (hb:(n+m) * bytes≤140737488355328) (h63:n+m≤4611686018427387904) (hbase:base≤w.heap.size)
  (h:∀ A' c' w',w'.ownsRow base e size (.slice A' (n+m) c') (n+m) (xs ++ ys)→w.grownBy w' (Value.ownBlock (.slice A n c))→wpList P ops Q rest (a.put o.dst (.slice A' (n+m) c')) w'):wpList P ops Q (o :: rest) a w :=
 wpList_plain hgd fun K hK=>mE E s x ho base A n c xs hs hown A2 m c2 ys hx hr hl h1 hb h63 hbase fun A' c' w' h2 h3=>hK _ _ (h A' c' w' h2 h3)
end
abbrev lU:Array Value:=#[.int .i64 0,.int .i64 0,.slice none 0 0,.slice none 0 0]
structure TxR where
 ac:Int
 sq:Int
 A:Option Addr
 n:Nat
 c:Nat
 S:Option Addr
 m:Nat
 d:Nat
 L:List OpR
 sig:List UInt8
abbrev tA (T:TxR):Array Value:=stA T.ac T.sq T.A T.n T.c T.S T.m T.d
def TxR.v (T:TxR):Int × Int × List OpV × List UInt8:=(T.ac,T.sq,T.L.map OpR.v,T.sig)
structure TxR.ok (T:TxR) (w:World):Prop where
 ops:SlO w T.A T.n T.c T.L
 sig:SlB w T.S T.m T.d T.sig
theorem TxR.ok.ext {T:TxR} {w w':World} (h:T.ok w) (e:Ext w w'):T.ok w':=⟨h.ops.ext e,h.sig.ext e⟩
section
variable {o:Oper} {a:Act} {w:World} {ops:Array Oper} {rest:List Oper} {Q:Exit→Act→World→Prop}
theorem mF (hgd:o.guard=none) (x y:Operand) (ho:o.op=.store 47 x y) (g:Nat) (cs:Array Value) (hx:a.eval x=.pointer (some ⟨g,0,none⟩)) (hy:a.eval y=.agg cs) (ht:w.there g 0 4) (hs:cs.size=4) (h1:cs.all (·.oneCell')=true)
  (h:wpList Tryz.prog ops Q rest (a.put o.dst undef) (w.setCells g 0 cs.toList)):wpList Tryz.prog ops Q (o :: rest) a w :=
 wpList_store_mid hgd 47 x y ho g 0 cs hx hy (by rw [hs];exact ht) (by rw [hs];kernel_rfl) h1 h
end
theorem aDy (ac sq:Int) (A:Option Addr) (n c:Nat) (S:Option Addr) (m d:Nat):(stA ac sq A n c S m d).all (·.oneCell')=true:=by simp [stA,Value.oneCell']
theorem aAH {w:World} {X:Nat} {t:TypeId} (h:Blk w X t lU):w.there X 0 4:=aR h
theorem aAI {w:World} {g:Nat} (h:Blk w g 47 lU) (cs:Array Value) (hs:cs.size=4):Blk (w.setCells g 0 cs.toList) g 47 cs:=aQ h (by rw [hs];rfl)
def fG (L:List OpR):List UInt8:=L.flatMap dI
theorem nV (a b:List OpR):fG (a ++ b)=fG a ++ fG b:=by simp [fG]
def lY (ac sq:Int) (L:List OpR):List UInt8:=[toB ac,toB sq,toB (L.length:Int)] ++ fG L
theorem yD {R:OpR} {w:World} (hv:vOp R=true) (hR:R.ok w):(dI R).length≤3000:=by
 have h1:=hR.pre.len
 have h2:=hR.prf.len
 have b1:=yL hv
 have b2:=yK hv
 rcases iK R.k with h | h | h | h | h | h | h
 ·rw [aAh h];simp [iN]
 ·rw [aAg h];simp [iN,aL]
 ·rw [aAf h];simp [iN,aL,sD];omega
 ·rw [aAe h];simp [iN,aL]
 ·rw [aAd h];simp [iN]
 ·rw [aAc h];simp [sD];omega
 exact absurd (tE hv) h
theorem OwnB.len {w:World} {base:Nat} {e:TypeId} {A:Option Addr} {n c:Nat} {l:List UInt8} (h:OwnB w base e A n c l):l.length=n:=h.sl.len
theorem aFT (w:World) (base:Nat) (e:TypeId) (x y z:Int) (g:Nat) (hg:w.heap.size=g) (hb:base≤g) (x' y' z':Int) (hx:x'=((toB x).toNat:Int)) (hy:y'=((toB y).toNat:Int)) (hz:z'=((toB z).toNat:Int)):OwnB (w.alloc (.cells #[.int .u8 x',.int .u8 y',.int .u8 z'] e)) base e (some ⟨g,0,none⟩) 3 3 [toB x,toB y,toB z]:=by
 subst hg;subst hx;subst hy;subst hz
 exact xQ (heap_alloc_new w _) hb rfl (Nat.le_refl _) (by omega) rfl rfl
theorem aAE (z:Int):IntKind.u8.wrap z=((toB z).toNat:Int):=eD z
theorem aDb (ac sq:Int) (A:Option Addr) (n c:Nat) (L:List OpR) (w:World) (hS:SlO w A n c L) (hv:vTx ac sq L=true) :
  Calls Tryz.prog 110 #[.agg (txA ac sq A n c)] w fun e w'=>∃ A' n' c',e=.returned (.slice A' n' c')∧OwnB w' w.heap.size 5 A' n' c' (lY ac sq L)∧n'≤13000∧Ext w w':=by
 obtain ⟨⟨h1,h2,h3,h4,h5,h6⟩,hops⟩:=dT hv
 have hlen:=hS.len
 rw [hlen] at h5 h6
 have hle:=hS.le
 have hcap:=hS.cap
 have hE:=(Ext.refl w).alloc' (.cells (txA ac sq A n c) 24)
 obtain ⟨b,o,rfl,hr0,hb0⟩:=hS.at (by omega)
 have HSW:=zh (hS.ext hE)
 have HLEN:=zh hlen
 have HR0:=zh hr0
 have HBL:=zh hb0
 have HOPS:=zh hops
 have HE:=zh hE
 obtain ⟨w1,hw1⟩:∃ w1,w1=w.alloc (.cells (txA ac sq (some ⟨b,o,none⟩) n c) 24):=⟨_,rfl⟩
 have HW1:=zh hw1
 have HT1:=zh (aAE (n:Int))
 clear hS hE hr0 hb0 hops hlen hv hw1
 go_enter Tryz.func110,Tryz.ntmps110
 go_wp2_with fail
 go_loopw [20,3] (fun i v wr=>∃ (k:Nat) (A4:Option Addr) (n4 c4:Nat),k≤n∧i=.int .i64 (k:Int)∧v=.slice A4 n4 c4∧n4≤3+3000 * k∧OwnB wr w1.heap.size 5 A4 n4 c4 ([toB ac,toB sq,toB (n:Int)] ++ fG (L.take k))∧Ext w1 wr) (fun i _ _=>n - (intOf i).toNat)
 case atStart =>
  refine ⟨0,_,3,3,Nat.zero_le _,rfl,rfl,Nat.le_refl _,?_,?_⟩
  ·rw [HW1.out]
   simp only [fG,List.take_zero,List.flatMap_nil,List.append_nil]
   exact aFT _ _ _ _ _ _ _ (by simp) (by simp) _ _ _ (by first | exact bZ _ | (rw [← bZ];omega)) (by first | exact bZ _ | (rw [← bZ];omega)) (by first | exact bZ _ | (rw [← bZ];omega))
  rw [HW1.out];exact (Ext.refl _).alloc' _
 case round =>
  obtain ⟨k,A4,n4,c4,hk,rfl,rfl,hn4,hO,hX⟩:=hrel
  have HO:=zh hO
  have HX:=zh hX
  clear hO hX
  by_cases hlt:k < n
  ·have HE2 := zh (show Ext w wr from by rw [HW1.out] at HX; exact HE.out.trans HX.out)
   have hr:=pO (bK HR0.out (HE2.out.block b HBL.out)) (k:=k) (by rw [HLEN.out];exact hlt)
   have HTK:=zh (nE (L:=L) (k:=k) (by rw [HLEN.out];exact hlt))
   have HOK:=zh (show (bM L k).ok w1 by rw [HW1.out];exact HSW.out.nth hlt)
   have HV:=zh (HOPS.out k (by rw [HLEN.out];exact hlt))
   have i0:(0:Int)≤(k:Int):=by omega
   have i1:(k:Int) < (n:Int):=by omega
   obtain ⟨R,hR⟩:∃ R,bM L k=R:=⟨_,rfl⟩
   rw [hR] at hr HTK HOK HV
   clear hR
   have hnew:=aGn wr R
   go_wp2_with (first | (with_reducible refine fI rfl (.tmp 22) rfl b (o+k * 23) rfl R hr ?_) | (with_reducible refine rP rfl (.tmp 5) (.tmp 23) rfl _ rfl R rfl rfl ?_) | (with_reducible refine fI rfl (.tmp 5) rfl wr.heap.size 0 rfl R hnew ?_))
   refine (aAs R HV.out w1 A4 n4 c4 _ _ HOK.out (HX.out.alloc' _) (HO.out.alloc _) (by omega)).mono ?_
   rintro e w2 ⟨A5,n5,c5,rfl,hO5,hX5⟩
   have HO7:=zh (show OwnB w2 w1.heap.size 5 A5 n5 c5 ([toB ac,toB sq,toB (n:Int)] ++ fG (L.take (k+1))) by
    rw [HTK.out,nV]
    simpa [fG] using hO5)
   have hn5:n5≤3+3000 * (k+1):=by
    have a1:=hO5.len
    have a2:=HO.out.len
    have a3:=yD HV.out HOK.out
    rw [List.length_append,a2] at a1
    omega
   have HX5:=zh hX5
   clear hO5 hX5 hr hnew HO HTK
   go_wp2_with fail
   go_roundw
   case rel=>exact ⟨k+1,A5,n5,c5,by omega,by go_num,rfl,hn5,HO7.out,HX5.out⟩
   case measure=>simp [intOf];omega
  obtain rfl:k=n:=by omega
  go_wp2_with fail
  go_ret
  refine ⟨A4,n4,c4,rfl,bC (base:=w1.heap.size) ?_ (by rw [HW1.out];simp),by omega,by rw [HW1.out] at HX;exact HE.out.trans HX.out⟩
  have:=HO.out
  unfold lY
  rw [List.take_of_length_le (Nat.le_of_eq HLEN.out)] at this
  rw [HLEN.out]
  exact this
theorem kT {w:World} {g:Nat} {t:TypeId} {ac sq:Int} {A:Option Addr} {n c:Nat} {S:Option Addr} {m d:Nat} (h:Blk w g t (stA ac sq A n c S m d)):w.cell? ⟨g,0,none⟩=some (.int .i64 ac)∧w.cell? ⟨g,1,none⟩=some (.int .i64 sq)∧w.cell? ⟨g,2,none⟩=some (.slice A n c)∧w.cell? ⟨g,3,none⟩=some (.slice S m d) :=
 ⟨h.cell 0,h.cell 1,h.cell 2,h.cell 3⟩
end
section
open Go.RowKit
def kD (seed:UInt64) (a t:Int) (j:Nat) (m:UInt64):List UInt64:=fT (sL seed a t (j:Int)) m ++ fS (cF seed a t) j
theorem zK (seed:UInt64) (a t:Int) (j:Nat) (m:UInt64) (h:j < 32):(kD seed a t j m).length=23:=by
 have h1:=yE j h
 simp only [kD,fT,List.length_append,List.length_map,List.length_range,pN,mS,h1]
@[go_sem] theorem aJk (n:UInt64):Array.foldl (fun (cs:Array Value) (x:Value × Nat)=>cs.setIfInBounds x.snd x.fst) #[.int .u8 0,.int .u8 0,.int .u8 0,.int .u8 0,.int .u8 0,.int .u8 0,.int .u8 0,.int .u8 0,.int .i64 0,.map none] (nmc n).zipIdx 0 8=#[.int .u8 (nb8 n 0),.int .u8 (nb8 n 1),.int .u8 (nb8 n 2),.int .u8 (nb8 n 3),.int .u8 (nb8 n 4),.int .u8 (nb8 n 5),.int .u8 (nb8 n 6),.int .u8 (nb8 n 7),.int .i64 0,.map none]:=by
 rw [← gQ n]
 kernel_rfl
theorem aFH (seed m:UInt64) (leaf t r:Nat) (h:leaf=32 * t+r) (hl:leaf < 32):mJ seed 1 (leaf:Int) m=some ([toB ((leaf:Int) / 256),toB (leaf:Int)] ++ (kD seed 1 (t:Int) r m).flatMap nmb):=by
 obtain rfl:t=0:=by omega
 obtain rfl:leaf=r:=by omega
 unfold mJ
 rw [if_pos ⟨rfl,by omega,by omega⟩,Int.toNat_natCast]
 congr 1
 simp only [vZ,kD,List.flatMap_append,List.append_assoc]
 rw [show (leaf:Int) / 256=0 from by omega]
 rfl
theorem aFG (seed m:UInt64) (leaf t r:Nat) (h:leaf=32 * t+r) (hr:r < 32) (hl:leaf < 1024):mJ seed 2 (leaf:Int) m=some ([toB ((leaf:Int) / 256),toB (leaf:Int)] ++ (kD seed 1 (t:Int) r m).flatMap nmb ++ (kD seed 2 0 t (dH (cF seed 1 (t:Int)))).flatMap nmb):=by
 unfold mJ
 rw [if_neg (by omega),if_pos ⟨rfl,by omega,by omega⟩,Int.toNat_natCast,← aDA seed m leaf t r hr h]
 have e3:(leaf:Int).tmod 32=(r:Int):=by
  rw [Int.tmod_eq_emod_of_nonneg (by omega)];omega
 rw [e3]
 simp only [kD,List.flatMap_append,List.append_assoc]
end
section
open Go.RowKit
attribute [local go_sem ↓] Go.wp_at_zero Go.wp_at_succ
theorem aIi (z:Int):beI 1 z=[toB z]:=by
 unfold beI cM cM toB
 simp only [List.nil_append]
 congr 2
 omega
theorem cA (A:Option Addr) (n c:Nat) (l:List UInt8) (z:Int) (w:World) (h:SlB w A n c l) (hn:n≤140737488351232) :
  Calls Tryz.prog 86 #[.slice A n c,.int .i64 z,.int .i64 1] w fun e w'=>∃ A' c',e=.returned (.slice A' (n+1) c')∧OwnB w' w.heap.size 5 A' (n+1) c' (l ++ [toB z])∧Ext w w':=by
 rw [← aIi];exact oH A n c l z 1 (by omega) (by omega) w h hn
end
section
open Go.RowKit
def aDr (L:List OpR):Prop:=∀ R,R ∈ L→R.pre.length=R.n1∧R.prf.length=R.n2
def aGX (T:TxR):Prop:=aDr T.L∧T.sig.length=T.m
theorem aHB {T:TxR} {w:World} (h:T.ok w):aGX T:=⟨fun R hR=>⟨((h.ops.ok R hR).pre).len,((h.ops.ok R hR).prf).len⟩,h.sig.len⟩
theorem aEF {w:World} {b o:Nat} {R:OpR} (h:w.rangeAt b o (opL R)):w.cell? ⟨b,o+21,none⟩=some (.slice R.A1 R.n1 R.c1)∧w.cell? ⟨b,o+22,none⟩=some (.slice R.A2 R.n2 R.c2) :=
 ⟨h 21 _ rfl,h 22 _ rfl⟩
def aIo (w:World) (e:Ending) (w':World):Prop:=(∃ b,e=.returned (.bool b))∧Ext w w'
end
end Go.Proofs.YtohmmcahpakokaaGreat
