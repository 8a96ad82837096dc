import Derived.Sort.Grow
import Derived.Test.YtgmnmjeccfnmbaaGreatE02
set_option maxRecDepth 100000
set_option maxHeartbeats 8000000
set_option linter.unusedVariables false
set_option linter.unusedSimpArgs false
namespace Go.Proofs.YtgmnmjeccfnmbaaGreat
open Go.Proofs.Tryz
section
open Go.RowKit
attribute [local go_sem ↓] Go.wp_at_zero Go.wp_at_succ
def jY (v lo hi:Int):Bool:=decide (lo≤v∧v≤hi)
theorem iB (v lo hi:Int) (w:World) :
  Calls prog 86 #[.int .i64 v,.int .i64 lo,.int .i64 hi] w fun e w'=>e=.returned (.bool (jY v lo hi))∧w=w':=by
 by_cases h1:lo≤v
 ·by_cases h2 : v ≤ hi
  ·have HV := zh (show jY v lo hi = true by unfold jY; simp only [decide_eq_true_eq]; exact ⟨h1, h2⟩)
   exact zv
  have HV:=zh (show jY v lo hi=false by unfold jY;simp only [decide_eq_false_iff_not];omega)
  have d2:decide (v≤hi)=false:=decide_eq_false h2
  clear h2
  exact zv
 have HV:=zh (show jY v lo hi=false by unfold jY;simp only [decide_eq_false_iff_not];omega)
 have d1:decide (lo≤v)=false:=decide_eq_false h1
 clear h1
 exact zv
theorem iA (v lo hi:Int) (h:lo≤v∧v≤hi) (w:World) :
  Calls prog 86 #[.int .i64 v,.int .i64 lo,.int .i64 hi] w fun e w'=>e=.returned (.bool true)∧w=w':=by
 rw [← show jY v lo hi=true by unfold jY;simp only [decide_eq_true_eq];exact h];exact iB v lo hi w
theorem mG (v lo hi:Int) (h:v < lo ∨ hi < v) (w:World) :
  Calls prog 86 #[.int .i64 v,.int .i64 lo,.int .i64 hi] w fun e w'=>e=.returned (.bool false)∧w=w':=by
 rw [← show jY v lo hi=false by unfold jY;simp only [decide_eq_false_iff_not];omega];exact iB v lo hi w
@[go_sem] theorem aMK (n:UInt64):Array.foldl (fun (cs:Array Value) (x:Value × Nat)=>cs.setIfInBounds x.snd x.fst) #[.int .u8 0,.int .u8 0,.int .u8 0,.int .u8 0,.int .u8 0,.int .u8 0,.int .u8 0,.int .u8 0,.slice none 0 0] (nmc n).zipIdx 0 8=#[.int .u8 (nb8 n 0),.int .u8 (nb8 n 1),.int .u8 (nb8 n 2),.int .u8 (nb8 n 3),.int .u8 (nb8 n 4),.int .u8 (nb8 n 5),.int .u8 (nb8 n 6),.int .u8 (nb8 n 7),.slice none 0 0]:=by
 rw [← gI n]
 kernel_rfl
@[go_sem] theorem aMJ (i:Int) (n:UInt64):Array.foldl (fun (cs:Array Value) (x:Value × Nat)=>cs.setIfInBounds (1+x.snd) x.fst) #[.int .i64 i,.int .u8 0,.int .u8 0,.int .u8 0,.int .u8 0,.int .u8 0,.int .u8 0,.int .u8 0,.int .u8 0] (nmc n).zipIdx 0 8=#[.int .i64 i,.int .u8 (nb8 n 0),.int .u8 (nb8 n 1),.int .u8 (nb8 n 2),.int .u8 (nb8 n 3),.int .u8 (nb8 n 4),.int .u8 (nb8 n 5),.int .u8 (nb8 n 6),.int .u8 (nb8 n 7)]:=by
 rw [← gI n]
 kernel_rfl
theorem aL {w:World} {base:Nat} {e:TypeId} {size:Nat} {A:Option Addr} {n c:Nat} {xs:List Value} {X:Nat} {t:TypeId} {cs:Array Value} (h:w.ownsRow base e size (.slice A n c) n xs) (hb:Blk w X t cs) (hne:t ≠ e):some X ≠ Value.ownBlock (.slice A n c):=by
 rcases h.2 with ⟨hv,_⟩ | ⟨g,cap,cur,hv,_,hh,_⟩
 ·rw [hv];simp [Value.ownBlock]
 rw [hv]
 simp only [Value.ownBlock]
 intro e1
 injection e1 with e1
 subst e1
 unfold Blk at hb
 rw [hh] at hb
 injection hb with hb
 injection hb with _ hb
 exact hne hb.symm
theorem aFu {w:World} {X B:Nat} {t t':TypeId} {cs cs':Array Value} (h:Blk w X t cs) (h':Blk w B t' cs') (hne:t ≠ t'):X ≠ B:=by
 intro e;subst e
 unfold Blk at h h'
 rw [h] at h'
 injection h' with h'
 injection h' with _ h'
 exact hne h'
theorem mQ (w:World) (B i:Nat) (u:Value):w.grownBy (w.setCell ⟨B,i,none⟩ u) (some B) :=
 ⟨rfl,rfl,rfl,by simp [World.setCell],fun k _ hk=>Below.heap_setCell _ _ _ _ (fun e=>hk (by rw [e]))⟩
theorem aFk (w:World) (row:Option Nat):w.grownBy w row:=⟨rfl,rfl,rfl,Nat.le_refl _,fun _ _ _=>rfl⟩
variable {D:Nat}
variable {D:Nat}
theorem vM:zcs.toArray=nmc 0:=by
 unfold nmc;rw [aDn];rfl
theorem aB (w:World) (g:Nat):∀ (vs:List Value) (o:Nat),w.grownBy (w.setCells g o vs) (some g):=by
 intro vs
 induction vs generalizing w with
 | nil=>intro o;exact aFk w _
 | cons v r ih=>intro o;exact World.grownBy.trans (mQ w g o v) (ih _ (o+1))
theorem fN (w:World) (n:Nat):Ext w (w.drewN n):=⟨rfl,rfl,rfl,Nat.le_refl _,fun _ _=>rfl⟩
theorem hI {w:World} {g:Nat} {t:TypeId} (h:Blk w g t zcs.toArray):Blk (w.setCells g 0 zcs) g t (nmc 0):=by
 have:=blkN h 0
 rwa [← vM] at this ⊢
variable {D:Nat}
theorem gO {fn:Func} {p q:Tmp} {ty:TypeId} (hres:fn.results=#[.cell p ty,.tmp q]) (tmps:Array Value) (w1:World) (g:Nat) (cs:Array Value) (v:Value) (hp:tmps.getD p undef=.pointer (some ⟨g,0,none⟩)) (hq:tmps.getD q undef=v) (hl:(loadVar ty ⟨g,0,none⟩).run prog w1=.ok (.agg cs) w1) :
  (results fn tmps).run prog w1=.ok (.tuple #[.agg cs,v]) w1:=by
 have hp':tmps[p]?.getD undef=.pointer (some ⟨g,0,none⟩):=qk
 have hq':tmps[q]?.getD undef=v:=qj
 simp [results,hres,hp',hq',asAddr,hl]
theorem eJ (n:UInt64):bcs (nmb n)=[.int .u8 (nb8 n 0),.int .u8 (nb8 n 1),.int .u8 (nb8 n 2),.int .u8 (nb8 n 3),.int .u8 (nb8 n 4),.int .u8 (nb8 n 5),.int .u8 (nb8 n 6),.int .u8 (nb8 n 7)]:=by
 rw [← bW,← gI]
theorem lR (A:Option Addr) (n c:Nat) (l:List UInt8) (v:UInt64) (wd:Nat) (hwd1:1≤wd) (hwd:wd≤8) (w:World) (h:SlB w A n c l) (hn:n≤140737488351232) :
  Calls prog 208 #[.slice A n c,.int .u64 (un v),.int .i64 (wd:Int)] w fun e w'=>∃ A' c',e=.returned (.slice A' (n+wd) c')∧OwnB w' w.heap.size 5 A' (n+wd) c' (l ++ cU wd v.toNat)∧Ext w w':=by
 have k0:(0:Int) < (wd:Int):=aa
 have k1:(wd:Int)≤8:=aa
 have hv0:=gD v
 have HV1:=zh (aLo v)
 have HS:=zh (h.ext ((Ext.refl w).alloc' (.cells #[] 5)))
 clear h
 go_enter func208,ntmps208
 go_wp2_with (at_builtin;go_must (refine cB bU rfl (.tmp 9) (.tmp 10) rfl w.heap.size _ 0 _ [] rfl (OwnB.made w w.heap.size #[] 0 _ rfl (Nat.le_refl _) aa rfl) A n c l rfl HS.out aa ((Ext.refl w).alloc' _).size w ((Ext.refl w).alloc' _) ?_))
 intro A1 c1 w1 hO1 hE1 hs1
 have HO1:=zh (show OwnB w1 w.heap.size 5 A1 n c1 l from by simpa using hO1)
 have HE1:=zh hE1
 clear hO1 hE1
 go_wp2_with fail
 go_loopw [7,8] (fun x i wr=>∃ (j:Nat) (A2:Option Addr) (c2:Nat),j≤wd∧i=.int .i64 ((j:Int) - 1)∧x=.slice A2 (n+(wd - j)) c2∧OwnB wr w.heap.size 5 A2 (n+(wd - j)) c2 (l ++ (cU wd v.toNat).take (wd - j))∧Ext w wr) (fun _ i _=>(intOf i+1).toNat)
 case atStart=>exact ⟨wd,A1,c1,Nat.le_refl _,rfl,dr,by simpa using HO1.out,HE1.out⟩
 case round =>
  obtain ⟨j,A2,c2,hj,rfl,rfl,hO,hE⟩:=hrel
  have HO:=zh hO
  have HE:=zh hE
  clear hO hE
  by_cases hlt:0 < j
  ·obtain ⟨i, rfl⟩ : ∃ i, j = i + 1 := ⟨j - 1, aa⟩
   obtain ⟨kk,hkk⟩:∃ kk,kk=i:=⟨_,rfl⟩
   have HB:=zh (sU wd v.toNat kk aa)
   have HKK:=zh hkk
   clear hkk
   obtain ⟨q,hq⟩:∃ q,q=wd - (i+1):=⟨_,rfl⟩
   rw [← hq] at HO ⊢
   have HQ:=zh (show q=wd - (kk+1) from by rw [HKK.out];exact hq)
   have hq8:q≤8:=aa
   clear hq
   rw [show ((i+1:Nat):Int) - 1=(i:Int) from aa]
   have hi7:i=0 ∨ i=1 ∨ i=2 ∨ i=3 ∨ i=4 ∨ i=5 ∨ i=6 ∨ i=7:=aa
   rcases hi7 with rfl | rfl | rfl | rfl | rfl | rfl | rfl | rfl
   all_goals (
    go_wp2_with (at_builtin;go_must (refine cB bU rfl (.tmp 20) (.tmp 27) rfl w.heap.size A2 _ c2 _ rfl (HO.out.alloc _) _ 1 1 [toB _] rfl (SlB.new1 _ _ _ _ _ rfl (bM _)) aa (HE.out.alloc' _).size w (HE.out.alloc' _) ?_))
    exact ww)
  exact AZ
def beI (wd:Nat) (z:Int):List UInt8:=cU wd (z % 18446744073709551616).toNat
theorem iG (wd:Nat) (z:Int):(beI wd z).length=wd:=dE _ _
def uI (z:Int):UInt64:=UInt64.ofNat (z % 18446744073709551616).toNat
theorem pP (z:Int):IntKind.u64.wrap z=un (uI z):=by
 rw [IntKind.wrap_u64];unfold un uI;rw [UInt64.toNat_ofNat_of_lt' (by simp [UInt64.size];omega)];omega
theorem aEu (z:Int):(uI z).toNat=(z % 18446744073709551616).toNat:=by
 unfold uI;rw [UInt64.toNat_ofNat_of_lt' (by simp [UInt64.size];omega)]
theorem qK (A:Option Addr) (n c:Nat) (l:List UInt8) (z:Int) (wd:Nat) (hwd1:1≤wd) (hwd:wd≤8) (w:World) (h:SlB w A n c l) (hn:n≤140737488351232) :
  Calls prog 151 #[.slice A n c,.int .i64 z,.int .i64 (wd:Int)] w fun e w'=>∃ A' c',e=.returned (.slice A' (n+wd) c')∧OwnB w' w.heap.size 5 A' (n+wd) c' (l ++ beI wd z)∧Ext w w':=by
 have hu:=pP z
 have HA:=zh (lR A n c l (uI z) wd hwd1 hwd w h hn)
 rw [aEu] at HA
 generalize uI z=u at *
 clear h
 go_enter func151,ntmps151
 go_wp2_with fail
 refine HA.out.mono ?_
 rintro e w1 ⟨A1,c1,rfl,hO,hE⟩
 go_wp2_with fail
 go_ret
 exact ⟨A1,c1,rfl,hO,hE⟩
theorem pE (A:Option Addr) (n c:Nat) (l:List UInt8) (v:UInt64) (w:World) (h:SlB w A n c l) (hn:n≤140737488351232) :
  Calls prog 160 #[.slice A n c,.agg (nmc v)] w fun e w'=>∃ A' c',e=.returned (.slice A' (n+8) c')∧OwnB w' w.heap.size 5 A' (n+8) c' (l ++ nmb v)∧Ext w w':=by
 have hE0:=(Ext.refl w).alloc' (.cells (nmc v) 50)
 have HS:=zh (fun (W:World) (hW:Ext w W)=>h.ext hW)
 have HB:=zh (Blk.new w 50 (nmc v))
 have HE0:=zh hE0
 clear h hE0
 go_enter func160,ntmps160
 go_wp2_with fail
 go_region_law (first | (refine kX bU rfl (.tmp 5) (.tmp 6) rfl (w.heap.size+1) (some ⟨w.heap.size+1,0,none⟩) 0 0 [] dp (OwnB.drew (OwnB.made (w.alloc (.cells (nmc v) 50)) (w.heap.size+1) #[] 0 (w.heap.size+1) dr (Nat.le_refl _) aa rfl)) A n c l dp (HS.out _ ((HE0.out.alloc' _).drew')) aa dr ?_;intro A5 c5 w5 hO5 hg5;have hE5:=uY (w0:=w.alloc (.cells (nmc v) 50)) (OwnB.drew (OwnB.made (w.alloc (.cells (nmc v) 50)) (w.heap.size+1) #[] 0 (w.heap.size+1) dr (Nat.le_refl _) aa rfl)) (((Below.refl _ _).alloc dr _).drew) dr hg5;have HO5:=zh (show OwnB w5 (w.heap.size+1) 5 A5 n c5 l from by simpa using hO5);have HE5:=zh hE5;have HS5:=zh (SlB.blkN (HB.out.below hE5 aa));clear hO5 hE5 hg5) | (refine kX bU rfl (.tmp 7) (.tmp 8) rfl (w.heap.size+1) A5 n c5 l dp HO5.out (some ⟨w.heap.size,0,none⟩) 8 8 (nmb v) dp HS5.out aa sx ?_;intro A6 c6 w6 hO6 hg6;have hE6:=uY HO5.out HE5.out sx hg6;have HO6:=zh hO6;have HE6:=zh hE6;clear hO6 hg6 hE6))
 all_goals (
  go_wp2_with fail
  go_ret
  refine ⟨A6,c6,rfl,bA HO6.out aa,HE0.out.trans (HE6.out.mono dr)⟩)
theorem iM {α:Type} (a:α) (l m:List α):List.append (a :: l) m=a :: List.append l m:=rfl
theorem kC {α:Type} (m:List α):List.append [] m=m:=rfl
structure OpR where
 k:Int
 tO:Int
 am:Int
 ul:Int
 va:Int
 lk:UInt64
 hs:UInt64
 A1:Option Addr
 n1:Nat
 c1:Nat
 pre:List UInt8
 A2:Option Addr
 n2:Nat
 c2:Nat
 prf:List UInt8
abbrev opA (R:OpR):Array Value:=#[.int .i64 R.k,.int .i64 R.tO,.int .i64 R.am,.int .i64 R.ul,.int .i64 R.va,.int .u8 (nb8 R.lk 0),.int .u8 (nb8 R.lk 1),.int .u8 (nb8 R.lk 2),.int .u8 (nb8 R.lk 3),.int .u8 (nb8 R.lk 4),.int .u8 (nb8 R.lk 5),.int .u8 (nb8 R.lk 6),.int .u8 (nb8 R.lk 7),.int .u8 (nb8 R.hs 0),.int .u8 (nb8 R.hs 1),.int .u8 (nb8 R.hs 2),.int .u8 (nb8 R.hs 3),.int .u8 (nb8 R.hs 4),.int .u8 (nb8 R.hs 5),.int .u8 (nb8 R.hs 6),.int .u8 (nb8 R.hs 7),.slice R.A1 R.n1 R.c1,.slice R.A2 R.n2 R.c2]
structure OpR.ok (R:OpR) (w:World):Prop where
 pre:SlB w R.A1 R.n1 R.c1 R.pre
 prf:SlB w R.A2 R.n2 R.c2 R.prf
theorem OpR.ok.ext {R:OpR} {w w':World} (h:R.ok w) (e:Ext w w'):R.ok w':=⟨h.pre.ext e,h.prf.ext e⟩
def opL (R:OpR):List Value:=(opA R).toList
theorem iE (R:OpR):(opL R).length=23:=rfl
theorem aGa (R:OpR):(opL R).toArray=opA R:=rfl
theorem aFZ (R:OpR):∀ u ∈ opL R,u.oneCell'=true:=by
 intro u hu
 simp only [opL,List.mem_cons,List.not_mem_nil,or_false] at hu
 exact xv
theorem aKi (R:OpR):(opA R).all (·.oneCell')=true:=all_oneCell_toArray (aFZ R)
def ocs (L:List OpR):List Value:=L.flatMap opL
theorem aGb:ocs []=[]:=rfl
theorem oQ (x:OpR) (r:List OpR):ocs (x :: r)=opL x ++ ocs r:=by simp [ocs]
theorem aEX (a b:List OpR):ocs (a ++ b)=ocs a ++ ocs b:=by simp [ocs]
theorem xJ (L:List OpR):(ocs L).length=L.length * 23:=by
 induction L with
 | nil=>rfl
 | cons x r ih=>rw [oQ,List.length_append,iE,ih,List.length_cons];omega
theorem aIQ (L:List OpR) (k:Nat):(ocs L).drop (k * 23)=ocs (L.drop k):=by
 induction k generalizing L with
 | zero=>simp
 | succ k ih =>
  cases L with
  | nil=>simp [ocs]
  | cons n r =>
   rw [oQ,List.drop_succ_cons,← ih r,show (k+1) * 23=(opL n).length+k * 23 from by rw [iE];omega,List.drop_append,List.drop_of_length_le aa]
   simp
def aNg:OpR:=⟨0,0,0,0,0,0,0,none,0,0,[],none,0,0,[]⟩
def bR (L:List OpR) (k:Nat):OpR:=L.getD k aNg
theorem aMc {L:List OpR} {k:Nat} (h:k < L.length):((ocs L).drop (k * 23)).take 23=opL (bR L k):=by
 have e:L[k]=bR L k:=by simp [bR,h]
 rw [aIQ,List.drop_eq_getElem_cons h,oQ,List.take_append_of_le_length (by rw [iE];omega),List.take_of_length_le (by rw [iE];omega),e]
theorem pC {L:List OpR} {k:Nat} (h:k < L.length):L.take (k+1)=L.take k ++ [bR L k]:=by
 rw [List.take_succ_eq_append_getElem h]
 have e:L[k]=bR L k:=by simp [bR,h]
 rw [e]
theorem oR {L:List OpR} {k:Nat} (h:k < L.length):bR L k ∈ L:=by
 have e:L[k]=bR L k:=by simp [bR,h]
 rw [← e];exact List.getElem_mem _
structure SlO (w:World) (A:Option Addr) (n c:Nat) (L:List OpR):Prop where
 len:L.length=n
 le:n≤c
 cap:c≤9223372036854775807
 rd:Rd w A (ocs L)
 ok:∀ R,R ∈ L→R.ok w
section
variable {w w':World} {A:Option Addr} {n c:Nat} {L:List OpR}
theorem SlO.ext (h:SlO w A n c L) (e:Ext w w'):SlO w' A n c L:=⟨h.len,h.le,h.cap,h.rd.ext e,fun R hR=>(h.ok R hR).ext e⟩
theorem SlO.at (h:SlO w A n c L) (hn:0 < n):∃ b o,A=some ⟨b,o,none⟩∧w.rangeAt b o (ocs L)∧b < w.heap.size :=
 h.rd.at (by intro e;have:=congrArg List.length e;rw [xJ,h.len] at this;simp at this;omega)
theorem SlO.nil (w:World):SlO w none 0 0 []:=⟨rfl,Nat.le_refl _,Nat.zero_le _,.nil,fun R hR=>by cases hR⟩
theorem SlO.nth (h:SlO w A n c L) {k:Nat} (hk:k < n):(bR L k).ok w:=h.ok _ (oR (by rw [h.len];exact hk))
theorem sA {b o k:Nat} (h:w.rangeAt b o (ocs L)) (hk:k < L.length):w.rangeAt b (o+k * 23) (opL (bR L k)):=by
 have h1:=aQ (k:=23) (bG (k:=k * 23) h)
 rwa [aMc hk] at h1
end
section
variable {o:Oper} {a:Act} {w:World} {ops:Array Oper} {rest:List Oper} {Q:Exit→Act→World→Prop}
theorem gC (hgd:o.guard=none) (x:Operand) (ho:o.op=.load 52 x) (b of:Nat) (hx:a.eval x=.pointer (some ⟨b,of,none⟩)) (R:OpR) (hc:w.rangeAt b of (opL R))
  (h:wpList prog ops Q rest (a.put o.dst (.agg (opA R))) w):wpList prog ops Q (o :: rest) a w:=by
 have:=wpList_load_mid (P:=prog) (Q:=Q) (ops:=ops) (rest:=rest) hgd 52 x ho b of hx (opL R) _ hc underlying52 rfl (by rw [iE];kernel_rfl)
 rw [aGa] at this
 exact this h
theorem uF (hgd:o.guard=none) (x y:Operand) (ho:o.op=.store 52 x y) (cs:Array Value) (hcs:cs.size=23) (R:OpR) (hx:a.eval x=.pointer (some ⟨w.heap.size,0,none⟩)) (hy:a.eval y=.agg (opA R))
  (h:wpList prog ops Q rest (a.put o.dst undef) (w.alloc (.cells (opA R) 52))):wpList prog ops Q (o :: rest) a (w.alloc (.cells cs 52)):=by
 have ht:=aI (Blk.new w 52 cs)
 rw [hcs] at ht
 refine wpList_store_mid hgd 52 x y ho w.heap.size 0 (opA R) hx hy ht ab (aKi R) ?_
 rw [eD w 52 cs (opA R) rz]
 exact h
theorem aIT (w:World) (R:OpR):(w.alloc (.cells (opA R) 52)).rangeAt w.heap.size 0 (opL R):=aC (Blk.new w 52 (opA R))
end
abbrev txA (ac sq:Int) (A:Option Addr) (n c:Nat):Array Value:=#[.int .i64 ac,.int .i64 sq,.slice A n c]
abbrev stA (ac sq:Int) (A:Option Addr) (n c:Nat) (S:Option Addr) (m d:Nat):Array Value:=#[.int .i64 ac,.int .i64 sq,.slice A n c,.slice S m d]
def kV (k:Int):Int:=if k=1 then 5 else if k=2 then 29 else if k=3 then 101 else if k=4 then 37 else if k=5 then 6 else if k=6 then 130 else 0
def cQ (used:Bool) (n lo hi:Int):Bool:=if used then decide (lo≤n∧n≤hi) else decide (n=0)
def fTo (k:Int):Bool:=decide (1≤k∧k≤4)
def fAm (k:Int):Bool:=decide (1≤k∧k≤5)
def fUl (k:Int):Bool:=decide (k=2)
def fVa (k:Int):Bool:=decide (5≤k∧k≤6)
def aAh (k:Int):Bool:=decide (k=3)
def aAg (k:Int):Bool:=decide (k=6)
def fLk (k:Int):Bool:=decide (3≤k∧k≤4)
def vOp (R:OpR):Bool :=
 decide (1≤R.k∧R.k≤6) && (cQ (fTo R.k) R.tO 0 15 && (cQ (fAm R.k) R.am 1 1099511627776 && (cQ (fUl R.k) R.ul 1 1000 && (cQ (fVa R.k) R.va 0 9 && (cQ (aAh R.k) (R.n1:Int) 0 32 && (cQ (aAg R.k) (R.n2:Int) 1 2000 && ((fUl R.k || decide (R.hs=0)) && (fLk R.k || decide (R.lk=0)))))))))
theorem aCw {k:Int} (h:¬ (1≤k∧k≤6)):kV k=0:=by
 unfold kV
 rw [if_neg aa,if_neg aa,if_neg aa,if_neg aa,if_neg aa,if_neg aa]
@[go_sem] theorem aNC:bits .and .i64 5 1=1:=by decide
@[go_sem] theorem aNB:bits .and .i64 5 2=0:=by decide
@[go_sem] theorem aNA:bits .and .i64 5 4=4:=by decide
@[go_sem] theorem aNz:bits .and .i64 5 8=0:=by decide
@[go_sem] theorem aMR:bits .and .i64 5 16=0:=by decide
@[go_sem] theorem aMQ:bits .and .i64 5 32=0:=by decide
@[go_sem] theorem aMP:bits .and .i64 5 64=0:=by decide
@[go_sem] theorem aMq:bits .and .i64 5 128=0:=by decide
@[go_sem] theorem aMZ:bits .and .i64 29 1=1:=by decide
@[go_sem] theorem aMY:bits .and .i64 29 2=0:=by decide
@[go_sem] theorem aMX:bits .and .i64 29 4=4:=by decide
@[go_sem] theorem aMW:bits .and .i64 29 8=8:=by decide
@[go_sem] theorem aMw:bits .and .i64 29 16=16:=by decide
@[go_sem] theorem aMv:bits .and .i64 29 32=0:=by decide
@[go_sem] theorem aMu:bits .and .i64 29 64=0:=by decide
@[go_sem] theorem aLz:bits .and .i64 29 128=0:=by decide
@[go_sem] theorem aME:bits .and .i64 101 1=1:=by decide
@[go_sem] theorem aMD:bits .and .i64 101 2=0:=by decide
@[go_sem] theorem aMC:bits .and .i64 101 4=4:=by decide
@[go_sem] theorem aMB:bits .and .i64 101 8=0:=by decide
@[go_sem] theorem aLF:bits .and .i64 101 16=0:=by decide
@[go_sem] theorem aLE:bits .and .i64 101 32=32:=by decide
@[go_sem] theorem aLD:bits .and .i64 101 64=64:=by decide
@[go_sem] theorem aLd:bits .and .i64 101 128=0:=by decide
@[go_sem] theorem aMV:bits .and .i64 37 1=1:=by decide
@[go_sem] theorem aMU:bits .and .i64 37 2=0:=by decide
@[go_sem] theorem aMT:bits .and .i64 37 4=4:=by decide
@[go_sem] theorem aMS:bits .and .i64 37 8=0:=by decide
@[go_sem] theorem aMt:bits .and .i64 37 16=0:=by decide
@[go_sem] theorem aMs:bits .and .i64 37 32=32:=by decide
@[go_sem] theorem aMr:bits .and .i64 37 64=0:=by decide
@[go_sem] theorem aLy:bits .and .i64 37 128=0:=by decide
@[go_sem] theorem aNy:bits .and .i64 6 1=0:=by decide
@[go_sem] theorem aNx:bits .and .i64 6 2=2:=by decide
@[go_sem] theorem aNw:bits .and .i64 6 4=4:=by decide
@[go_sem] theorem aNv:bits .and .i64 6 8=0:=by decide
@[go_sem] theorem aMO:bits .and .i64 6 16=0:=by decide
@[go_sem] theorem aMN:bits .and .i64 6 32=0:=by decide
@[go_sem] theorem aMM:bits .and .i64 6 64=0:=by decide
@[go_sem] theorem aMp:bits .and .i64 6 128=0:=by decide
@[go_sem] theorem aMA:bits .and .i64 130 1=0:=by decide
@[go_sem] theorem aMz:bits .and .i64 130 2=2:=by decide
@[go_sem] theorem aMy:bits .and .i64 130 4=0:=by decide
@[go_sem] theorem aMx:bits .and .i64 130 8=0:=by decide
@[go_sem] theorem aLC:bits .and .i64 130 16=0:=by decide
@[go_sem] theorem aLB:bits .and .i64 130 32=0:=by decide
@[go_sem] theorem aLA:bits .and .i64 130 64=0:=by decide
@[go_sem] theorem aLc:bits .and .i64 130 128=128:=by decide
theorem lI (k:Int):k=1 ∨ k=2 ∨ k=3 ∨ k=4 ∨ k=5 ∨ k=6 ∨ ¬ (1≤k∧k≤6):=by omega
theorem eX (k:Int) (w:World):Calls prog 168 #[.int .i64 k] w fun e w'=>e=.returned (.int .i64 (kV k))∧w=w':=by
 rcases lI k with rfl | rfl | rfl | rfl | rfl | rfl | h
 case inr.inr.inr.inr.inr.inr =>
  rw [aCw h]
  have d1:decide (k=1)=false:=decide_eq_false aa
  have d2:decide (k=2)=false:=decide_eq_false aa
  have d3:decide (k=3)=false:=decide_eq_false aa
  have d4:decide (k=4)=false:=decide_eq_false aa
  have d5:decide (k=5)=false:=decide_eq_false aa
  have d6:decide (k=6)=false:=decide_eq_false aa
  have e1:(k == 1)=false:=gj
  have e2:(k == 2)=false:=gj
  have e3:(k == 3)=false:=gj
  have e4:(k == 4)=false:=gj
  have e5:(k == 5)=false:=gj
  have e6:(k == 6)=false:=gj
  clear h
  go_enter func168,ntmps168
  go_wp2_with fail
  go_ret
  exact ⟨rfl,rfl⟩
 all_goals (
  go_enter func168,ntmps168
  go_wp2_with fail
  go_ret
  exact ⟨rfl,rfl⟩)
theorem aW (u:Bool) (n lo hi:Int) (w:World):Calls prog 169 #[.bool u,.int .i64 n,.int .i64 lo,.int .i64 hi] w fun e w'=>e=.returned (.bool (cQ u n lo hi))∧w=w':=by
 cases u with
 | false =>
  have HV:=zh (show cQ false n lo hi=decide (n=0) from rfl)
  by_cases h0:n=0
  ·subst h0
   exact zr
  have d1:decide (n=0)=false:=decide_eq_false h0
  have d2:(n == 0)=false:=gj
  have HW:=zh (show cQ false n lo hi=false by rw [HV.out,d1])
  clear h0 HV
  go_enter func169,ntmps169
  go_wp2_with fail
  go_ret
  exact ⟨by rw [HW.out];rfl,rfl⟩
 | true =>
  by_cases h1:lo≤n
  ·by_cases h2 : n ≤ hi
   ·have HV := zh (show cQ true n lo hi = true from decide_eq_true ⟨h1, h2⟩)
    exact zr
   have HV:=zh (show cQ true n lo hi=false from decide_eq_false aa)
   have d2:decide (n≤hi)=false:=decide_eq_false h2
   clear h2
   exact zr
  have HV:=zh (show cQ true n lo hi=false from decide_eq_false aa)
  have d1:decide (lo≤n)=false:=decide_eq_false h1
  clear h1
  exact zr
end
section
open Go.RowKit
class RowT (α:Type) where
 sz:Nat
 z:α
 enc:α→List Value
 ok:α→World→Prop
 pos:0 < sz
 len:∀ x,(enc x).length=sz
 one:∀ x,∀ u ∈ enc x,u.oneCell'=true
 ext:∀ x w w',ok x w→Ext w w'→ok x w'
section
variable {α:Type} [RowT α]
def gcs (L:List α):List Value:=L.flatMap RowT.enc
theorem aGn:gcs ([]:List α)=[]:=rfl
theorem dK (x:α) (r:List α):gcs (x :: r)=RowT.enc x ++ gcs r:=by simp [gcs]
theorem gK (x:α):gcs [x]=RowT.enc x:=by simp [gcs]
theorem bL (a b:List α):gcs (a ++ b)=gcs a ++ gcs b:=by simp [gcs]
theorem aJ (L:List α):(gcs L).length=L.length * RowT.sz α:=by
 induction L with
 | nil=>simp [gcs]
 | cons x r ih=>rw [dK,List.length_append,RowT.len,ih,List.length_cons,Nat.add_mul,Nat.one_mul,Nat.add_comm]
theorem bP (L:List α):∀ u ∈ gcs L,u.oneCell'=true:=by
 intro u hu
 simp only [gcs,List.mem_flatMap] at hu
 obtain ⟨x,_,h⟩:=hu
 exact RowT.one x u h
theorem fB (L:List α) (k:Nat):(gcs L).drop (k * RowT.sz α)=gcs (L.drop k):=by
 induction k generalizing L with
 | zero=>simp
 | succ k ih =>
  cases L with
  | nil=>simp [gcs]
  | cons n r =>
   rw [dK,List.drop_succ_cons,← ih r,show (k+1) * RowT.sz α=(RowT.enc n).length+k * RowT.sz α from pj,List.drop_append,List.drop_of_length_le aa]
   simp
theorem iV (L:List α) (k:Nat):(gcs L).take (k * RowT.sz α)=gcs (L.take k):=by
 induction k generalizing L with
 | zero=>simp [gcs]
 | succ k ih =>
  cases L with
  | nil=>simp [gcs]
  | cons n r =>
   rw [dK,List.take_succ_cons,dK,← ih r,show (k+1) * RowT.sz α=(RowT.enc n).length+k * RowT.sz α from pj,List.take_append,List.take_of_length_le aa]
   simp
def aS (L:List α) (k:Nat):α:=L.getD k (RowT.z)
theorem cH {L:List α} {k:Nat} (h:k < L.length):L[k]=aS L k:=by simp [aS,h]
theorem aJh {L:List α} {k:Nat} (h:k < L.length):((gcs L).drop (k * RowT.sz α)).take (RowT.sz α)=RowT.enc (aS L k):=by
 rw [fB,List.drop_eq_getElem_cons h,dK,List.take_append_of_le_length (by rw [RowT.len];omega),List.take_of_length_le (by rw [RowT.len];omega),cH h]
theorem iI {L:List α} {k:Nat} (h:k < L.length):L.take (k+1)=L.take k ++ [aS L k]:=by
 rw [List.take_succ_eq_append_getElem h,cH h]
theorem lF {L:List α} {k:Nat} (h:k < L.length):aS L k ∈ L:=by
 rw [← cH h];exact List.getElem_mem _
structure SlG (w:World) (A:Option Addr) (n c:Nat) (L:List α):Prop where
 len:L.length=n
 le:n≤c
 cap:c≤9223372036854775807
 rd:Rd w A (gcs L)
 ok:∀ R,R ∈ L→RowT.ok R w
variable {w w':World} {A:Option Addr} {n c:Nat} {L:List α}
theorem SlG.ext (h:SlG w A n c L) (e:Ext w w'):SlG w' A n c L:=⟨h.len,h.le,h.cap,h.rd.ext e,fun R hR=>RowT.ext _ _ _ (h.ok R hR) e⟩
theorem SlG.at (h:SlG w A n c L) (hn:0 < n):∃ b o,A=some ⟨b,o,none⟩∧w.rangeAt b o (gcs L)∧b < w.heap.size :=
 h.rd.at (by
  intro e
  have:=congrArg List.length e
  rw [aJ,h.len] at this
  have:=Nat.mul_pos hn (RowT.pos (α:=α))
  simp at *;omega)
theorem SlG.nil (w:World):SlG w none 0 0 ([]:List α):=⟨rfl,Nat.le_refl _,Nat.zero_le _,.nil,fun R hR=>by cases hR⟩
theorem SlG.nth (h:SlG w A n c L) {k:Nat} (hk:k < n):RowT.ok (aS L k) w:=h.ok _ (lF (by rw [h.len];exact hk))
theorem cN {b o k:Nat} (h:w.rangeAt b o (gcs L)) (hk:k < L.length):w.rangeAt b (o+k * RowT.sz α) (RowT.enc (aS L k)):=by
 have h1:=aQ (k:=RowT.sz α) (bG (k:=k * RowT.sz α) h)
 rwa [aJh hk] at h1
theorem SlG.upto (h:SlG w A n c L) {k c':Nat} (hk:k≤n) (hc:k≤c') (hc':c'≤9223372036854775807):SlG w A k c' (L.take k):=by
 refine ⟨mc,hc,hc',?_,fun R hR=>h.ok R (List.mem_of_mem_take hR)⟩
 rw [← iV];exact h.rd.take _
theorem SlG.cut (h:SlG w A n c L) {k:Nat} (hk:k≤n) (hkc:k < c):SlG w (A.map (·.add (k * RowT.sz α))) (n - k) (c - k) (L.drop k):=by
 refine ⟨nC,mf,sw,?_,fun R hR=>h.ok R (List.mem_of_mem_drop hR)⟩
 have:=h.rd.cut (n:=n) (k:=k) (c:=c) (size:=RowT.sz α) (by rw [aJ,h.len]) hk h.le
 rwa [if_neg aa,fB] at this
def OwnG (w:World) (base:Nat) (e:TypeId) (A:Option Addr) (n c:Nat) (L:List α):Prop:=w.ownsRow base e (RowT.sz α) (.slice A n c) n (gcs L)
section
variable {base:Nat} {e:TypeId}
theorem OwnG.len (h:OwnG w base e A n c L):L.length=n:=by
 have:=h.1;rw [aJ] at this;exact Nat.eq_of_mul_eq_mul_right RowT.pos this
theorem OwnG.sl (h:OwnG w base e A n c L) (ok:∀ R,R ∈ L→RowT.ok R w):SlG w A n c L:=by
 obtain ⟨h1,h2⟩:=eI h
 exact ⟨h.len,h1,h2,Rd.of_own h,ok⟩
theorem OwnG.nil (w:World) (base:Nat) (e:TypeId):OwnG w base e none 0 0 ([]:List α):=World.ownsRow_nil w base e _
theorem OwnG.ext (h:OwnG w base e A n c L) (he:Ext w w'):OwnG w' base e A n c L:=bC h he
theorem OwnG.mono {base':Nat} (h:OwnG w base e A n c L) (hb:base'≤base):OwnG w base' e A n c L:=bA h hb
end
theorem aLU {sz:Nat} (hsz:RowT.sz α=sz) {b o:Nat}:∀ (n:Nat),(∀ j,j < n→∃ y:α,w.rangeAt b (o+j * sz) (RowT.enc y)∧RowT.ok y w)→∃ L:List α,L.length=n∧w.rangeAt b o (gcs L)∧∀ R,R ∈ L→RowT.ok R w:=by
 intro n
 subst hsz
 induction n with
 | zero=>intro _;exact ⟨[],rfl,fun j v hv=>by simp [gcs] at hv,fun R hR=>by cases hR⟩
 | succ n ih =>
  intro h
  obtain ⟨L,hL,hr,hok⟩:=ih (fun j hj=>h j aa)
  obtain ⟨y,hy,hyo⟩:=h n aa
  refine ⟨L ++ [y],by simp [hL],?_,?_⟩
  ·rw [bL, gK]
   refine lA hr ?_
   rw [aJ,hL];exact hy
  exact yv
end
def Grw (w w':World):Prop:=Ext w w'∧w.drawn≤w'.drawn
theorem Grw.refl (w:World):Grw w w:=⟨Ext.refl w,Nat.le_refl _⟩
theorem Grw.ext {w w':World} (h:Grw w w'):Ext w w':=h.1
theorem Grw.trans {a b c:World} (h:Grw a b) (k:Grw b c):Grw a c:=⟨h.1.trans k.1,Nat.le_trans h.2 k.2⟩
theorem Grw.drew {a b:World} (h:Grw a b):Grw a b.drew:=⟨h.1.drew',by have:=h.2;show a.drawn≤b.drawn+1;omega⟩
theorem Grw.drewN {a b:World} (h:Grw a b) (n:Nat):Grw a (b.drewN n):=⟨⟨h.1.os,h.1.tape,h.1.output,h.1.size,h.1.block⟩,by have:=h.2;show a.drawn≤b.drawn+n;omega⟩
theorem Grw.alloc {a b:World} (h:Grw a b) (o:Obj):Grw a (b.alloc o):=⟨h.1.alloc' o,h.2⟩
theorem Grw.set {a b:World} (h:Grw a b) {p:Addr} (hp:a.heap.size≤p.block) (u:Value):Grw a (b.setCell p u):=⟨h.1.setCell hp u,h.2⟩
theorem Grw.grow {a b:World} (h:Grw a b):∃ q os,b=Sort.grow (a.drewN q) os:=by
 obtain ⟨⟨h1,h2,h3,h4,h5⟩,h6⟩:=h
 refine ⟨b.drawn - a.drawn,b.heap.extract a.heap.size b.heap.size,?_⟩
 obtain ⟨bh,bt,bd,bo,bu⟩:=b
 obtain ⟨ah,at',ad,ao,au⟩:=a
 simp only at h1 h2 h3 h4 h5 h6
 subst h1;subst h2;subst h3
 simp only [Sort.grow,World.drewN,World.mk.injEq,true_and,and_true]
 refine ⟨?_,aa⟩
 apply Array.ext_getElem?
 intro i
 by_cases hi:i < ah.size
 ·rw [Array.getElem?_append_left hi,h5 i hi]
 rw [Array.getElem?_append_right aa]
 simp [Array.getElem?_extract]
 by_cases hb:i < bh.size
 ·rw [if_pos aa,show ah.size+(i - ah.size)=i from aa]
 rw [if_neg aa];simp;omega
end
section
open Go.RowKit
attribute [local go_sem ↓] Go.wp_at_zero Go.wp_at_succ
structure VtR where
 k:Int
 sl:Int
 ro:Int
 ch:Int
 si:Int
 su:Int
 pa:UInt64
 va:UInt64
deriving DecidableEq
def wfI (z:Int):Prop:=(Lit.int .i64 z).wf=true
structure VtR.wf (v:VtR):Prop where
 k:wfI v.k
 sl:wfI v.sl
 ro:wfI v.ro
 ch:wfI v.ch
 si:wfI v.si
 su:wfI v.su
abbrev vtA (v:VtR):Array Value:=#[.int .i64 v.k,.int .i64 v.sl,.int .i64 v.ro,.int .i64 v.ch,.int .i64 v.si,.int .i64 v.su,.int .u8 (nb8 v.pa 0),.int .u8 (nb8 v.pa 1),.int .u8 (nb8 v.pa 2),.int .u8 (nb8 v.pa 3),.int .u8 (nb8 v.pa 4),.int .u8 (nb8 v.pa 5),.int .u8 (nb8 v.pa 6),.int .u8 (nb8 v.pa 7),.int .u8 (nb8 v.va 0),.int .u8 (nb8 v.va 1),.int .u8 (nb8 v.va 2),.int .u8 (nb8 v.va 3),.int .u8 (nb8 v.va 4),.int .u8 (nb8 v.va 5),.int .u8 (nb8 v.va 6),.int .u8 (nb8 v.va 7)]
def vtL (v:VtR):List Value:=(vtA v).toList
theorem qC (v:VtR):(vtL v).length=22:=rfl
theorem aFJ (v:VtR):(vtL v).toArray=vtA v:=rfl
theorem aFI (v:VtR):∀ u ∈ vtL v,u.oneCell'=true:=by
 intro u hu
 simp only [vtL,List.mem_cons,List.not_mem_nil,or_false] at hu
 rcases hu with rfl | rfl | rfl | rfl | rfl | rfl | rfl | rfl | rfl | rfl | rfl | rfl | rfl | rfl | rfl | rfl | rfl | rfl | rfl | rfl | rfl | rfl <;> rfl
theorem aAV (v:VtR):(vtA v).all (·.oneCell')=true:=all_oneCell_toArray (aFI v)
instance:RowT VtR where
 sz:=22
 z:=⟨0,0,0,0,0,0,0,0⟩
 enc:=vtL
 ok v w:=v.wf
 pos:=by decide
 len:=qC
 one:=aFI
 ext _ _ _ h _:=h
structure SgR where
 v:VtR
 A:Option Addr
 n:Nat
 c:Nat
 sig:List UInt8
abbrev sgA (S:SgR):Array Value:=#[.int .i64 S.v.k,.int .i64 S.v.sl,.int .i64 S.v.ro,.int .i64 S.v.ch,.int .i64 S.v.si,.int .i64 S.v.su,.int .u8 (nb8 S.v.pa 0),.int .u8 (nb8 S.v.pa 1),.int .u8 (nb8 S.v.pa 2),.int .u8 (nb8 S.v.pa 3),.int .u8 (nb8 S.v.pa 4),.int .u8 (nb8 S.v.pa 5),.int .u8 (nb8 S.v.pa 6),.int .u8 (nb8 S.v.pa 7),.int .u8 (nb8 S.v.va 0),.int .u8 (nb8 S.v.va 1),.int .u8 (nb8 S.v.va 2),.int .u8 (nb8 S.v.va 3),.int .u8 (nb8 S.v.va 4),.int .u8 (nb8 S.v.va 5),.int .u8 (nb8 S.v.va 6),.int .u8 (nb8 S.v.va 7),.slice S.A S.n S.c]
def sgL (S:SgR):List Value:=(sgA S).toList
theorem aEE (S:SgR):(sgL S).length=23:=rfl
theorem vO (v:SgR):∀ u ∈ sgL v,u.oneCell'=true:=by
 intro u hu
 simp only [sgL,List.mem_cons,List.not_mem_nil,or_false] at hu
 exact xv
theorem aBg (v:SgR):(sgA v).all (·.oneCell')=true:=all_oneCell_toArray (vO v)
structure SgR.ok (S:SgR) (w:World):Prop where
 v:S.v.wf
 sig:SlB w S.A S.n S.c S.sig
theorem SgR.ok.ext {S:SgR} {w w':World} (h:S.ok w) (e:Ext w w'):S.ok w':=⟨h.v,h.sig.ext e⟩
instance:RowT SgR where
 sz:=23
 z:=⟨⟨0,0,0,0,0,0,0,0⟩,none,0,0,[]⟩
 enc:=sgL
 ok S w:=S.ok w
 pos:=by decide
 len:=aEE
 one:=vO
 ext _ _ _ h e:=h.ext e
section
variable {o:Oper} {a:Act} {w:World} {ops:Array Oper} {rest:List Oper} {Q:Exit→Act→World→Prop}
theorem fM (hgd:o.guard=none) (x:Operand) (ho:o.op=.load 124 x) (b of:Nat) (hx:a.eval x=.pointer (some ⟨b,of,none⟩)) (R:VtR) (hc:w.rangeAt b of (vtL R))
  (h:wpList prog ops Q rest (a.put o.dst (.agg (vtA R))) w):wpList prog ops Q (o :: rest) a w:=by
 have:=wpList_load_mid (P:=prog) (Q:=Q) (ops:=ops) (rest:=rest) hgd 124 x ho b of hx (vtL R) _ hc underlying124 rfl (by rw [qC];kernel_rfl)
 rw [aFJ] at this
 exact this h
theorem kM (hgd:o.guard=none) (x y:Operand) (ho:o.op=.store 124 x y) (cs:Array Value) (hcs:cs.size=22) (R:VtR) (hx:a.eval x=.pointer (some ⟨w.heap.size,0,none⟩)) (hy:a.eval y=.agg (vtA R))
  (h:wpList prog ops Q rest (a.put o.dst undef) (w.alloc (.cells (vtA R) 124))):wpList prog ops Q (o :: rest) a (w.alloc (.cells cs 124)):=by
 have ht:=aI (Blk.new w 124 cs)
 rw [hcs] at ht
 refine wpList_store_mid hgd 124 x y ho w.heap.size 0 (vtA R) hx hy ht ab (aAV R) ?_
 rw [eD w 124 cs (vtA R) rz]
 exact h
end
theorem rI (x:Int) (hx:wfI x):prog.keyLits 2 3 [.int .i64 x]=some [.int .i64 x]:=by
 unfold Program.keyLits
 rw [underlying3]
 simp only
 rw [if_pos ⟨trivial,hx⟩]
theorem aHW (x:Int) (hx:wfI x):prog.keyLits 2 28 [.int .i64 x]=some [.int .i64 x]:=by
 unfold Program.keyLits
 rw [underlying28]
 simp only
 rw [if_pos ⟨trivial,hx⟩]
def vtK (v:VtR):List Lit:=[.int .i64 v.k,.int .i64 v.sl,.int .i64 v.ro,.int .i64 v.ch,.int .i64 v.si,.int .i64 v.su] ++ ((nmb v.pa).map pN ++ (nmb v.va).map pN)
def vtC (v:VtR):List Value:=[.int .i64 v.k,.int .i64 v.sl,.int .i64 v.ro,.int .i64 v.ch,.int .i64 v.si,.int .i64 v.su] ++ (bcs (nmb v.pa) ++ bcs (nmb v.va))
theorem aNa (v:VtR):vtL v=vtC v:=by unfold vtC;rw [eJ,eJ];rfl
theorem aJT {a b:VtR} (h:vtK a=vtK b):a=b:=by
 unfold vtK at h
 simp only [List.cons_append,List.nil_append,List.cons.injEq,Lit.int.injEq,true_and] at h
 obtain ⟨h1,h2,h3,h4,h5,h6,h7⟩:=h
 have h8:=List.append_inj h7 (by simp [aK])
 have h9:=mO h8.1
 have h10:=mO h8.2
 cases a;cases b
 simp only at *
 subst h1;subst h2;subst h3;subst h4;subst h5;subst h6;subst h9;subst h10
 rfl
theorem aNk (v:VtR) (h:v.wf):prog.keyLits 3 124 (vtC v)=some (vtK v):=by
 obtain ⟨h1,h2,h3,h4,h5,h6⟩:=h
 have c1:prog.cellsOf 3=1:=ab
 have cm:prog.cellsOf 28=1:=ab
 have c22:prog.cellsOf 124=22:=ab
 have hp:(bcs (nmb v.pa)).length=8:=by rw [aT,aK]
 have hv:(bcs (nmb v.va)).length=8:=by rw [aT,aK]
 have t8:(bcs (nmb v.pa) ++ bcs (nmb v.va)).take 8=bcs (nmb v.pa):=by rw [← hp];exact List.take_left
 have d8:(bcs (nmb v.pa) ++ bcs (nmb v.va)).drop 8=bcs (nmb v.va):=by rw [← hp];exact List.drop_left
 have t8':(bcs (nmb v.va)).take 8=bcs (nmb v.va):=List.take_of_length_le aa
 have hl:(vtC v).length=22:=by unfold vtC;rw [List.length_append,List.length_append,hp,hv];rfl
 unfold Program.keyLits
 rw [underlying124]
 simp only
 rw [if_pos ⟨by rw [hl,c22],ab⟩]
 simp only [List.mapM_cons,List.mapM_nil,c1,cm,tZ,vtC,List.cons_append,List.nil_append,List.drop_zero,List.drop_succ_cons,List.take_succ_cons,List.take_zero,rI _ h1,rI _ h2,rI _ h3,rI _ h4,rI _ h5,aHW _ h6,t8,d8,t8',aGl]
 simp [vtK]
theorem aKx (a b:VtR) (ha:a.wf) (hb:b.wf) (w:World):(Op.equalIn 10000 124 (.agg (vtA a)) (.agg (vtA b))).run prog w=.ok (decide (a=b)) w:=by
 have hE:=run_equalIn_deep (P:=prog) 9997 3 124 ab
 have hfm:∀ v:VtR,(Value.agg (vtA v)).formed prog 124=true:=fun v=>by
  have c22:prog.cellsOf 124=22:=ab
  simp [Value.formed,underlying124,c22]
 have hk:∀ v:VtR,v.wf→prog.keyLits 3 124 (Value.agg (vtA v)).cells.toList=some (vtK v):=fun v h=>by
  show prog.keyLits 3 _ (vtL v)=_
  rw [aNa];exact aNk v h
 obtain ⟨r,hr,hiff⟩:=hE w 3 3 _ _ _ _ (hfm a) (hfm b) (hk a ha) (hk b hb)
 have hr':(Op.equalIn 10000 124 (.agg (vtA a)) (.agg (vtA b))).run prog w=.ok r w:=hr
 rw [hr']
 have:r=decide (a=b):=by
  by_cases h:a=b
  ·subst h;simp [hiff.2 rfl]
  have:r ≠ true:=fun e=>h (aJT (hiff.1 e))
  simp [h,this]
 rw [this]
theorem aIo (a b:VtR) (ha:a.wf) (hb:b.wf) (w:World):(binOp .eql 124 (.agg (vtA a)) (.agg (vtA b))).run prog w=.ok (.bool (decide (a=b))) w:=by
 rw [run_eql_struct,aKx a b ha hb w]
 rfl
end
section
open Go.RowKit
def kK (l:List UInt8) (at_ i:Nat):UInt64:=qN ((l.drop (at_+i * 8)).take 8)
def aF (l:List UInt8) (at_ n:Nat):List UInt64:=(List.range n).map (kK l at_)
theorem aAb (l:List UInt8) (at_ n:Nat):(aF l at_ n).length=n:=by simp [aF]
theorem aDo (l:List UInt8) (at_ i:Nat) (h:at_+i * 8+8≤l.length):nmb (kK l at_ i)=(l.drop (at_+i * 8)).take 8:=lG _ (by simp;omega)
theorem aOf (n:Nat) (hn:n≤1000) (F:Nat→UInt64) (w:World):(Instr.makeSlice 22 (.int .i64 (n:Int)) (.int .i64 (n:Int))).run prog w=.ok (.slice (some ⟨w.heap.size,0,none⟩) n n) (w.alloc (.cells (ncs (nW F n 0)).toArray 50)):=by
 obtain ⟨i,hi,hz,hs,hby⟩:=cY.get
 have h:=run_make (P:=prog) w 22 50 i (.agg zcs.toArray) cY.ut hi hz .i64 .i64 n n aa aa f7 aa
 rw [hs,show (n:Int).toNat * 8=n * 8 from by rw [Int.toNat_natCast],xR] at h
 simpa [nW] using h
theorem aCG (ns:List UInt64) (k:Nat) (n:UInt64) (hk:k < ns.length):splice (ncs ns) (k * 8) (bcs (nmb n))=ncs (ns.set k n):=by
 have hs:ns.set k n=ns.take k ++ n :: ns.drop (k+1):=px
 unfold splice
 rw [aT,aK,xK,show k * 8+8=(k+1) * 8 from aa,sD,hs,eG,iT]
theorem aAF (A:Option Addr) (len c:Nat) (l:List UInt8) (at_ n:Nat) (w:World) (h:SlB w A len c l) (hn:n≤1000) (hf:at_+n * 8≤len) (hat:at_≤1000) :
  Calls prog 221 #[.slice A len c,.int .i64 (at_:Int),.int .i64 (n:Int)] w fun e w'=>∃ g,e=.returned (.slice (some ⟨g,0,none⟩) n n)∧SlN w' (some ⟨g,0,none⟩) n n (aF l at_ n)∧Ext w w':=by
 have hmk:=aOf n hn (kK l at_)
 have hle:=h.le
 have hcap:=h.cap
 have hlen:=h.len
 have HS:=zh h
 clear h
 go_enter func221,ntmps221
 go_wp2_with fail
 go_loopw [13] (fun i wr=>∃ (k:Nat),k≤n∧i=.int .i64 (k:Int)∧Blk wr w.heap.size 50 (ncs (nW (kK l at_) n k)).toArray∧Ext w wr) (fun i _=>n - (intOf i).toNat)
 case atStart=>exact ⟨0,aa,rfl,Blk.new _ _ _,(Ext.refl w).alloc' _⟩
 case round =>
  obtain ⟨k,hk,rfl,hT,hE⟩:=hrel
  by_cases hlt:k < n
  ·have HT := zh hT
   have HE:=zh hE
   obtain ⟨b,o,rfl,hra,hbl⟩:=(HS.out.ext hE).at aa
   have j0:(0:Int)≤(k:Int):=aa
   have j1:(k:Int) < (n:Int):=aa
   have e1:IntKind.i64.wrap ((k:Int) * 8)=(k:Int) * 8:=IntWalk.i64_in _ aa
   have e2:IntKind.i64.wrap ((at_:Int)+(k:Int) * 8)=(at_:Int)+(k:Int) * 8:=IntWalk.i64_in _ aa
   have e3:(0:Int)≤(at_:Int)+(k:Int) * 8:=aa
   have e4:((at_:Int)+(k:Int) * 8).toNat=at_+k * 8:=aa
   have e5:(at_:Int)+(k:Int) * 8≤(len:Int):=aa
   have e6:¬ c=at_+k * 8:=aa
   have hsrc:=zh (show wr.drew.rangeAt b (o+(at_+k * 8)) (bcs (nmb (kK l at_ k))) from by
    rw [aDo l at_ k aa]
    have:=aQ (bG hra (k:=at_+k * 8)) (k:=8)
    simpa [bcs,List.map_take,List.map_drop] using this)
   have HPS:=zh (show ∀ j v,(bcs (nmb (kK l at_ k)))[j]?=some v→wr.drew.cell? ((⟨b,o+(at_+k * 8),none⟩:Addr).add j)=some v from fun j v hv=>by rw [Addr.add_mid];exact hsrc.out j v hv)
   clear hT hE hra
   go_wp2_with fail
   have HN:=zh (show (bcs (nmb (kK l at_ k))).length=Nat.min (len - (at_+k * 8)) 8 from by rw [aT,aK];exact (Nat.min_eq_right aa).symm)
   have HFT:=zh (show k * 8+(bcs (nmb (kK l at_ k))).length≤(ncs (nW (kK l at_) n k)).length from by rw [aT,aK,cR,lN _ _ _ hk];omega)
   have HSP:=zh (show splice (ncs (nW (kK l at_) n k)) (k * 8) (bcs (nmb (kK l at_ k)))=ncs (nW (kK l at_) n (k+1)) from by rw [aCG _ _ _ (by rw [lN _ _ _ hk];exact hlt),aCC _ _ _ hlt])
   go_region_law ((refine step_copy_splice rfl (.tmp 19) (.tmp 25) 34 34 rfl 5 underlying34 ab (some ⟨w.heap.size,k * 8,none⟩) (some ⟨b,o+(at_+k * 8),none⟩) 8 8 (len - (at_+k * 8)) (c - (at_+k * 8)) ?q1 ?q2 w.heap.size (k * 8) (ncs (nW (kK l at_) n k)) 50 HT.out (bcs (nmb (kK l at_ k))) HN.out (fun _=>⟨rfl,_,rfl,HPS.out⟩) HFT.out (dU _) w.heap.size w HE.out.drew' (Nat.le_refl _) ?q9;(case q1=>go_simp);(case q2=>go_simp);intro w1 hg1 hE1))
   go_wp2_with fail
   go_roundw
   case rel=>exact ⟨k+1,aa,ar,by rw [← HSP.out];exact hg1.out,hE1⟩
   case measure=>simp [intOf];omega
  obtain rfl:k=n:=aa
  rw [aAt] at hT
  have hsl:SlN wr (some ⟨w.heap.size,0,none⟩) k k (aF l at_ k):=SlN.of_blk hT (aAb l at_ k) aa
  go_wp2_with fail
  go_ret
  exact ⟨_,rfl,hsl,hE⟩
theorem aCW (A:Option Addr) (n c:Nat) (l:List UInt8) (at_ width:Nat) (w:World) (h:SlB w A n c l) (h1:1≤width) (h8:width≤8) (hf:at_+width≤n) (hn:n≤140737488355328) :
  Calls prog 205 #[.slice A n c,.int .i64 (at_:Int),.int .i64 (width:Int)] w fun e w'=>e=.returned (.tuple #[.int .u64 (aZ l at_ width:Int),.bool true])∧w=w':=by
 have hle:=h.le
 have hcap:=h.cap
 have hlen:=h.len
 have e1:decide ((width:Int) < 1)=false:=decide_eq_false aa
 have e2:decide ((8:Int) < (width:Int))=false:=decide_eq_false aa
 have e3:decide ((at_:Int) < 0)=false:=decide_eq_false aa
 have e4:decide ((n:Int) - (width:Int) < (at_:Int))=false:=decide_eq_false aa
 have e5:(0:Int)≤(at_:Int):=aa
 obtain ⟨b,o,rfl,hra,hbl⟩:=h.at aa
 go_enter func205,ntmps205
 go_wp2_with fail
 go_loop [8,9] (fun v i=>∃ k:Nat,k≤width∧i=.int .i64 (k:Int)∧v=.int .u64 ((aZ l at_ k:Nat):Int)) (fun _ i=>width - (intOf i).toNat)
 case atStart=>exact ⟨0,aa,rfl,by simp [aZ,bT]⟩
 case round =>
  obtain ⟨k,hk,rfl,rfl⟩:=hrel
  by_cases hlt:k < width
  ·have hcell := kP hra (at_ + k) aa
   rw [← Nat.add_assoc] at hcell
   have hd:(l.drop at_)[k]' gj=l[at_+k]' aa:=dr
   have HS:=zh (show aZ l at_ (k+1)=aZ l at_ k * 256+(l[at_+k]' aa).toNat by unfold aZ;rw [aBb _ _ gj,gB,hd])
   have hor:=aDi (aZ l at_ k) (l[at_+k]' aa) (aFX _ k (jW _ _ gj) aa)
   clear hd
   generalize aZ l at_ k=a at *
   generalize (l[at_+k]' aa)=x at *
   have hcell':w.cell? ⟨b,o+(at_+k),none⟩=some (.int .u8 (x.toNat:Int)):=by rw [← Nat.add_assoc];exact hcell
   have i1:(at_:Int)+(k:Int) < (n:Int):=aa
   have i2:(0:Int)≤(at_:Int)+(k:Int):=aa
   exact zb
  obtain rfl:k=width:=aa
  go_wp2_with fail
  go_ret2
  exact ⟨rfl,rfl⟩
theorem aGd (A:Option Addr) (len c:Nat) (l:List UInt8) (at_:Nat) (w:World) (h:SlB w A len c l) (hf:at_+144≤len) (hat:at_≤1000) :
  Calls prog 221 #[.slice A len c,.int .i64 (at_:Int),.int .i64 18] w fun e w'=>∃ g,e=.returned (.slice (some ⟨g,0,none⟩) 18 18)∧SlN w' (some ⟨g,0,none⟩) 18 18 (aF l at_ 18)∧Ext w w' :=
 aAF A len c l at_ 18 w h (by omega) (by omega) hat
theorem aIU (A:Option Addr) (len c:Nat) (l:List UInt8) (at_:Nat) (z:Int) (hz:z=(at_:Int)) (w:World) (h:SlB w A len c l) (hf:at_+40≤len) (hat:at_≤1000) :
  Calls prog 221 #[.slice A len c,.int .i64 z,.int .i64 5] w fun e w'=>∃ g,e=.returned (.slice (some ⟨g,0,none⟩) 5 5)∧SlN w' (some ⟨g,0,none⟩) 5 5 (aF l at_ 5)∧Ext w w':=by
 subst hz;exact aAF A len c l at_ 5 w h aa aa hat
theorem stN {w0 w2:World} {g:Nat} (hX:Ext w0 w2) (hq:Blk w2 g 50 zcs.toArray) (hg:w0.heap.size≤g) (r:UInt64):Ext w0 (w2.setCells g 0 (nmc r).toList):=Below.setCells' hX hg _ _
theorem aFY {w0 cur:World} {g:Nat} {r:UInt64} (hX:Ext w0 cur) (hb:Blk cur g 50 (nmc r)):∃ W1 g1,W1=cur∧g1=g∧Ext w0 W1∧Blk W1 g1 50 (nmc r):=⟨_,_,rfl,rfl,hX,hb⟩
theorem aDG (leaf:UInt64) (j:Nat) (A:Option Addr) (c:Nat) (ns:List UInt64) (w:World) (hd:eK j 32=5) (hj:j < 32) (h:SlN w A 5 c ns) :
  Calls prog 222 #[.agg (nmc leaf),.int .i64 (j:Int),.int .i64 32,.slice A 5 c] w fun e w'=>e=.returned (.tuple #[.agg (nmc (bD leaf j 32 ns)),.bool true])∧Ext w w' :=
 aFl leaf 32 j 5 A c ns w (by omega) hj hd.symm h
def eH (l:List UInt8) (at_ j:Nat) (m:UInt64):UInt64:=bD (aO m (aF l at_ 18)) j 32 (aF l (at_+144) 5)
theorem oY (n d:Nat) (hn:1≤n) (hs:spl (2 * n)=n) (ih:∀ j,j < n→eK j n=d):∀ j,j < 2 * n→eK j (2 * n)=d+1:=by
 intro j hj
 by_cases hlt:j < n
 ·rw [gX _ _ aa (by rw [hs];exact hlt),hs,ih j hlt]
 rw [fO _ _ aa (by rw [hs];exact hlt),hs,show 2 * n - n=n from aa,ih (j - n) aa]
theorem sO (j:Nat) (h:j < 32):eK j 32=5 :=
 oY 16 4 (by omega) (by decide) (oY 8 3 (by omega) (by decide) (oY 4 2 (by omega) (by decide) (oY 2 1 (by omega) (by decide) (oY 1 0 (by omega) (by decide) (fun j _=>jO _ _ (by decide)))))) j h
theorem aDZ (A:Option Addr) (len c:Nat) (l:List UInt8) (at_ j:Nat) (m:UInt64) (w:World) (h:SlB w A len c l) (hf:at_+184≤len) (hat:at_≤500) (hj:j < 32) :
  Calls prog 184 #[.slice A len c,.int .i64 (at_:Int),.int .i64 (j:Int),.agg (nmc m)] w fun e w'=>e=.returned (.agg (nmc (eH l at_ j m)))∧Ext w w':=by
 have hle:=h.le
 have hcap:=h.cap
 have hE0:Ext w ((w.alloc (.cells (nmc m) 50)).alloc (.cells zcs.toArray 50)).drew:=(((Ext.refl w).alloc' _).alloc' _).drew'
 have hbm:Blk ((w.alloc (.cells (nmc m) 50)).alloc (.cells zcs.toArray 50)).drew w.heap.size 50 (nmc m):=((Blk.new w _ _).alloc _).drew
 have hbz:Blk ((w.alloc (.cells (nmc m) 50)).alloc (.cells zcs.toArray 50)).drew (w.heap.size+1) 50 zcs.toArray:=(Blk.newAt _ _ _ _ dr).drew
 have HW0:=zh (show w.heap.size+2≤((w.alloc (.cells (nmc m) 50)).alloc (.cells zcs.toArray 50)).heap.size from dr)
 have HSL:=zh h
 have hu:=underlying50
 have hi:=vN m
 clear h
 go_enter func184,ntmps184
 go_wp2_with fail
 generalize (w.alloc (.cells (nmc m) 50)).alloc (.cells zcs.toArray 50)=W0 at *
 have HE0:=zh hE0
 have HBM:=zh hbm
 have HBZ:=zh hbz
 have HSS:=zh (fun (w':World) (hx:Ext W0.drew w')=>dM (hbm.ext hx))
 clear hE0 hbm hbz
 have hX:=Ext.refl W0.drew
 have HAD:=zh (fun (o:Obj)=>(show Ext W0.drew (W0.alloc o).drew from ((Ext.refl W0.drew).alloc' o:Ext W0.drew (W0.drew.alloc o))))
 have HD5:=zh (sO j hj)
 have HAT:=zh (show (at_:Int)+144=((at_+144:Nat):Int) by omega)
 have H40:=zh (show at_+144+40≤len by omega)
 have H1000b:=zh (show at_+144≤1000 by omega)
 have H18:=zh (show at_+144≤len by omega)
 have H1000:=zh (show at_≤1000 by omega)
 have HSZ:=zh (show w.heap.size+2≤W0.heap.size from HW0.out)
 go_region_held3 (fun w'=>(∀ i,i < 8→w'.cell? ⟨w.heap.size,i,none⟩=some (.int .u8 (nb8 m i)))) (first | (with_reducible exact HSS.out _ hX) | (with_reducible exact HSS.out _ (HAD.out _)) | (with_reducible exact HSS.out _ (hX.alloc' _)) | (with_reducible exact HSS.out _ HW9.out)) (first | (go_at_call 221;first | ((with_reducible refine (aGd A len c l at_ _ (HSL.out.ext (HE0.out.trans hX)) H18.out H1000.out).mono ?_);rintro e w1 ⟨g1,rfl,hsl1,he1⟩;have hX:=hX.trans he1) | ((with_reducible refine (aGd A len c l at_ _ (HSL.out.ext (HE0.out.trans (HAD.out _))) H18.out H1000.out).mono ?_);rintro e w1 ⟨g1,rfl,hsl1,he1⟩;have hq:=(Blk.new W0 50 zcs.toArray).drew.ext he1;have hX:=(HAD.out _).trans he1)) | (go_at_call 220;first | ((with_reducible refine zcl (uN m _ _ _ _ hsl1) fun w2 he2=>?_);have hX:=hX.trans he2;first | (have hq2:=hq.ext he2;have hst:=bF hq2 (aO m (aF l at_ 18));have HW9:=zh (stN hX hq2 (Nat.le_refl _) (aO m (aF l at_ 18)))) | (have hst:=cW w2 w2.heap.size rfl (aO m (aF l at_ 18));have HW9:=zh (hX.alloc' (.cells (nmc (aO m (aF l at_ 18))) 50)))) | ((with_reducible refine zcl (uN m _ _ _ _ (hsl1.ext ((Ext.refl _).alloc' _))) fun w2 he2=>?_);have hq2:=(Blk.new w1 50 zcs.toArray).ext he2;have HG2:=zh hX.size;have hX:=(hX.alloc' _).trans he2;have hst:=bF hq2 (aO m (aF l at_ 18));have HW9:=zh (stN hX hq2 HG2.out (aO m (aF l at_ 18))))))
 all_goals
  obtain ⟨W1,g9,hW,hg,hX1,hb1⟩:∃ W1 g1,W1=_∧g1=_∧Ext W0.drew W1∧Blk W1 g1 50 (nmc (aO m (aF l at_ 18))):=by first | exact aFY HW9.out (blkN hq2 (aO m (aF l at_ 18))) | exact aFY HW9.out (Blk.new w2 50 (nmc (aO m (aF l at_ 18))))
  rw [← hW,← hg]
  clear hX HW9 hst
  (try clear hq2)
  (try clear hq)
  clear he2 hsl1 he1
  have HX1:=zh hX1
  have HB1:=zh hb1
  clear hX1 hb1 hW hg
  go_wp2_with fail
  have HSS1:=zh (fun (w':World) (hx:Ext W1.drew w')=>dM (HB1.out.drew.ext hx))
  have hX:=Ext.refl W1.drew
  have HE1:=zh (show Ext w W1.drew from (HE0.out.trans HX1.out).drew')
  have HAD1:=zh (fun (o:Obj)=>(show Ext W1.drew (W1.alloc o).drew from ((Ext.refl W1.drew).alloc' o:Ext W1.drew (W1.drew.alloc o))))
  have a1:IntKind.i64.wrap ((at_:Int)+144)=(at_:Int)+144:=IntWalk.i64_in _ aa
  go_region_held3 (fun w'=>(∀ i,i < 8→w'.cell? ⟨g9,i,none⟩=some (.int .u8 (nb8 (aO m (aF l at_ 18)) i)))) (first | (with_reducible exact HSS1.out _ hX) | (with_reducible exact HSS1.out _ (HAD1.out _)) | (with_reducible exact HSS1.out _ (hX.alloc' _)) | (with_reducible exact HSS1.out _ HW9.out)) (first | (go_at_call 221;first | ((with_reducible refine (aIU A len c l (at_+144) _ HAT.out _ (HSL.out.ext (HE1.out.trans hX)) H40.out H1000b.out).mono ?_);rintro e w1 ⟨g1,rfl,hsl1,he1⟩;have hX:=hX.trans he1) | ((with_reducible refine (aIU A len c l (at_+144) _ HAT.out _ (HSL.out.ext (HE1.out.trans (HAD1.out _))) H40.out H1000b.out).mono ?_);rintro e w1 ⟨g1,rfl,hsl1,he1⟩;have hq:=(Blk.new W1 50 zcs.toArray).drew.ext he1;have hX:=(HAD1.out _).trans he1)) | (go_at_call 222;first | ((with_reducible refine zcl (aDG (aO m (aF l at_ 18)) j _ _ _ _ HD5.out hj hsl1) fun w2 he2=>?_);have hX:=hX.trans he2;first | (have hq2:=hq.ext he2;have hst:=bF hq2 (bD (aO m (aF l at_ 18)) j 32 (aF l (at_+144) 5));have HW9:=zh (stN hX hq2 (Nat.le_refl _) (bD (aO m (aF l at_ 18)) j 32 (aF l (at_+144) 5)))) | (have hst:=cW w2 w2.heap.size rfl (bD (aO m (aF l at_ 18)) j 32 (aF l (at_+144) 5));have HW9:=zh (hX.alloc' (.cells (nmc (bD (aO m (aF l at_ 18)) j 32 (aF l (at_+144) 5))) 50)))) | ((with_reducible refine zcl (aDG (aO m (aF l at_ 18)) j _ _ _ _ HD5.out hj (hsl1.ext ((Ext.refl _).alloc' _))) fun w2 he2=>?_);have hq2:=(Blk.new w1 50 zcs.toArray).ext he2;have HG2:=zh hX.size;have hX:=(hX.alloc' _).trans he2;have hst:=bF hq2 (bD (aO m (aF l at_ 18)) j 32 (aF l (at_+144) 5));have HW9:=zh (stN hX hq2 HG2.out (bD (aO m (aF l at_ 18)) j 32 (aF l (at_+144) 5))))))
 all_goals
  obtain ⟨W2,g8,hW,hg,hX2,hb2⟩:∃ W2 g1,W2=_∧g1=_∧Ext W1.drew W2∧Blk W2 g1 50 (nmc (bD (aO m (aF l at_ 18)) j 32 (aF l (at_+144) 5))):=by first | exact aFY HW9.out (blkN hq2 (bD (aO m (aF l at_ 18)) j 32 (aF l (at_+144) 5))) | exact aFY HW9.out (Blk.new w2 50 (nmc (bD (aO m (aF l at_ 18)) j 32 (aF l (at_+144) 5))))
  rw [← hW,← hg]
  clear hX HW9 hst
  (try clear hq2)
  (try clear hq)
  clear he2 hsl1 he1
  have hz2:=(HBZ.out.ext HX1.out).drew.ext hX2
  have HE2:=zh (HE1.out.trans hX2)
  have hr8:=dL hb2
  clear hW hg
  go_wp2_with (first | (with_reducible refine aM rfl (.tmp 11) rfl g8 0 rfl (bD (aO m (aF l at_ 18)) j 32 (aF l (at_+144) 5)) hr8 ?_) | (with_reducible refine bE rfl _ _ rfl (w.heap.size+1) 0 _ rfl rfl (eC hz2) ?_))
  refine bodyPost_ret (v:=.agg (nmc (bD (aO m (aF l at_ 18)) j 32 (aF l (at_+144) 5)))) (eQ rfl _ _ (w.heap.size+1) _ rfl (blkN hz2 _)) rfl ⟨rfl,Below.setCells' HE2.out aa _ _⟩
end
end Go.Proofs.YtgmnmjeccfnmbaaGreat
