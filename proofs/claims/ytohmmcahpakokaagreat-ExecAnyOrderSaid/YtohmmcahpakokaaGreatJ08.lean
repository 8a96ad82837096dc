/- codec.Uint and its reference, over every offset and width. -/
import Derived.Test.YtohmmcahpakokaaGreatJ06
set_option maxRecDepth 100000
set_option maxHeartbeats 8000000
set_option linter.unusedVariables false
set_option linter.unusedSimpArgs false
namespace Go.Proofs.YtohmmcahpakokaaGreat
section
open Go.RowKit
attribute [local go_sem ↓] Go.wp_at_zero Go.wp_at_succ
def flw (len at_ n:Int):Bool:=decide (0≤at_∧at_≤len∧n≤len - at_)
theorem nX (A:Option Addr) (len c:Nat) (at_ n:Int) (w:World) (hl:len≤9223372036854775807) :
  Calls Tryz.prog 240 #[.slice A len c,.int .i64 at_,.int .i64 n] w fun e w'=>e=.returned (.bool (flw len at_ n))∧w=w':=by
 by_cases h1:0≤at_
 ·by_cases h2 : at_ ≤ (len : Int)
  ·by_cases h3 : n ≤ (len : Int) - at_
   ·have hf : flw len at_ n = true := by unfold flw; simp only [decide_eq_true_eq]; exact ⟨h1, h2, h3⟩
    rw [hf];clear hf
    go_enter Tryz.func240,Tryz.ntmps240
    go_wp2_with fail
    go_ret
    exact ⟨rfl,rfl⟩
   have hf:flw len at_ n=false:=by unfold flw;simp only [decide_eq_false_iff_not];omega
   have h3':decide (n≤(len:Int) - at_)=false:=decide_eq_false h3
   rw [hf];clear hf
   go_enter Tryz.func240,Tryz.ntmps240
   go_wp2_with fail
   go_ret
   exact ⟨rfl,rfl⟩
  have hf:flw len at_ n=false:=by unfold flw;simp only [decide_eq_false_iff_not];omega
  have h2':decide (at_≤(len:Int))=false:=decide_eq_false h2
  rw [hf];clear hf
  go_enter Tryz.func240,Tryz.ntmps240
  go_wp2_with fail
  go_ret
  exact ⟨rfl,rfl⟩
 have hf:flw len at_ n=false:=by unfold flw;simp only [decide_eq_false_iff_not];omega
 have h1':decide (0≤at_)=false:=decide_eq_false h1
 rw [hf];clear hf
 go_enter Tryz.func240,Tryz.ntmps240
 go_wp2_with fail
 go_ret
 exact ⟨rfl,rfl⟩
theorem aGK (a:Nat) (c:UInt8) (ha:a < 72057594037927936):bits .or .u64 (IntKind.u64.wrap ((a:Int) * 256)) (c.toNat:Int)=((a * 256+c.toNat:Nat):Int):=sW a c ha
theorem aHW (a k:Nat) (h:a < 256 ^ k) (hk:k < 8):a < 72057594037927936:=Nat.lt_of_lt_of_le h (Nat.pow_le_pow_right (n:=256) (j:=7) (by omega) (by omega))
def bX (l:List UInt8) (at_ width:Nat):Nat:=bH ((l.drop at_).take width)
theorem aGp (A:Option Addr) (n c:Nat) (l:List UInt8) (at_ width:Nat) (w:World) (h:SlB w A n c l) (h1:1≤width) (h8:width≤8) (hf:at_+width≤n) :
  Calls Tryz.prog 203 #[.slice A n c,.int .i64 (at_:Int),.int .i64 (width:Int)] w fun e w'=>e=.returned (.tuple #[.int .u64 (bX l at_ width:Int),.bool true])∧w=w':=by
 have hle:=h.le
 have hcap:=h.cap
 have hlen:=h.len
 have e1:decide ((width:Int) < 1)=false:=decide_eq_false (by omega)
 have e2:decide ((8:Int) < (width:Int))=false:=decide_eq_false (by omega)
 have hfl:flw n at_ width=true:=by unfold flw;simp only [decide_eq_true_eq];omega
 have b1:¬ c=at_:=by omega
 obtain ⟨b,o,rfl,hra,hbl⟩:=h.at (by omega)
 go_enter Tryz.func203,Tryz.ntmps203
 go_wp2_with (go_at_call 240;refine (nX _ _ _ _ _ _ (by omega)).mono ?_;rintro e w1 ⟨rfl,rfl⟩;rw [hfl])
 go_loop [8,31] (fun v i=>∃ k:Nat,k≤width∧i=.int .i64 (k:Int)∧v=.int .u64 ((bX l at_ k:Nat):Int)) (fun _ i=>width - (intOf i).toNat)
 case atStart=>exact ⟨0,by omega,rfl,by simp [bX,bH]⟩
 case round =>
  obtain ⟨k,hk,rfl,rfl⟩:=hrel
  by_cases hlt:k < width
  ·have hcell := aAI hra (at_ + k) (by omega)
   rw [← Nat.add_assoc] at hcell
   have hd:(l.drop at_)[k]'(by simp;omega)=l[at_+k]'(by omega):=by simp
   have HS:=zh (show bX l at_ (k+1)=bX l at_ k * 256+(l[at_+k]'(by omega)).toNat by unfold bX;rw [aDX _ _ (by simp;omega),fV,hd])
   have hor:=aGK (bX l at_ k) (l[at_+k]'(by omega)) (aHW _ k (kN _ _ (by simp;omega)) (by omega))
   clear hd
   generalize bX l at_ k=a at *
   generalize (l[at_+k]'(by omega))=x at *
   go_wp2_with fail
   go_round
   case rel=>exact ⟨k+1,by omega,by go_num,by rw [HS.out];go_num⟩
   case measure=>simp [intOf];omega
  obtain rfl:k=width:=by omega
  go_wp2_with fail
  go_ret2
  exact ⟨rfl,rfl⟩
theorem aHO (A:Option Addr) (n c:Nat) (at_ width:Int) (w:World) (hn:n≤9223372036854775807) (h1:1≤width) (h8:width≤8) (hf:flw n at_ width=false) :
  Calls Tryz.prog 203 #[.slice A n c,.int .i64 at_,.int .i64 width] w fun e w'=>e=.returned (.tuple #[.int .u64 0,.bool false])∧w=w':=by
 have e1:decide (width < 1)=false:=decide_eq_false (by omega)
 have e2:decide (8 < width)=false:=decide_eq_false (by omega)
 go_enter Tryz.func203,Tryz.ntmps203
 go_wp2_with (go_at_call 240;refine (nX _ _ _ _ _ _ (by omega)).mono ?_;rintro e w1 ⟨rfl,rfl⟩;rw [hf])
 go_ret2
 exact ⟨rfl,rfl⟩
theorem qA (A:Option Addr) (n c:Nat) (l:List UInt8) (w:World) (h:SlB w A n c l) (h2:2≤n) :
  Calls Tryz.prog 146 #[.slice A n c] w fun e w'=>e=.returned (.tuple #[.int .i64 (bX l 0 2:Int),.bool true])∧w=w':=by
 have hb:bX l 0 2 < 65536:=kN _ 2 (by simp;have:=h.len;omega)
 have hw:IntKind.i64.wrap ((bX l 0 2:Nat):Int)=((bX l 0 2:Nat):Int):=by rw [IntKind.wrap_i64];omega
 have hu:=zh (aGp A n c l 0 2 w h (by omega) (by omega) (by omega))
 generalize bX l 0 2=x at *
 go_enter Tryz.func146,Tryz.ntmps146
 go_wp2_with fail
 refine hu.out.mono ?_
 rintro e w1 ⟨rfl,rfl⟩
 go_wp2_with fail
 go_ret2
 exact ⟨rfl,rfl⟩
theorem aIn (A:Option Addr) (n c:Nat) (w:World) (h2:n < 2) :
  Calls Tryz.prog 146 #[.slice A n c] w fun e w'=>e=.returned (.tuple #[.int .i64 0,.bool false])∧w=w':=by
 have hu:=zh (aHO A n c 0 2 w (by omega) (by omega) (by omega) (by unfold flw;simp only [decide_eq_false_iff_not];omega))
 go_enter Tryz.func146,Tryz.ntmps146
 go_wp2_with fail
 refine hu.out.mono ?_
 rintro e w1 ⟨rfl,rfl⟩
 go_wp2_with fail
 go_ret2
 exact ⟨rfl,rfl⟩
theorem kA (A:Option Addr) (n c:Nat) (l:List UInt8) (v:UInt64) (wd:Nat) (hwd1:1≤wd) (hwd:wd≤8) (w:World) (h:SlB w A n c l) (hn:n≤140737488351232) :
  Calls Tryz.prog 143 #[.slice A n c,.int .u64 (un v),.int .i64 (wd:Int)] w fun e w'=>∃ A' c',e=.returned (.slice A' (n+wd) c')∧OwnB w' w.heap.size 5 A' (n+wd) c' (l ++ cH wd v.toNat)∧Ext w w':=by
 have k0:(0:Int) < (wd:Int):=by omega
 have k1:(wd:Int)≤8:=by omega
 have hv0:=fD v
 have HV1:=zh (aJn v)
 have HS:=zh (h.ext ((Ext.refl w).alloc' (.cells #[] 5)))
 clear h
 go_enter Tryz.func143,Tryz.ntmps143
 go_wp2_with (at_builtin;go_must (refine bZ bI rfl (.tmp 9) (.tmp 10) rfl w.heap.size _ 0 _ [] rfl (OwnB.made w w.heap.size #[] 0 _ rfl (Nat.le_refl _) (by omega) rfl) A n c l rfl HS.out (by omega) ((Ext.refl w).alloc' _).size w ((Ext.refl w).alloc' _) ?_))
 intro A1 c1 w1 hO1 hE1 hs1
 have HO1:=zh (show OwnB w1 w.heap.size 5 A1 n c1 l from by simpa using hO1)
 have HE1:=zh hE1
 clear hO1 hE1
 go_wp2_with fail
 go_loopw [7,8] (fun x i wr=>∃ (j:Nat) (A2:Option Addr) (c2:Nat),j≤wd∧i=.int .i64 ((j:Int) - 1)∧x=.slice A2 (n+(wd - j)) c2∧OwnB wr w.heap.size 5 A2 (n+(wd - j)) c2 (l ++ (cH wd v.toNat).take (wd - j))∧Ext w wr) (fun _ i _=>(intOf i+1).toNat)
 case atStart=>exact ⟨wd,A1,c1,Nat.le_refl _,rfl,by simp,by simpa using HO1.out,HE1.out⟩
 case round =>
  obtain ⟨j,A2,c2,hj,rfl,rfl,hO,hE⟩:=hrel
  have HO:=zh hO
  have HE:=zh hE
  clear hO hE
  by_cases hlt:0 < j
  ·obtain ⟨i, rfl⟩ : ∃ i, j = i + 1 := ⟨j - 1, by omega⟩
   obtain ⟨kk,hkk⟩:∃ kk,kk=i:=⟨_,rfl⟩
   have HB:=zh (qM wd v.toNat kk (by omega))
   have HKK:=zh hkk
   clear hkk
   obtain ⟨q,hq⟩:∃ q,q=wd - (i+1):=⟨_,rfl⟩
   rw [← hq] at HO ⊢
   have HQ:=zh (show q=wd - (kk+1) from by rw [HKK.out];exact hq)
   have hq8:q≤8:=by omega
   clear hq
   rw [show ((i+1:Nat):Int) - 1=(i:Int) from by omega]
   have hi7:i=0 ∨ i=1 ∨ i=2 ∨ i=3 ∨ i=4 ∨ i=5 ∨ i=6 ∨ i=7:=by omega
   rcases hi7 with rfl | rfl | rfl | rfl | rfl | rfl | rfl | rfl
   all_goals (
    go_wp2_with (at_builtin;go_must (refine bZ bI rfl (.tmp 20) (.tmp 27) rfl w.heap.size A2 _ c2 _ rfl (HO.out.alloc _) _ 1 1 [toB _] rfl (SlB.new1 _ _ _ _ _ rfl (bT _)) (by omega) (HE.out.alloc' _).size w (HE.out.alloc' _) ?_))
    intro A4 c4 w4 hO4 hE4 hs4
    have HO4:=zh (aHC hO4 kk HQ.out HB.out (by have:=HKK.out;omega) (by rw [HKK.out];simp [un]))
    clear hO4
    go_wp2_with fail
    go_roundw
    case rel=>exact ⟨kk,A4,c4,by have:=HKK.out;omega,by rw [HKK.out];go_num,by have:=HKK.out;have:=HQ.out;congr 1;omega,HO4.out,hE4⟩
    case measure=>simp [intOf])
  obtain rfl:j=0:=by omega
  have i1:((0:Nat):Int) - 1 < 0:=by omega
  go_wp2_with fail
  go_ret
  exact ⟨A2,c2,by simp,by have:=HO.out;rwa [Nat.sub_zero,List.take_of_length_le (by rw [cQ];omega)] at this,HE.out⟩
def beI (wd:Nat) (z:Int):List UInt8:=cH wd (z % 18446744073709551616).toNat
theorem iF (wd:Nat) (z:Int):(beI wd z).length=wd:=cQ _ _
def uI (z:Int):UInt64:=UInt64.ofNat (z % 18446744073709551616).toNat
theorem pD (z:Int):IntKind.u64.wrap z=un (uI z):=by
 rw [IntKind.wrap_u64];unfold un uI;rw [UInt64.toNat_ofNat_of_lt' (by simp [UInt64.size];omega)];omega
theorem aCN (z:Int):(uI z).toNat=(z % 18446744073709551616).toNat:=by
 unfold uI;rw [UInt64.toNat_ofNat_of_lt' (by simp [UInt64.size];omega)]
theorem oI (A:Option Addr) (n c:Nat) (l:List UInt8) (z:Int) (wd:Nat) (hwd1:1≤wd) (hwd:wd≤8) (w:World) (h:SlB w A n c l) (hn:n≤140737488351232) :
  Calls Tryz.prog 86 #[.slice A n c,.int .i64 z,.int .i64 (wd:Int)] w fun e w'=>∃ A' c',e=.returned (.slice A' (n+wd) c')∧OwnB w' w.heap.size 5 A' (n+wd) c' (l ++ beI wd z)∧Ext w w':=by
 have hu:=pD z
 have HA:=zh (kA A n c l (uI z) wd hwd1 hwd w h hn)
 rw [aCN] at HA
 generalize uI z=u at *
 clear h
 go_enter Tryz.func86,Tryz.ntmps86
 go_wp2_with fail
 refine HA.out.mono ?_
 rintro e w1 ⟨A1,c1,rfl,hO,hE⟩
 go_wp2_with fail
 go_ret
 exact ⟨A1,c1,rfl,hO,hE⟩
theorem nE (A:Option Addr) (n c:Nat) (l:List UInt8) (v:UInt64) (w:World) (h:SlB w A n c l) (hn:n≤140737488351232) :
  Calls Tryz.prog 87 #[.slice A n c,.agg (nmc v)] w fun e w'=>∃ A' c',e=.returned (.slice A' (n+8) c')∧OwnB w' w.heap.size 5 A' (n+8) c' (l ++ nmb v)∧Ext w w':=by
 have hE0:=(Ext.refl w).alloc' (.cells (nmc v) 30)
 have HS:=zh (fun (W:World) (hW:Ext w W)=>h.ext hW)
 have HB:=zh (Blk.new w 30 (nmc v))
 have HE0:=zh hE0
 clear h hE0
 go_enter Tryz.func87,Tryz.ntmps87
 go_wp2_with fail
 go_region_law (first | (refine tI bI rfl (.tmp 5) (.tmp 6) rfl (w.heap.size+1) (some ⟨w.heap.size+1,0,none⟩) 0 0 [] (by rfl) (OwnB.drew (OwnB.made (w.alloc (.cells (nmc v) 30)) (w.heap.size+1) #[] 0 (w.heap.size+1) (by simp) (Nat.le_refl _) (by omega) rfl)) A n c l (by rfl) (HS.out _ ((HE0.out.alloc' _).drew')) (by omega) (by simp) ?_;intro A5 c5 w5 hO5 hg5;have hE5:=sI (w0:=w.alloc (.cells (nmc v) 30)) (OwnB.drew (OwnB.made (w.alloc (.cells (nmc v) 30)) (w.heap.size+1) #[] 0 (w.heap.size+1) (by simp) (Nat.le_refl _) (by omega) rfl)) (((Below.refl _ _).alloc (by simp) _).drew) (by simp) hg5;have HO5:=zh (show OwnB w5 (w.heap.size+1) 5 A5 n c5 l from by simpa using hO5);have HE5:=zh hE5;have HS5:=zh (SlB.blkN (HB.out.below hE5 (by omega)));clear hO5 hE5 hg5) | (refine tI bI rfl (.tmp 7) (.tmp 8) rfl (w.heap.size+1) A5 n c5 l (by rfl) HO5.out (some ⟨w.heap.size,0,none⟩) 8 8 (nmb v) (by rfl) HS5.out (by omega) (by have:=HE5.out.size;simpa using this) ?_;intro A6 c6 w6 hO6 hg6;have hE6:=sI HO5.out HE5.out (by have:=HE5.out.size;simpa using this) hg6;have HO6:=zh hO6;have HE6:=zh hE6;clear hO6 hg6 hE6))
 all_goals (
  go_wp2_with fail
  go_ret
  refine ⟨A6,c6,rfl,bB HO6.out (by omega),HE0.out.trans (HE6.out.mono (by simp))⟩)
theorem gA {α:Type} (a:α) (l m:List α):List.append (a :: l) m=a :: List.append l m:=rfl
theorem iR {α:Type} (m:List α):List.append [] m=m:=rfl
structure OpR where
 k:Int
 tO:Int
 am:Int
 ul:Int
 va:Int
 lk:UInt64
 hs:UInt64
 A1:Option Addr
 n1:Nat
 c1:Nat
 pre:List UInt8
 A2:Option Addr
 n2:Nat
 c2:Nat
 prf:List UInt8
abbrev opA (R:OpR):Array Value:=#[.int .i64 R.k,.int .i64 R.tO,.int .i64 R.am,.int .i64 R.ul,.int .i64 R.va,.int .u8 (nb8 R.lk 0),.int .u8 (nb8 R.lk 1),.int .u8 (nb8 R.lk 2),.int .u8 (nb8 R.lk 3),.int .u8 (nb8 R.lk 4),.int .u8 (nb8 R.lk 5),.int .u8 (nb8 R.lk 6),.int .u8 (nb8 R.lk 7),.int .u8 (nb8 R.hs 0),.int .u8 (nb8 R.hs 1),.int .u8 (nb8 R.hs 2),.int .u8 (nb8 R.hs 3),.int .u8 (nb8 R.hs 4),.int .u8 (nb8 R.hs 5),.int .u8 (nb8 R.hs 6),.int .u8 (nb8 R.hs 7),.slice R.A1 R.n1 R.c1,.slice R.A2 R.n2 R.c2]
structure OpR.ok (R:OpR) (w:World):Prop where
 pre:SlB w R.A1 R.n1 R.c1 R.pre
 prf:SlB w R.A2 R.n2 R.c2 R.prf
theorem OpR.ok.ext {R:OpR} {w w':World} (h:R.ok w) (e:Ext w w'):R.ok w':=⟨h.pre.ext e,h.prf.ext e⟩
def opL (R:OpR):List Value:=(opA R).toList
theorem eX (R:OpR):(opL R).length=23:=rfl
theorem aAc (R:OpR):(opL R).toArray=opA R:=rfl
theorem aEj (R:OpR):∀ u ∈ opL R,u.oneCell'=true:=by
 intro u hu
 simp only [opL,List.mem_cons,List.not_mem_nil,or_false] at hu
 rcases hu with rfl | rfl | rfl | rfl | rfl | rfl | rfl | rfl | rfl | rfl | rfl | rfl | rfl | rfl | rfl | rfl | rfl | rfl | rfl | rfl | rfl | rfl | rfl <;> rfl
theorem aIa (R:OpR):(opA R).all (·.oneCell')=true:=all_oneCell_toArray (aEj R)
def ocs (L:List OpR):List Value:=L.flatMap opL
theorem aEk:ocs []=[]:=rfl
theorem mQ (x:OpR) (r:List OpR):ocs (x :: r)=opL x ++ ocs r:=by simp [ocs]
theorem aDj (a b:List OpR):ocs (a ++ b)=ocs a ++ ocs b:=by simp [ocs]
theorem uL (L:List OpR):(ocs L).length=L.length * 23:=by
 induction L with
 | nil=>rfl
 | cons x r ih=>rw [mQ,List.length_append,eX,ih,List.length_cons];omega
theorem aGX (L:List OpR) (k:Nat):(ocs L).drop (k * 23)=ocs (L.drop k):=by
 induction k generalizing L with
 | zero=>simp
 | succ k ih =>
  cases L with
  | nil=>simp [ocs]
  | cons n r =>
   rw [mQ,List.drop_succ_cons,← ih r,show (k+1) * 23=(opL n).length+k * 23 from by rw [eX];omega,List.drop_append,List.drop_of_length_le (by omega)]
   simp
def aLg:OpR:=⟨0,0,0,0,0,0,0,none,0,0,[],none,0,0,[]⟩
def aY (L:List OpR) (k:Nat):OpR:=L.getD k aLg
theorem aJZ {L:List OpR} {k:Nat} (h:k < L.length):((ocs L).drop (k * 23)).take 23=opL (aY L k):=by
 have e:L[k]=aY L k:=by simp [aY,h]
 rw [aGX,List.drop_eq_getElem_cons h,mQ,List.take_append_of_le_length (by rw [eX];omega),List.take_of_length_le (by rw [eX];omega),e]
theorem mZ {L:List OpR} {k:Nat} (h:k < L.length):L.take (k+1)=L.take k ++ [aY L k]:=by
 rw [List.take_succ_eq_append_getElem h]
 have e:L[k]=aY L k:=by simp [aY,h]
 rw [e]
theorem pS {L:List OpR} {k:Nat} (h:k < L.length):aY L k ∈ L:=by
 have e:L[k]=aY L k:=by simp [aY,h]
 rw [← e];exact List.getElem_mem _
structure SlO (w:World) (A:Option Addr) (n c:Nat) (L:List OpR):Prop where
 len:L.length=n
 le:n≤c
 cap:c≤9223372036854775807
 rd:Rd w A (ocs L)
 ok:∀ R,R ∈ L→R.ok w
section
variable {w w':World} {A:Option Addr} {n c:Nat} {L:List OpR}
theorem SlO.ext (h:SlO w A n c L) (e:Ext w w'):SlO w' A n c L:=⟨h.len,h.le,h.cap,h.rd.ext e,fun R hR=>(h.ok R hR).ext e⟩
theorem SlO.at (h:SlO w A n c L) (hn:0 < n):∃ b o,A=some ⟨b,o,none⟩∧w.rangeAt b o (ocs L)∧b < w.heap.size :=
 h.rd.at (by intro e;have:=congrArg List.length e;rw [uL,h.len] at this;simp at this;omega)
theorem SlO.nil (w:World):SlO w none 0 0 []:=⟨rfl,Nat.le_refl _,Nat.zero_le _,.nil,fun R hR=>by cases hR⟩
theorem SlO.nth (h:SlO w A n c L) {k:Nat} (hk:k < n):(aY L k).ok w:=h.ok _ (pS (by rw [h.len];exact hk))
theorem kW {b o k:Nat} (h:w.rangeAt b o (ocs L)) (hk:k < L.length):w.rangeAt b (o+k * 23) (opL (aY L k)):=by
 have h1:=aU (k:=23) (bR (k:=k * 23) h)
 rwa [aJZ hk] at h1
end
section
variable {o:Oper} {a:Act} {w:World} {ops:Array Oper} {rest:List Oper} {Q:Exit→Act→World→Prop}
theorem fC (hgd:o.guard=none) (x:Operand) (ho:o.op=.load 69 x) (b of:Nat) (hx:a.eval x=.pointer (some ⟨b,of,none⟩)) (R:OpR) (hc:w.rangeAt b of (opL R))
  (h:wpList Tryz.prog ops Q rest (a.put o.dst (.agg (opA R))) w):wpList Tryz.prog ops Q (o :: rest) a w:=by
 have:=wpList_load_mid (P:=Tryz.prog) (Q:=Q) (ops:=ops) (rest:=rest) hgd 69 x ho b of hx (opL R) _ hc Tryz.underlying69 rfl (by rw [eX];kernel_rfl)
 rw [aAc] at this
 exact this h
end
section
variable {o:Oper} {a:Act} {w:World} {ops:Array Oper} {rest:List Oper} {Q:Exit→Act→World→Prop}
theorem rM (hgd:o.guard=none) (x y:Operand) (ho:o.op=.store 69 x y) (cs:Array Value) (hcs:cs.size=23) (R:OpR) (hx:a.eval x=.pointer (some ⟨w.heap.size,0,none⟩)) (hy:a.eval y=.agg (opA R))
  (h:wpList Tryz.prog ops Q rest (a.put o.dst undef) (w.alloc (.cells (opA R) 69))):wpList Tryz.prog ops Q (o :: rest) a (w.alloc (.cells cs 69)):=by
 have ht:=aT (Blk.new w 69 cs)
 rw [hcs] at ht
 refine wpList_store_mid hgd 69 x y ho w.heap.size 0 (opA R) hx hy ht (by kernel_rfl) (aIa R) ?_
 rw [eU w 69 cs (opA R) (by rw [hcs];rfl)]
 exact h
theorem aHd (w:World) (R:OpR):(w.alloc (.cells (opA R) 69)).rangeAt w.heap.size 0 (opL R):=aD (Blk.new w 69 (opA R))
end
abbrev txA (ac sq:Int) (A:Option Addr) (n c:Nat):Array Value:=#[.int .i64 ac,.int .i64 sq,.slice A n c]
abbrev stA (ac sq:Int) (A:Option Addr) (n c:Nat) (S:Option Addr) (m d:Nat):Array Value:=#[.int .i64 ac,.int .i64 sq,.slice A n c,.slice S m d]
def jI (k:Int):Int:=if k=1 then 5 else if k=2 then 29 else if k=3 then 101 else if k=4 then 37 else if k=5 then 6 else if k=6 then 130 else 0
def aQ (used:Bool) (n lo hi:Int):Bool:=if used then decide (lo≤n∧n≤hi) else decide (n=0)
def fTo (k:Int):Bool:=decide (1≤k∧k≤4)
def fAm (k:Int):Bool:=decide (1≤k∧k≤5)
def fUl (k:Int):Bool:=decide (k=2)
def fVa (k:Int):Bool:=decide (5≤k∧k≤6)
def aAp (k:Int):Bool:=decide (k=3)
def aAo (k:Int):Bool:=decide (k=6)
def fLk (k:Int):Bool:=decide (3≤k∧k≤4)
def vOp (R:OpR):Bool :=
 decide (1≤R.k∧R.k≤6) && (aQ (fTo R.k) R.tO 0 15 && (aQ (fAm R.k) R.am 1 1099511627776 && (aQ (fUl R.k) R.ul 1 1000 && (aQ (fVa R.k) R.va 0 9 && (aQ (aAp R.k) (R.n1:Int) 0 32 && (aQ (aAo R.k) (R.n2:Int) 1 2000 && ((fUl R.k || decide (R.hs=0)) && (fLk R.k || decide (R.lk=0)))))))))
theorem aAX {k:Int} (h:¬ (1≤k∧k≤6)):jI k=0:=by
 unfold jI
 rw [if_neg (by omega),if_neg (by omega),if_neg (by omega),if_neg (by omega),if_neg (by omega),if_neg (by omega)]
@[go_sem] theorem aLA:bits .and .i64 5 1=1:=by decide
@[go_sem] theorem aLz:bits .and .i64 5 2=0:=by decide
@[go_sem] theorem aLy:bits .and .i64 5 4=4:=by decide
@[go_sem] theorem aLx:bits .and .i64 5 8=0:=by decide
@[go_sem] theorem aKR:bits .and .i64 5 16=0:=by decide
@[go_sem] theorem aKQ:bits .and .i64 5 32=0:=by decide
@[go_sem] theorem aKP:bits .and .i64 5 64=0:=by decide
@[go_sem] theorem aKp:bits .and .i64 5 128=0:=by decide
@[go_sem] theorem aKZ:bits .and .i64 29 1=1:=by decide
@[go_sem] theorem aKY:bits .and .i64 29 2=0:=by decide
@[go_sem] theorem aKX:bits .and .i64 29 4=4:=by decide
@[go_sem] theorem aKW:bits .and .i64 29 8=8:=by decide
@[go_sem] theorem aKv:bits .and .i64 29 16=16:=by decide
@[go_sem] theorem aKu:bits .and .i64 29 32=0:=by decide
@[go_sem] theorem aKt:bits .and .i64 29 64=0:=by decide
@[go_sem] theorem aJy:bits .and .i64 29 128=0:=by decide
@[go_sem] theorem aKD:bits .and .i64 101 1=1:=by decide
@[go_sem] theorem aKC:bits .and .i64 101 2=0:=by decide
@[go_sem] theorem aKB:bits .and .i64 101 4=4:=by decide
@[go_sem] theorem aKA:bits .and .i64 101 8=0:=by decide
@[go_sem] theorem aJE:bits .and .i64 101 16=0:=by decide
@[go_sem] theorem aJD:bits .and .i64 101 32=32:=by decide
@[go_sem] theorem aJC:bits .and .i64 101 64=64:=by decide
@[go_sem] theorem aJd:bits .and .i64 101 128=0:=by decide
@[go_sem] theorem aKV:bits .and .i64 37 1=1:=by decide
@[go_sem] theorem aKU:bits .and .i64 37 2=0:=by decide
@[go_sem] theorem aKT:bits .and .i64 37 4=4:=by decide
@[go_sem] theorem aKS:bits .and .i64 37 8=0:=by decide
@[go_sem] theorem aKs:bits .and .i64 37 16=0:=by decide
@[go_sem] theorem aKr:bits .and .i64 37 32=32:=by decide
@[go_sem] theorem aKq:bits .and .i64 37 64=0:=by decide
@[go_sem] theorem aJx:bits .and .i64 37 128=0:=by decide
@[go_sem] theorem aLw:bits .and .i64 6 1=0:=by decide
@[go_sem] theorem aLv:bits .and .i64 6 2=2:=by decide
@[go_sem] theorem aLu:bits .and .i64 6 4=4:=by decide
@[go_sem] theorem aLt:bits .and .i64 6 8=0:=by decide
@[go_sem] theorem aKO:bits .and .i64 6 16=0:=by decide
@[go_sem] theorem aKN:bits .and .i64 6 32=0:=by decide
@[go_sem] theorem aKM:bits .and .i64 6 64=0:=by decide
@[go_sem] theorem aKo:bits .and .i64 6 128=0:=by decide
@[go_sem] theorem aKz:bits .and .i64 130 1=0:=by decide
@[go_sem] theorem aKy:bits .and .i64 130 2=2:=by decide
@[go_sem] theorem aKx:bits .and .i64 130 4=0:=by decide
@[go_sem] theorem aKw:bits .and .i64 130 8=0:=by decide
@[go_sem] theorem aJB:bits .and .i64 130 16=0:=by decide
@[go_sem] theorem aJA:bits .and .i64 130 32=0:=by decide
@[go_sem] theorem aJz:bits .and .i64 130 64=0:=by decide
@[go_sem] theorem aJc:bits .and .i64 130 128=128:=by decide
theorem iC (k:Int):k=1 ∨ k=2 ∨ k=3 ∨ k=4 ∨ k=5 ∨ k=6 ∨ ¬ (1≤k∧k≤6):=by omega
theorem dX (k:Int) (w:World):Calls Tryz.prog 141 #[.int .i64 k] w fun e w'=>e=.returned (.int .i64 (jI k))∧w=w':=by
 rcases iC k with rfl | rfl | rfl | rfl | rfl | rfl | h
 case inr.inr.inr.inr.inr.inr =>
  rw [aAX h]
  have d1:decide (k=1)=false:=decide_eq_false (by omega)
  have d2:decide (k=2)=false:=decide_eq_false (by omega)
  have d3:decide (k=3)=false:=decide_eq_false (by omega)
  have d4:decide (k=4)=false:=decide_eq_false (by omega)
  have d5:decide (k=5)=false:=decide_eq_false (by omega)
  have d6:decide (k=6)=false:=decide_eq_false (by omega)
  have e1:(k == 1)=false:=by simp;omega
  have e2:(k == 2)=false:=by simp;omega
  have e3:(k == 3)=false:=by simp;omega
  have e4:(k == 4)=false:=by simp;omega
  have e5:(k == 5)=false:=by simp;omega
  have e6:(k == 6)=false:=by simp;omega
  clear h
  go_enter Tryz.func141,Tryz.ntmps141
  go_wp2_with fail
  go_ret
  exact ⟨rfl,rfl⟩
 all_goals (
  go_enter Tryz.func141,Tryz.ntmps141
  go_wp2_with fail
  go_ret
  exact ⟨rfl,rfl⟩)
theorem aL (u:Bool) (n lo hi:Int) (w:World):Calls Tryz.prog 142 #[.bool u,.int .i64 n,.int .i64 lo,.int .i64 hi] w fun e w'=>e=.returned (.bool (aQ u n lo hi))∧w=w':=by
 cases u with
 | false =>
  have HV:=zh (show aQ false n lo hi=decide (n=0) from rfl)
  by_cases h0:n=0
  ·subst h0
   go_enter Tryz.func142,Tryz.ntmps142
   go_wp2_with fail
   go_ret
   exact ⟨by rw [HV.out];rfl,rfl⟩
  have d1:decide (n=0)=false:=decide_eq_false h0
  have d2:(n == 0)=false:=by simp;omega
  have HW:=zh (show aQ false n lo hi=false by rw [HV.out,d1])
  clear h0 HV
  go_enter Tryz.func142,Tryz.ntmps142
  go_wp2_with fail
  go_ret
  exact ⟨by rw [HW.out];rfl,rfl⟩
 | true =>
  by_cases h1:lo≤n
  ·by_cases h2 : n ≤ hi
   ·have HV := zh (show aQ true n lo hi = true from decide_eq_true ⟨h1, h2⟩)
    go_enter Tryz.func142,Tryz.ntmps142
    go_wp2_with fail
    go_ret
    exact ⟨by rw [HV.out];rfl,rfl⟩
   have HV:=zh (show aQ true n lo hi=false from decide_eq_false (by omega))
   have d2:decide (n≤hi)=false:=decide_eq_false h2
   clear h2
   go_enter Tryz.func142,Tryz.ntmps142
   go_wp2_with fail
   go_ret
   exact ⟨by rw [HV.out];rfl,rfl⟩
  have HV:=zh (show aQ true n lo hi=false from decide_eq_false (by omega))
  have d1:decide (lo≤n)=false:=decide_eq_false h1
  clear h1
  go_enter Tryz.func142,Tryz.ntmps142
  go_wp2_with fail
  go_ret
  exact ⟨by rw [HV.out];rfl,rfl⟩
end
end Go.Proofs.YtohmmcahpakokaaGreat
