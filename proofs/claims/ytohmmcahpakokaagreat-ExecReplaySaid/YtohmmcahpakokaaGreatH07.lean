/- extended, AppendUint (the program's): the bytes of a number behind bytes. -/
import Derived.Test.YtohmmcahpakokaaGreatH05
set_option maxRecDepth 100000
set_option maxHeartbeats 8000000
set_option linter.unusedVariables false
set_option linter.unusedSimpArgs false
namespace Go.Proofs.YtohmmcahpakokaaGreat
section
open Go.RowKit
def zbs (n:Nat):List Value:=List.replicate n (.int .u8 0)
theorem nX (n:Nat):(zbs n).length=n:=by simp [zbs]
theorem aCO (n:Nat):madeCells (Value.int .u8 0).cells (n * 1)=(zbs n).toArray:=by
 apply Array.ext_getElem?
 intro j
 simp only [madeCells,zbs,Nat.mul_one,Array.getElem?_map,Value.cells,List.getElem?_toArray,List.getElem?_replicate]
 by_cases hj:j < n
 ·simp [hj,Array.getElem?_range,Nat.mod_one]
 simp [hj]
theorem aKW (n k:Nat) (h:n+k≤140737488355328) (w:World):(Instr.makeSlice 45 (.int .i64 (n:Int)) (.int .i64 ((n:Int)+(k:Int)))).run Tryz.prog w=.ok (.slice (some ⟨w.heap.size,0,none⟩) n (n+k)) (w.alloc (.cells (zbs (n+k)).toArray 5)):=by
 obtain ⟨i,hi,hz,hs,hby⟩:=bU.get
 have h:=run_make (P:=Tryz.prog) w 45 5 i (.int .u8 0) bU.ut hi hz .i64 .i64 n ((n:Int)+k) (by omega) (by omega) (by rw [hby];omega) (by omega)
 rw [hs,show ((n:Int)+k).toNat=n+k from by omega,aCO,show ((n:Int)).toNat=n from by omega] at h
 exact h
theorem xQ {w:World} {base g cap n:Nat} {e:TypeId} {l:List UInt8} {cur:Array Value} (hh:w.heap[g]?=some (.cells cur e (0,0))) (hb:base≤g) (hl:l.length=n) (hc:n≤cap) (hm:cap≤140737488355328) (hs:cur.size=cap) (ht:cur.toList.take n=bcs l):OwnB w base e (some ⟨g,0,none⟩) n cap l :=
 ⟨by rw [aN,hl,Nat.mul_one],.inr ⟨g,cap,cur,rfl,hb,hh,hc,by simp only [maxLen];omega,by omega,by rw [Nat.mul_one];exact ht⟩⟩
theorem zY (A:Option Addr) (n c:Nat) (l:List UInt8) (k:Nat) (w:World) (h:SlB w A n c l) (hk:n+k≤140737488355328) :
  Calls Tryz.prog 250 #[.slice A n c,.int .i64 (k:Int)] w fun e w'=>∃ A',e=.returned (.slice A' n (n+k))∧OwnB w' w.heap.size 5 A' n (n+k) l∧Ext w w':=by
 have hmk:=aKW n k hk
 have HL:=zh h.len
 have HR:=zh (h.rd.ext ((Ext.refl w).alloc' (.cells (zbs (n+k)).toArray 5)))
 clear h
 go_enter Tryz.func250,Tryz.ntmps250
 go_wp2_with (with_reducible refine wpList_copy_splice rfl _ _ _ _ rfl 5 Tryz.underlying45 (by kernel_rfl) _ _ _ _ _ _ rfl rfl w.heap.size 0 (zbs (n+k)) 5 (heap_alloc_new w _) (bcs l) ?c1 ?c2 ?c3 (eA l) w.heap.size w ((Ext.refl w).alloc' _) (Nat.le_refl _) ?_)
 case c1=>rw [aN,HL.out];exact (Nat.min_self n).symm
 case c2=>exact fun hp=>HR.out.src hp
 case c3=>rw [aN,nX,HL.out];omega
 intro w1 hb1 he1
 go_wp2_with fail
 go_ret
 exact ⟨_,rfl,xQ hb1.out (Nat.le_refl _) HL.out (by omega) hk (by rw [List.size_toArray,length_splice _ _ _ (by rw [aN,nX,HL.out];omega),nX]) (by simp [splice,aN,HL.out]),he1⟩
theorem aBY (k n j:Nat) (hj:j < k):(cM k n)[j]'(by rw [cR];exact hj)=UInt8.ofNat (n / 256 ^ (k - 1 - j) % 256):=by
 induction k generalizing n j with
 | zero=>omega
 | succ k ih =>
  simp only [cM]
  by_cases h:j < k
  ·rw [List.getElem_append_left (by rw [cR];exact h),ih _ _ h,Nat.div_div_eq_div_mul,show k+1 - 1 - j=(k - 1 - j)+1 from by omega,Nat.pow_succ,Nat.mul_comm 256]
  obtain rfl:j=k:=by omega
  rw [List.getElem_append_right (by rw [cR];omega)]
  simp [cR]
theorem qN (k n i:Nat) (hi:i < k):(cM k n).take (k - i)=(cM k n).take (k - (i+1)) ++ [toB ((n:Int) / 2 ^ (8 * i))]:=by
 rw [show k - i=k - (i+1)+1 from by omega,List.take_succ_eq_append_getElem (by rw [cR];omega),aBY _ _ _ (by omega)]
 congr 2
 rw [show k - 1 - (k - (i+1))=i from by omega,show (256:Nat)=2 ^ 8 from rfl,← Nat.pow_mul]
 unfold toB
 rw [show ((n:Int) / 2 ^ (8 * i))=((n / 2 ^ (8 * i):Nat):Int) from by simp]
 congr 1
theorem aGU {q wd n:Nat} {l:List UInt8} {v:UInt64} {A:Option Addr} {c:Nat} {w:World} {base:Nat} {e:TypeId} {z:Int} (h:OwnB w base e A (n+q+1) c (l ++ ((cM wd v.toNat).take q ++ [toB z]))) (kk:Nat) (hk:q=wd - (kk+1)) (hb:(cM wd v.toNat).take (wd - kk)=(cM wd v.toNat).take (wd - (kk+1)) ++ [toB ((v.toNat:Int) / 2 ^ (8 * kk))]) (hw:kk < wd) (hz:z=(v.toNat:Int) / 2 ^ (8 * kk)):OwnB w base e A (n+(wd - kk)) c (l ++ (cM wd v.toNat).take (wd - kk)):=by
 subst hk
 rw [hb,← hz,show n+(wd - kk)=n+(wd - (kk+1))+1 from by omega]
 exact h
theorem vU (A:Option Addr) (n c:Nat) (l:List UInt8) (v:UInt64) (wd:Nat) (hwd:wd≤8) (w:World) (h:SlB w A n c l) (hn:n≤140737488351232) :
  Calls Tryz.prog 220 #[.slice A n c,.int .u64 (un v),.int .i64 (wd:Int)] w fun e w'=>∃ A' c',e=.returned (.slice A' (n+wd) c')∧OwnB w' w.heap.size 5 A' (n+wd) c' (l ++ cM wd v.toNat)∧Ext w w':=by
 have k0:(0:Int)≤(wd:Int):=by omega
 have k1:(wd:Int)≤8:=by omega
 have hv0:=fJ v
 have HV1:=zh (aIu v)
 have HS:=zh h
 clear h
 go_enter Tryz.func220,Tryz.ntmps220
 go_wp2_with fail
 refine (zY A n c l wd _ HS.out (by omega)).mono ?_
 rintro e w1 ⟨A1,rfl,hO1,hE1⟩
 have HO1:=zh hO1
 have HE1:=zh hE1
 clear hO1 hE1
 go_wp2_with fail
 go_loopw [7,8] (fun x i wr=>∃ (j:Nat) (A2:Option Addr) (c2:Nat),j≤wd∧i=.int .i64 ((j:Int) - 1)∧x=.slice A2 (n+(wd - j)) c2∧OwnB wr w.heap.size 5 A2 (n+(wd - j)) c2 (l ++ (cM wd v.toNat).take (wd - j))∧Ext w wr) (fun _ i _=>(intOf i+1).toNat)
 case atStart=>exact ⟨wd,A1,n+wd,Nat.le_refl _,rfl,by simp,by simpa using HO1.out,HE1.out⟩
 case round =>
  obtain ⟨j,A2,c2,hj,rfl,rfl,hO,hE⟩:=hrel
  have HO:=zh hO
  have HE:=zh hE
  clear hO hE
  by_cases hlt:0 < j
  ·obtain ⟨i, rfl⟩ : ∃ i, j = i + 1 := ⟨j - 1, by omega⟩
   obtain ⟨kk,hkk⟩:∃ kk,kk=i:=⟨_,rfl⟩
   have HB:=zh (qN wd v.toNat kk (by omega))
   have HKK:=zh hkk
   clear hkk
   obtain ⟨q,hq⟩:∃ q,q=wd - (i+1):=⟨_,rfl⟩
   rw [← hq] at HO ⊢
   have HQ:=zh (show q=wd - (kk+1) from by rw [HKK.out];exact hq)
   have hq8:q≤8:=by omega
   clear hq
   rw [show ((i+1:Nat):Int) - 1=(i:Int) from by omega]
   have hi7:i=0 ∨ i=1 ∨ i=2 ∨ i=3 ∨ i=4 ∨ i=5 ∨ i=6 ∨ i=7:=by omega
   rcases hi7 with rfl | rfl | rfl | rfl | rfl | rfl | rfl | rfl
   all_goals (
    go_wp2_with (at_builtin;go_must (refine cG bU rfl (.tmp 21) (.tmp 27) rfl w.heap.size A2 _ c2 _ rfl (HO.out.alloc _) _ 1 1 [toB _] rfl (SlB.new1 _ _ _ _ _ rfl (bZ _)) (by omega) (HE.out.alloc' _).size w (HE.out.alloc' _) ?_))
    intro A4 c4 w4 hO4 hE4 hs4
    have HO4:=zh (aGU hO4 kk HQ.out HB.out (by have:=HKK.out;omega) (by rw [HKK.out];simp [un]))
    clear hO4
    go_wp2_with fail
    go_roundw
    case rel=>exact ⟨kk,A4,c4,by have:=HKK.out;omega,by rw [HKK.out];go_num,by have:=HKK.out;have:=HQ.out;congr 1;omega,HO4.out,hE4⟩
    case measure=>simp [intOf])
  obtain rfl:j=0:=by omega
  have i1:((0:Nat):Int) - 1 < 0:=by omega
  go_wp2_with fail
  go_ret
  exact ⟨A2,c2,by simp,by have:=HO.out;rwa [Nat.sub_zero,List.take_of_length_le (by rw [cR];omega)] at this,HE.out⟩
end
section
open Go.RowKit
attribute [local go_sem ↓] Go.wp_at_zero Go.wp_at_succ
theorem kB (A:Option Addr) (n c:Nat) (l:List UInt8) (v:UInt64) (wd:Nat) (hwd1:1≤wd) (hwd:wd≤8) (w:World) (h:SlB w A n c l) (hn:n≤140737488351232) :
  Calls Tryz.prog 143 #[.slice A n c,.int .u64 (un v),.int .i64 (wd:Int)] w fun e w'=>∃ A' c',e=.returned (.slice A' (n+wd) c')∧OwnB w' w.heap.size 5 A' (n+wd) c' (l ++ cM wd v.toNat)∧Ext w w':=by
 have k0:(0:Int) < (wd:Int):=by omega
 have k1:(wd:Int)≤8:=by omega
 have hv0:=fJ v
 have HV1:=zh (aIu v)
 have HS:=zh (h.ext ((Ext.refl w).alloc' (.cells #[] 5)))
 clear h
 go_enter Tryz.func143,Tryz.ntmps143
 go_wp2_with (at_builtin;go_must (refine cG bU rfl (.tmp 9) (.tmp 10) rfl w.heap.size _ 0 _ [] rfl (OwnB.made w w.heap.size #[] 0 _ rfl (Nat.le_refl _) (by omega) rfl) A n c l rfl HS.out (by omega) ((Ext.refl w).alloc' _).size w ((Ext.refl w).alloc' _) ?_))
 intro A1 c1 w1 hO1 hE1 hs1
 have HO1:=zh (show OwnB w1 w.heap.size 5 A1 n c1 l from by simpa using hO1)
 have HE1:=zh hE1
 clear hO1 hE1
 go_wp2_with fail
 go_loopw [7,8] (fun x i wr=>∃ (j:Nat) (A2:Option Addr) (c2:Nat),j≤wd∧i=.int .i64 ((j:Int) - 1)∧x=.slice A2 (n+(wd - j)) c2∧OwnB wr w.heap.size 5 A2 (n+(wd - j)) c2 (l ++ (cM wd v.toNat).take (wd - j))∧Ext w wr) (fun _ i _=>(intOf i+1).toNat)
 case atStart=>exact ⟨wd,A1,c1,Nat.le_refl _,rfl,by simp,by simpa using HO1.out,HE1.out⟩
 case round =>
  obtain ⟨j,A2,c2,hj,rfl,rfl,hO,hE⟩:=hrel
  have HO:=zh hO
  have HE:=zh hE
  clear hO hE
  by_cases hlt:0 < j
  ·obtain ⟨i, rfl⟩ : ∃ i, j = i + 1 := ⟨j - 1, by omega⟩
   obtain ⟨kk,hkk⟩:∃ kk,kk=i:=⟨_,rfl⟩
   have HB:=zh (qN wd v.toNat kk (by omega))
   have HKK:=zh hkk
   clear hkk
   obtain ⟨q,hq⟩:∃ q,q=wd - (i+1):=⟨_,rfl⟩
   rw [← hq] at HO ⊢
   have HQ:=zh (show q=wd - (kk+1) from by rw [HKK.out];exact hq)
   have hq8:q≤8:=by omega
   clear hq
   rw [show ((i+1:Nat):Int) - 1=(i:Int) from by omega]
   have hi7:i=0 ∨ i=1 ∨ i=2 ∨ i=3 ∨ i=4 ∨ i=5 ∨ i=6 ∨ i=7:=by omega
   rcases hi7 with rfl | rfl | rfl | rfl | rfl | rfl | rfl | rfl
   all_goals (
    go_wp2_with (at_builtin;go_must (refine cG bU rfl (.tmp 20) (.tmp 27) rfl w.heap.size A2 _ c2 _ rfl (HO.out.alloc _) _ 1 1 [toB _] rfl (SlB.new1 _ _ _ _ _ rfl (bZ _)) (by omega) (HE.out.alloc' _).size w (HE.out.alloc' _) ?_))
    intro A4 c4 w4 hO4 hE4 hs4
    have HO4:=zh (aGU hO4 kk HQ.out HB.out (by have:=HKK.out;omega) (by rw [HKK.out];simp [un]))
    clear hO4
    go_wp2_with fail
    go_roundw
    case rel=>exact ⟨kk,A4,c4,by have:=HKK.out;omega,by rw [HKK.out];go_num,by have:=HKK.out;have:=HQ.out;congr 1;omega,HO4.out,hE4⟩
    case measure=>simp [intOf])
  obtain rfl:j=0:=by omega
  have i1:((0:Nat):Int) - 1 < 0:=by omega
  go_wp2_with fail
  go_ret
  exact ⟨A2,c2,by simp,by have:=HO.out;rwa [Nat.sub_zero,List.take_of_length_le (by rw [cR];omega)] at this,HE.out⟩
def beI (wd:Nat) (z:Int):List UInt8:=cM wd (z % 18446744073709551616).toNat
theorem iN (wd:Nat) (z:Int):(beI wd z).length=wd:=cR _ _
def uI (z:Int):UInt64:=UInt64.ofNat (z % 18446744073709551616).toNat
theorem pC (z:Int):IntKind.u64.wrap z=un (uI z):=by
 rw [IntKind.wrap_u64];unfold un uI;rw [UInt64.toNat_ofNat_of_lt' (by simp [UInt64.size];omega)];omega
theorem aCn (z:Int):(uI z).toNat=(z % 18446744073709551616).toNat:=by
 unfold uI;rw [UInt64.toNat_ofNat_of_lt' (by simp [UInt64.size];omega)]
theorem oH (A:Option Addr) (n c:Nat) (l:List UInt8) (z:Int) (wd:Nat) (hwd1:1≤wd) (hwd:wd≤8) (w:World) (h:SlB w A n c l) (hn:n≤140737488351232) :
  Calls Tryz.prog 86 #[.slice A n c,.int .i64 z,.int .i64 (wd:Int)] w fun e w'=>∃ A' c',e=.returned (.slice A' (n+wd) c')∧OwnB w' w.heap.size 5 A' (n+wd) c' (l ++ beI wd z)∧Ext w w':=by
 have hu:=pC z
 have HA:=zh (kB A n c l (uI z) wd hwd1 hwd w h hn)
 rw [aCn] at HA
 generalize uI z=u at *
 clear h
 go_enter Tryz.func86,Tryz.ntmps86
 go_wp2_with fail
 refine HA.out.mono ?_
 rintro e w1 ⟨A1,c1,rfl,hO,hE⟩
 go_wp2_with fail
 go_ret
 exact ⟨A1,c1,rfl,hO,hE⟩
theorem nG (A:Option Addr) (n c:Nat) (l:List UInt8) (v:UInt64) (w:World) (h:SlB w A n c l) (hn:n≤140737488351232) :
  Calls Tryz.prog 87 #[.slice A n c,.agg (nmc v)] w fun e w'=>∃ A' c',e=.returned (.slice A' (n+8) c')∧OwnB w' w.heap.size 5 A' (n+8) c' (l ++ nmb v)∧Ext w w':=by
 have hE0:=(Ext.refl w).alloc' (.cells (nmc v) 30)
 have HS:=zh (fun (W:World) (hW:Ext w W)=>h.ext hW)
 have HB:=zh (Blk.new w 30 (nmc v))
 have HE0:=zh hE0
 clear h hE0
 go_enter Tryz.func87,Tryz.ntmps87
 go_wp2_with fail
 go_region_law (first | (refine tG bU rfl (.tmp 5) (.tmp 6) rfl (w.heap.size+1) (some ⟨w.heap.size+1,0,none⟩) 0 0 [] (by rfl) (OwnB.drew (OwnB.made (w.alloc (.cells (nmc v) 30)) (w.heap.size+1) #[] 0 (w.heap.size+1) (by simp) (Nat.le_refl _) (by omega) rfl)) A n c l (by rfl) (HS.out _ ((HE0.out.alloc' _).drew')) (by omega) (by simp) ?_;intro A5 c5 w5 hO5 hg5;have hE5:=sF (w0:=w.alloc (.cells (nmc v) 30)) (OwnB.drew (OwnB.made (w.alloc (.cells (nmc v) 30)) (w.heap.size+1) #[] 0 (w.heap.size+1) (by simp) (Nat.le_refl _) (by omega) rfl)) (((Below.refl _ _).alloc (by simp) _).drew) (by simp) hg5;have HO5:=zh (show OwnB w5 (w.heap.size+1) 5 A5 n c5 l from by simpa using hO5);have HE5:=zh hE5;have HS5:=zh (SlB.blkN (HB.out.below hE5 (by omega)));clear hO5 hE5 hg5) | (refine tG bU rfl (.tmp 7) (.tmp 8) rfl (w.heap.size+1) A5 n c5 l (by rfl) HO5.out (some ⟨w.heap.size,0,none⟩) 8 8 (nmb v) (by rfl) HS5.out (by omega) (by have:=HE5.out.size;simpa using this) ?_;intro A6 c6 w6 hO6 hg6;have hE6:=sF HO5.out HE5.out (by have:=HE5.out.size;simpa using this) hg6;have HO6:=zh hO6;have HE6:=zh hE6;clear hO6 hg6 hE6))
 all_goals (
  go_wp2_with fail
  go_ret
  refine ⟨A6,c6,rfl,bC HO6.out (by omega),HE0.out.trans (HE6.out.mono (by simp))⟩)
theorem aFw {R:OpR} (h:¬ (1≤R.k∧R.k≤6)):vOp R=false:=by unfold vOp;rw [decide_eq_false h,Bool.false_and]
theorem aZ:nmc 0=#[.int .u8 0,.int .u8 0,.int .u8 0,.int .u8 0,.int .u8 0,.int .u8 0,.int .u8 0,.int .u8 0]:=sO.symm
theorem iI (b1 b2 b3 b4 b5 b6 b7 b8:Bool):b1=false ∨ (b1=true∧b2=false) ∨ (b1=true∧b2=true∧b3=false) ∨ (b1=true∧b2=true∧b3=true∧b4=false) ∨ (b1=true∧b2=true∧b3=true∧b4=true∧b5=false) ∨ (b1=true∧b2=true∧b3=true∧b4=true∧b5=true∧b6=false) ∨ (b1=true∧b2=true∧b3=true∧b4=true∧b5=true∧b6=true∧b7=false) ∨ (b1=true∧b2=true∧b3=true∧b4=true∧b5=true∧b6=true∧b7=true∧b8=false) ∨ (b1=true∧b2=true∧b3=true∧b4=true∧b5=true∧b6=true∧b7=true∧b8=true):=by
 cases b1 <;> simp
 cases b2 <;> simp
 cases b3 <;> simp
 cases b4 <;> simp
 cases b5 <;> simp
 cases b6 <;> simp
 cases b7 <;> simp
theorem aCm (R:OpR) (h:¬ (1≤R.k∧R.k≤6)) (w:World) :
  Calls Tryz.prog 81 #[.agg (opA R)] w fun e w'=>e=.returned (.bool false)∧Ext w w':=by
 have HU:=zh (fun W=>eC R.k W)
 rw [aAA h] at HU
 have HE:=zh ((Ext.refl w).alloc' (.cells (opA R) 69))
 clear h
 go_enter Tryz.func81,Tryz.ntmps81
 simp only [gL,iZ]
 go_wp2_with (go_at_call 141;(with_reducible refine (HU.out _).mono ?_);rintro e wv ⟨rfl,rfl⟩)
 go_ret
 exact ⟨rfl,HE.out⟩
theorem aEj (R:OpR) (h:R.k=1) (w:World) (hR:R.ok w) :
  Calls Tryz.prog 81 #[.agg (opA R)] w fun e w'=>e=.returned (.bool (vOp R))∧Ext w w':=by
 have HU:=zh (fun W=>eC R.k W)
 rw [show jL R.k=5 from by rw [h];decide] at HU
 have l1:(R.n1:Int)≤9223372036854775807:=by have:=hR.pre.le;have:=hR.pre.cap;omega
 have l2:(R.n2:Int)≤9223372036854775807:=by have:=hR.prf.le;have:=hR.prf.cap;omega
 obtain ⟨b1,e1⟩:∃ b,aT true R.tO 0 15=b:=⟨_,rfl⟩
 have H1:=zh (fun W=>aO true R.tO 0 15 W)
 rw [e1] at H1
 obtain ⟨b2,e2⟩:∃ b,aT true R.am 1 1099511627776=b:=⟨_,rfl⟩
 have H2:=zh (fun W=>aO true R.am 1 1099511627776 W)
 rw [e2] at H2
 obtain ⟨b3,e3⟩:∃ b,aT false R.ul 1 1000=b:=⟨_,rfl⟩
 have H3:=zh (fun W=>aO false R.ul 1 1000 W)
 rw [e3] at H3
 obtain ⟨b4,e4⟩:∃ b,aT false R.va 0 9=b:=⟨_,rfl⟩
 have H4:=zh (fun W=>aO false R.va 0 9 W)
 rw [e4] at H4
 obtain ⟨b5,e5⟩:∃ b,aT false (R.n1:Int) 0 32=b:=⟨_,rfl⟩
 have H5:=zh (fun W=>aO false (R.n1:Int) 0 32 W)
 rw [e5] at H5
 obtain ⟨b6,e6⟩:∃ b,aT false (R.n2:Int) 1 2000=b:=⟨_,rfl⟩
 have H6:=zh (fun W=>aO false (R.n2:Int) 1 2000 W)
 rw [e6] at H6
 have E7:=zh (fun W=>cZ R.hs 0 W)
 have E8:=zh (fun W=>cZ R.lk 0 W)
 obtain ⟨b7,e7⟩:∃ b,decide (R.hs=0)=b:=⟨_,rfl⟩
 obtain ⟨b8,e8⟩:∃ b,decide (R.lk=0)=b:=⟨_,rfl⟩
 have HV:=zh (show vOp R=(b1 && (b2 && (b3 && (b4 && (b5 && (b6 && (b7 && b8))))))) by
  rw [← e1,← e2,← e3,← e4,← e5,← e6,← e7,← e8];unfold vOp;rw [h];rfl)
 rw [e7] at E7
 rw [e8] at E8
 have q7:=E7.out
 have q8:=E8.out
 rw [aZ] at q7 q8
 have HE:=zh ((Ext.refl w).alloc' (.cells (opA R) 69))
 have hc:=iI b1 b2 b3 b4 b5 b6 b7 b8
 clear hR h e1 e2 e3 e4 e5 e6 E7 E8
 rcases hc with rfl | ⟨rfl,rfl⟩ | ⟨rfl,rfl,rfl⟩ | ⟨rfl,rfl,rfl,rfl⟩ | ⟨rfl,rfl,rfl,rfl,rfl⟩ | ⟨rfl,rfl,rfl,rfl,rfl,rfl⟩ | ⟨rfl,rfl,rfl,rfl,rfl,rfl,rfl⟩ | ⟨rfl,rfl,rfl,rfl,rfl,rfl,rfl,rfl⟩ | ⟨rfl,rfl,rfl,rfl,rfl,rfl,rfl,rfl⟩
 all_goals first
  | (exfalso;first | exact absurd e7 (by decide) | exact absurd e8 (by decide))
  | (
   clear e7 e8
   go_enter Tryz.func81,Tryz.ntmps81
   simp only [gL,iZ]
   go_wp2_with (first | (go_at_call 141;(with_reducible refine (HU.out _).mono ?_);rintro e wv ⟨rfl,rfl⟩) | (go_at_call 142;(first | (with_reducible refine (H1.out _).mono ?_) | (with_reducible refine (H2.out _).mono ?_) | (with_reducible refine (H3.out _).mono ?_) | (with_reducible refine (H4.out _).mono ?_) | (with_reducible refine (H5.out _).mono ?_) | (with_reducible refine (H6.out _).mono ?_));rintro e wv ⟨rfl,rfl⟩))
   go_ret
   exact ⟨by rw [HV.out];rfl,HE.out⟩)
theorem aEi (R:OpR) (h:R.k=2) (w:World) (hR:R.ok w) :
  Calls Tryz.prog 81 #[.agg (opA R)] w fun e w'=>e=.returned (.bool (vOp R))∧Ext w w':=by
 have HU:=zh (fun W=>eC R.k W)
 rw [show jL R.k=29 from by rw [h];decide] at HU
 have l1:(R.n1:Int)≤9223372036854775807:=by have:=hR.pre.le;have:=hR.pre.cap;omega
 have l2:(R.n2:Int)≤9223372036854775807:=by have:=hR.prf.le;have:=hR.prf.cap;omega
 obtain ⟨b1,e1⟩:∃ b,aT true R.tO 0 15=b:=⟨_,rfl⟩
 have H1:=zh (fun W=>aO true R.tO 0 15 W)
 rw [e1] at H1
 obtain ⟨b2,e2⟩:∃ b,aT true R.am 1 1099511627776=b:=⟨_,rfl⟩
 have H2:=zh (fun W=>aO true R.am 1 1099511627776 W)
 rw [e2] at H2
 obtain ⟨b3,e3⟩:∃ b,aT true R.ul 1 1000=b:=⟨_,rfl⟩
 have H3:=zh (fun W=>aO true R.ul 1 1000 W)
 rw [e3] at H3
 obtain ⟨b4,e4⟩:∃ b,aT false R.va 0 9=b:=⟨_,rfl⟩
 have H4:=zh (fun W=>aO false R.va 0 9 W)
 rw [e4] at H4
 obtain ⟨b5,e5⟩:∃ b,aT false (R.n1:Int) 0 32=b:=⟨_,rfl⟩
 have H5:=zh (fun W=>aO false (R.n1:Int) 0 32 W)
 rw [e5] at H5
 obtain ⟨b6,e6⟩:∃ b,aT false (R.n2:Int) 1 2000=b:=⟨_,rfl⟩
 have H6:=zh (fun W=>aO false (R.n2:Int) 1 2000 W)
 rw [e6] at H6
 have E7:=zh (fun W=>cZ R.hs 0 W)
 have E8:=zh (fun W=>cZ R.lk 0 W)
 obtain ⟨b7,e7⟩:∃ b,true=b:=⟨_,rfl⟩
 obtain ⟨b8,e8⟩:∃ b,decide (R.lk=0)=b:=⟨_,rfl⟩
 have HV:=zh (show vOp R=(b1 && (b2 && (b3 && (b4 && (b5 && (b6 && (b7 && b8))))))) by
  rw [← e1,← e2,← e3,← e4,← e5,← e6,← e7,← e8];unfold vOp;rw [h];rfl)
 rw [e8] at E8
 have q7:=E7.out
 have q8:=E8.out
 rw [aZ] at q7 q8
 have HE:=zh ((Ext.refl w).alloc' (.cells (opA R) 69))
 have hc:=iI b1 b2 b3 b4 b5 b6 b7 b8
 clear hR h e1 e2 e3 e4 e5 e6 E7 E8
 rcases hc with rfl | ⟨rfl,rfl⟩ | ⟨rfl,rfl,rfl⟩ | ⟨rfl,rfl,rfl,rfl⟩ | ⟨rfl,rfl,rfl,rfl,rfl⟩ | ⟨rfl,rfl,rfl,rfl,rfl,rfl⟩ | ⟨rfl,rfl,rfl,rfl,rfl,rfl,rfl⟩ | ⟨rfl,rfl,rfl,rfl,rfl,rfl,rfl,rfl⟩ | ⟨rfl,rfl,rfl,rfl,rfl,rfl,rfl,rfl⟩
 all_goals first
  | (exfalso;first | exact absurd e7 (by decide) | exact absurd e8 (by decide))
  | (
   clear e7 e8
   go_enter Tryz.func81,Tryz.ntmps81
   simp only [gL,iZ]
   go_wp2_with (first | (go_at_call 141;(with_reducible refine (HU.out _).mono ?_);rintro e wv ⟨rfl,rfl⟩) | (go_at_call 142;(first | (with_reducible refine (H1.out _).mono ?_) | (with_reducible refine (H2.out _).mono ?_) | (with_reducible refine (H3.out _).mono ?_) | (with_reducible refine (H4.out _).mono ?_) | (with_reducible refine (H5.out _).mono ?_) | (with_reducible refine (H6.out _).mono ?_));rintro e wv ⟨rfl,rfl⟩))
   go_ret
   exact ⟨by rw [HV.out];rfl,HE.out⟩)
theorem aEh (R:OpR) (h:R.k=3) (w:World) (hR:R.ok w) :
  Calls Tryz.prog 81 #[.agg (opA R)] w fun e w'=>e=.returned (.bool (vOp R))∧Ext w w':=by
 have HU:=zh (fun W=>eC R.k W)
 rw [show jL R.k=101 from by rw [h];decide] at HU
 have l1:(R.n1:Int)≤9223372036854775807:=by have:=hR.pre.le;have:=hR.pre.cap;omega
 have l2:(R.n2:Int)≤9223372036854775807:=by have:=hR.prf.le;have:=hR.prf.cap;omega
 obtain ⟨b1,e1⟩:∃ b,aT true R.tO 0 15=b:=⟨_,rfl⟩
 have H1:=zh (fun W=>aO true R.tO 0 15 W)
 rw [e1] at H1
 obtain ⟨b2,e2⟩:∃ b,aT true R.am 1 1099511627776=b:=⟨_,rfl⟩
 have H2:=zh (fun W=>aO true R.am 1 1099511627776 W)
 rw [e2] at H2
 obtain ⟨b3,e3⟩:∃ b,aT false R.ul 1 1000=b:=⟨_,rfl⟩
 have H3:=zh (fun W=>aO false R.ul 1 1000 W)
 rw [e3] at H3
 obtain ⟨b4,e4⟩:∃ b,aT false R.va 0 9=b:=⟨_,rfl⟩
 have H4:=zh (fun W=>aO false R.va 0 9 W)
 rw [e4] at H4
 obtain ⟨b5,e5⟩:∃ b,aT true (R.n1:Int) 0 32=b:=⟨_,rfl⟩
 have H5:=zh (fun W=>aO true (R.n1:Int) 0 32 W)
 rw [e5] at H5
 obtain ⟨b6,e6⟩:∃ b,aT false (R.n2:Int) 1 2000=b:=⟨_,rfl⟩
 have H6:=zh (fun W=>aO false (R.n2:Int) 1 2000 W)
 rw [e6] at H6
 have E7:=zh (fun W=>cZ R.hs 0 W)
 have E8:=zh (fun W=>cZ R.lk 0 W)
 obtain ⟨b7,e7⟩:∃ b,decide (R.hs=0)=b:=⟨_,rfl⟩
 obtain ⟨b8,e8⟩:∃ b,true=b:=⟨_,rfl⟩
 have HV:=zh (show vOp R=(b1 && (b2 && (b3 && (b4 && (b5 && (b6 && (b7 && b8))))))) by
  rw [← e1,← e2,← e3,← e4,← e5,← e6,← e7,← e8];unfold vOp;rw [h];rfl)
 rw [e7] at E7
 have q7:=E7.out
 have q8:=E8.out
 rw [aZ] at q7 q8
 have HE:=zh ((Ext.refl w).alloc' (.cells (opA R) 69))
 have hc:=iI b1 b2 b3 b4 b5 b6 b7 b8
 clear hR h e1 e2 e3 e4 e5 e6 E7 E8
 rcases hc with rfl | ⟨rfl,rfl⟩ | ⟨rfl,rfl,rfl⟩ | ⟨rfl,rfl,rfl,rfl⟩ | ⟨rfl,rfl,rfl,rfl,rfl⟩ | ⟨rfl,rfl,rfl,rfl,rfl,rfl⟩ | ⟨rfl,rfl,rfl,rfl,rfl,rfl,rfl⟩ | ⟨rfl,rfl,rfl,rfl,rfl,rfl,rfl,rfl⟩ | ⟨rfl,rfl,rfl,rfl,rfl,rfl,rfl,rfl⟩
 all_goals first
  | (exfalso;first | exact absurd e7 (by decide) | exact absurd e8 (by decide))
  | (
   clear e7 e8
   go_enter Tryz.func81,Tryz.ntmps81
   simp only [gL,iZ]
   go_wp2_with (first | (go_at_call 141;(with_reducible refine (HU.out _).mono ?_);rintro e wv ⟨rfl,rfl⟩) | (go_at_call 142;(first | (with_reducible refine (H1.out _).mono ?_) | (with_reducible refine (H2.out _).mono ?_) | (with_reducible refine (H3.out _).mono ?_) | (with_reducible refine (H4.out _).mono ?_) | (with_reducible refine (H5.out _).mono ?_) | (with_reducible refine (H6.out _).mono ?_));rintro e wv ⟨rfl,rfl⟩))
   go_ret
   exact ⟨by rw [HV.out];rfl,HE.out⟩)
theorem aEg (R:OpR) (h:R.k=4) (w:World) (hR:R.ok w) :
  Calls Tryz.prog 81 #[.agg (opA R)] w fun e w'=>e=.returned (.bool (vOp R))∧Ext w w':=by
 have HU:=zh (fun W=>eC R.k W)
 rw [show jL R.k=37 from by rw [h];decide] at HU
 have l1:(R.n1:Int)≤9223372036854775807:=by have:=hR.pre.le;have:=hR.pre.cap;omega
 have l2:(R.n2:Int)≤9223372036854775807:=by have:=hR.prf.le;have:=hR.prf.cap;omega
 obtain ⟨b1,e1⟩:∃ b,aT true R.tO 0 15=b:=⟨_,rfl⟩
 have H1:=zh (fun W=>aO true R.tO 0 15 W)
 rw [e1] at H1
 obtain ⟨b2,e2⟩:∃ b,aT true R.am 1 1099511627776=b:=⟨_,rfl⟩
 have H2:=zh (fun W=>aO true R.am 1 1099511627776 W)
 rw [e2] at H2
 obtain ⟨b3,e3⟩:∃ b,aT false R.ul 1 1000=b:=⟨_,rfl⟩
 have H3:=zh (fun W=>aO false R.ul 1 1000 W)
 rw [e3] at H3
 obtain ⟨b4,e4⟩:∃ b,aT false R.va 0 9=b:=⟨_,rfl⟩
 have H4:=zh (fun W=>aO false R.va 0 9 W)
 rw [e4] at H4
 obtain ⟨b5,e5⟩:∃ b,aT false (R.n1:Int) 0 32=b:=⟨_,rfl⟩
 have H5:=zh (fun W=>aO false (R.n1:Int) 0 32 W)
 rw [e5] at H5
 obtain ⟨b6,e6⟩:∃ b,aT false (R.n2:Int) 1 2000=b:=⟨_,rfl⟩
 have H6:=zh (fun W=>aO false (R.n2:Int) 1 2000 W)
 rw [e6] at H6
 have E7:=zh (fun W=>cZ R.hs 0 W)
 have E8:=zh (fun W=>cZ R.lk 0 W)
 obtain ⟨b7,e7⟩:∃ b,decide (R.hs=0)=b:=⟨_,rfl⟩
 obtain ⟨b8,e8⟩:∃ b,true=b:=⟨_,rfl⟩
 have HV:=zh (show vOp R=(b1 && (b2 && (b3 && (b4 && (b5 && (b6 && (b7 && b8))))))) by
  rw [← e1,← e2,← e3,← e4,← e5,← e6,← e7,← e8];unfold vOp;rw [h];rfl)
 rw [e7] at E7
 have q7:=E7.out
 have q8:=E8.out
 rw [aZ] at q7 q8
 have HE:=zh ((Ext.refl w).alloc' (.cells (opA R) 69))
 have hc:=iI b1 b2 b3 b4 b5 b6 b7 b8
 clear hR h e1 e2 e3 e4 e5 e6 E7 E8
 rcases hc with rfl | ⟨rfl,rfl⟩ | ⟨rfl,rfl,rfl⟩ | ⟨rfl,rfl,rfl,rfl⟩ | ⟨rfl,rfl,rfl,rfl,rfl⟩ | ⟨rfl,rfl,rfl,rfl,rfl,rfl⟩ | ⟨rfl,rfl,rfl,rfl,rfl,rfl,rfl⟩ | ⟨rfl,rfl,rfl,rfl,rfl,rfl,rfl,rfl⟩ | ⟨rfl,rfl,rfl,rfl,rfl,rfl,rfl,rfl⟩
 all_goals first
  | (exfalso;first | exact absurd e7 (by decide) | exact absurd e8 (by decide))
  | (
   clear e7 e8
   go_enter Tryz.func81,Tryz.ntmps81
   simp only [gL,iZ]
   go_wp2_with (first | (go_at_call 141;(with_reducible refine (HU.out _).mono ?_);rintro e wv ⟨rfl,rfl⟩) | (go_at_call 142;(first | (with_reducible refine (H1.out _).mono ?_) | (with_reducible refine (H2.out _).mono ?_) | (with_reducible refine (H3.out _).mono ?_) | (with_reducible refine (H4.out _).mono ?_) | (with_reducible refine (H5.out _).mono ?_) | (with_reducible refine (H6.out _).mono ?_));rintro e wv ⟨rfl,rfl⟩))
   go_ret
   exact ⟨by rw [HV.out];rfl,HE.out⟩)
theorem aEf (R:OpR) (h:R.k=5) (w:World) (hR:R.ok w) :
  Calls Tryz.prog 81 #[.agg (opA R)] w fun e w'=>e=.returned (.bool (vOp R))∧Ext w w':=by
 have HU:=zh (fun W=>eC R.k W)
 rw [show jL R.k=6 from by rw [h];decide] at HU
 have l1:(R.n1:Int)≤9223372036854775807:=by have:=hR.pre.le;have:=hR.pre.cap;omega
 have l2:(R.n2:Int)≤9223372036854775807:=by have:=hR.prf.le;have:=hR.prf.cap;omega
 obtain ⟨b1,e1⟩:∃ b,aT false R.tO 0 15=b:=⟨_,rfl⟩
 have H1:=zh (fun W=>aO false R.tO 0 15 W)
 rw [e1] at H1
 obtain ⟨b2,e2⟩:∃ b,aT true R.am 1 1099511627776=b:=⟨_,rfl⟩
 have H2:=zh (fun W=>aO true R.am 1 1099511627776 W)
 rw [e2] at H2
 obtain ⟨b3,e3⟩:∃ b,aT false R.ul 1 1000=b:=⟨_,rfl⟩
 have H3:=zh (fun W=>aO false R.ul 1 1000 W)
 rw [e3] at H3
 obtain ⟨b4,e4⟩:∃ b,aT true R.va 0 9=b:=⟨_,rfl⟩
 have H4:=zh (fun W=>aO true R.va 0 9 W)
 rw [e4] at H4
 obtain ⟨b5,e5⟩:∃ b,aT false (R.n1:Int) 0 32=b:=⟨_,rfl⟩
 have H5:=zh (fun W=>aO false (R.n1:Int) 0 32 W)
 rw [e5] at H5
 obtain ⟨b6,e6⟩:∃ b,aT false (R.n2:Int) 1 2000=b:=⟨_,rfl⟩
 have H6:=zh (fun W=>aO false (R.n2:Int) 1 2000 W)
 rw [e6] at H6
 have E7:=zh (fun W=>cZ R.hs 0 W)
 have E8:=zh (fun W=>cZ R.lk 0 W)
 obtain ⟨b7,e7⟩:∃ b,decide (R.hs=0)=b:=⟨_,rfl⟩
 obtain ⟨b8,e8⟩:∃ b,decide (R.lk=0)=b:=⟨_,rfl⟩
 have HV:=zh (show vOp R=(b1 && (b2 && (b3 && (b4 && (b5 && (b6 && (b7 && b8))))))) by
  rw [← e1,← e2,← e3,← e4,← e5,← e6,← e7,← e8];unfold vOp;rw [h];rfl)
 rw [e7] at E7
 rw [e8] at E8
 have q7:=E7.out
 have q8:=E8.out
 rw [aZ] at q7 q8
 have HE:=zh ((Ext.refl w).alloc' (.cells (opA R) 69))
 have hc:=iI b1 b2 b3 b4 b5 b6 b7 b8
 clear hR h e1 e2 e3 e4 e5 e6 E7 E8
 rcases hc with rfl | ⟨rfl,rfl⟩ | ⟨rfl,rfl,rfl⟩ | ⟨rfl,rfl,rfl,rfl⟩ | ⟨rfl,rfl,rfl,rfl,rfl⟩ | ⟨rfl,rfl,rfl,rfl,rfl,rfl⟩ | ⟨rfl,rfl,rfl,rfl,rfl,rfl,rfl⟩ | ⟨rfl,rfl,rfl,rfl,rfl,rfl,rfl,rfl⟩ | ⟨rfl,rfl,rfl,rfl,rfl,rfl,rfl,rfl⟩
 all_goals first
  | (exfalso;first | exact absurd e7 (by decide) | exact absurd e8 (by decide))
  | (
   clear e7 e8
   go_enter Tryz.func81,Tryz.ntmps81
   simp only [gL,iZ]
   go_wp2_with (first | (go_at_call 141;(with_reducible refine (HU.out _).mono ?_);rintro e wv ⟨rfl,rfl⟩) | (go_at_call 142;(first | (with_reducible refine (H1.out _).mono ?_) | (with_reducible refine (H2.out _).mono ?_) | (with_reducible refine (H3.out _).mono ?_) | (with_reducible refine (H4.out _).mono ?_) | (with_reducible refine (H5.out _).mono ?_) | (with_reducible refine (H6.out _).mono ?_));rintro e wv ⟨rfl,rfl⟩))
   go_ret
   exact ⟨by rw [HV.out];rfl,HE.out⟩)
theorem aEe (R:OpR) (h:R.k=6) (w:World) (hR:R.ok w) :
  Calls Tryz.prog 81 #[.agg (opA R)] w fun e w'=>e=.returned (.bool (vOp R))∧Ext w w':=by
 have HU:=zh (fun W=>eC R.k W)
 rw [show jL R.k=130 from by rw [h];decide] at HU
 have l1:(R.n1:Int)≤9223372036854775807:=by have:=hR.pre.le;have:=hR.pre.cap;omega
 have l2:(R.n2:Int)≤9223372036854775807:=by have:=hR.prf.le;have:=hR.prf.cap;omega
 obtain ⟨b1,e1⟩:∃ b,aT false R.tO 0 15=b:=⟨_,rfl⟩
 have H1:=zh (fun W=>aO false R.tO 0 15 W)
 rw [e1] at H1
 obtain ⟨b2,e2⟩:∃ b,aT false R.am 1 1099511627776=b:=⟨_,rfl⟩
 have H2:=zh (fun W=>aO false R.am 1 1099511627776 W)
 rw [e2] at H2
 obtain ⟨b3,e3⟩:∃ b,aT false R.ul 1 1000=b:=⟨_,rfl⟩
 have H3:=zh (fun W=>aO false R.ul 1 1000 W)
 rw [e3] at H3
 obtain ⟨b4,e4⟩:∃ b,aT true R.va 0 9=b:=⟨_,rfl⟩
 have H4:=zh (fun W=>aO true R.va 0 9 W)
 rw [e4] at H4
 obtain ⟨b5,e5⟩:∃ b,aT false (R.n1:Int) 0 32=b:=⟨_,rfl⟩
 have H5:=zh (fun W=>aO false (R.n1:Int) 0 32 W)
 rw [e5] at H5
 obtain ⟨b6,e6⟩:∃ b,aT true (R.n2:Int) 1 2000=b:=⟨_,rfl⟩
 have H6:=zh (fun W=>aO true (R.n2:Int) 1 2000 W)
 rw [e6] at H6
 have E7:=zh (fun W=>cZ R.hs 0 W)
 have E8:=zh (fun W=>cZ R.lk 0 W)
 obtain ⟨b7,e7⟩:∃ b,decide (R.hs=0)=b:=⟨_,rfl⟩
 obtain ⟨b8,e8⟩:∃ b,decide (R.lk=0)=b:=⟨_,rfl⟩
 have HV:=zh (show vOp R=(b1 && (b2 && (b3 && (b4 && (b5 && (b6 && (b7 && b8))))))) by
  rw [← e1,← e2,← e3,← e4,← e5,← e6,← e7,← e8];unfold vOp;rw [h];rfl)
 rw [e7] at E7
 rw [e8] at E8
 have q7:=E7.out
 have q8:=E8.out
 rw [aZ] at q7 q8
 have HE:=zh ((Ext.refl w).alloc' (.cells (opA R) 69))
 have hc:=iI b1 b2 b3 b4 b5 b6 b7 b8
 clear hR h e1 e2 e3 e4 e5 e6 E7 E8
 rcases hc with rfl | ⟨rfl,rfl⟩ | ⟨rfl,rfl,rfl⟩ | ⟨rfl,rfl,rfl,rfl⟩ | ⟨rfl,rfl,rfl,rfl,rfl⟩ | ⟨rfl,rfl,rfl,rfl,rfl,rfl⟩ | ⟨rfl,rfl,rfl,rfl,rfl,rfl,rfl⟩ | ⟨rfl,rfl,rfl,rfl,rfl,rfl,rfl,rfl⟩ | ⟨rfl,rfl,rfl,rfl,rfl,rfl,rfl,rfl⟩
 all_goals first
  | (exfalso;first | exact absurd e7 (by decide) | exact absurd e8 (by decide))
  | (
   clear e7 e8
   go_enter Tryz.func81,Tryz.ntmps81
   simp only [gL,iZ]
   go_wp2_with (first | (go_at_call 141;(with_reducible refine (HU.out _).mono ?_);rintro e wv ⟨rfl,rfl⟩) | (go_at_call 142;(first | (with_reducible refine (H1.out _).mono ?_) | (with_reducible refine (H2.out _).mono ?_) | (with_reducible refine (H3.out _).mono ?_) | (with_reducible refine (H4.out _).mono ?_) | (with_reducible refine (H5.out _).mono ?_) | (with_reducible refine (H6.out _).mono ?_));rintro e wv ⟨rfl,rfl⟩))
   go_ret
   exact ⟨by rw [HV.out];rfl,HE.out⟩)
theorem aAy (R:OpR) (w:World) (hR:R.ok w) :
  Calls Tryz.prog 81 #[.agg (opA R)] w fun e w'=>e=.returned (.bool (vOp R))∧Ext w w':=by
 rcases iK R.k with h | h | h | h | h | h | h
 ·exact aEj R h w hR
 ·exact aEi R h w hR
 ·exact aEh R h w hR
 ·exact aEg R h w hR
 ·exact aEf R h w hR
 ·exact aEe R h w hR
 rw [aFw h];exact aCm R h w
end
end Go.Proofs.YtohmmcahpakokaaGreat
