/- extended, AppendUint (the program's): the bytes of a number behind bytes. -/
import Derived.Test.YtohmmcahpakokaaGreatD04
set_option maxRecDepth 100000
set_option maxHeartbeats 8000000
set_option linter.unusedVariables false
set_option linter.unusedSimpArgs false
namespace Go.Proofs.YtohmmcahpakokaaGreat
section
open Go.RowKit
def zbs (n:Nat):List Value:=List.replicate n (.int .u8 0)
theorem zbs_length (n:Nat):(zbs n).length=n:=by simp [zbs]
theorem made_bytes (n:Nat):madeCells (Value.int .u8 0).cells (n * 1)=(zbs n).toArray:=by
 apply Array.ext_getElem?
 intro j
 simp only [madeCells,zbs,Nat.mul_one,Array.getElem?_map,Value.cells,List.getElem?_toArray,List.getElem?_replicate]
 by_cases hj:j < n
 ·simp [hj,Array.getElem?_range,Nat.mod_one]
 simp [hj]
theorem hmkX (n k:Nat) (h:n+k≤140737488355328) (w:World):(Instr.makeSlice 45 (.int .i64 (n:Int)) (.int .i64 ((n:Int)+(k:Int)))).run Tryz.prog w=.ok (.slice (some ⟨w.heap.size,0,none⟩) n (n+k)) (w.alloc (.cells (zbs (n+k)).toArray 5)):=by
 obtain ⟨i,hi,hz,hs,hby⟩:=bytesE.get
 have h:=run_make (P:=Tryz.prog) w 45 5 i (.int .u8 0) bytesE.ut hi hz .i64 .i64 n ((n:Int)+k) (by omega) (by omega) (by rw [hby];omega) (by omega)
 rw [hs,show ((n:Int)+k).toNat=n+k from by omega,made_bytes,show ((n:Int)).toNat=n from by omega] at h
 exact h
theorem own_cells {w:World} {base g cap n:Nat} {e:TypeId} {l:List UInt8} {cur:Array Value} (hh:w.heap[g]?=some (.cells cur e (0,0))) (hb:base≤g) (hl:l.length=n) (hc:n≤cap) (hm:cap≤140737488355328) (hs:cur.size=cap) (ht:cur.toList.take n=bcs l):OwnB w base e (some ⟨g,0,none⟩) n cap l :=
 ⟨by rw [bL,hl,Nat.mul_one],.inr ⟨g,cap,cur,rfl,hb,hh,hc,by simp only [maxLen];omega,by omega,by rw [Nat.mul_one];exact ht⟩⟩
theorem extended_any (A:Option Addr) (n c:Nat) (l:List UInt8) (k:Nat) (w:World) (h:SlB w A n c l) (hk:n+k≤140737488355328) :
  Calls Tryz.prog 250 #[.slice A n c,.int .i64 (k:Int)] w fun e w'=>∃ A',e=.returned (.slice A' n (n+k))∧OwnB w' w.heap.size 5 A' n (n+k) l∧Ext w w':=by
 have hmk:=hmkX n k hk
 have HL:=zh h.len
 have HR:=zh (h.rd.ext ((Ext.refl w).alloc' (.cells (zbs (n+k)).toArray 5)))
 clear h
 go_enter Tryz.func250,Tryz.ntmps250
 go_wp2_with (with_reducible refine wpList_copy_splice rfl _ _ _ _ rfl 5 Tryz.underlying45 (by kernel_rfl) _ _ _ _ _ _ rfl rfl w.heap.size 0 (zbs (n+k)) 5 (heap_alloc_new w _) (bcs l) ?c1 ?c2 ?c3 (bcs_one l) w.heap.size w ((Ext.refl w).alloc' _) (Nat.le_refl _) ?_)
 case c1=>rw [bL,HL.out];exact (Nat.min_self n).symm
 case c2=>exact fun hp=>HR.out.src hp
 case c3=>rw [bL,zbs_length,HL.out];omega
 intro w1 hb1 he1
 go_wp2_with fail
 go_ret
 exact ⟨_,rfl,own_cells hb1.out (Nat.le_refl _) HL.out (by omega) hk (by rw [List.size_toArray,length_splice _ _ _ (by rw [bL,zbs_length,HL.out];omega),zbs_length]) (by simp [splice,bL,HL.out]),he1⟩
theorem beBytes_get (k n j:Nat) (hj:j < k):(beBytes k n)[j]'(by rw [beBytes_length];exact hj)=UInt8.ofNat (n / 256 ^ (k - 1 - j) % 256):=by
 induction k generalizing n j with
 | zero=>omega
 | succ k ih =>
  simp only [beBytes]
  by_cases h:j < k
  ·rw [List.getElem_append_left (by rw [beBytes_length];exact h),ih _ _ h,Nat.div_div_eq_div_mul,show k+1 - 1 - j=(k - 1 - j)+1 from by omega,Nat.pow_succ,Nat.mul_comm 256]
  obtain rfl:j=k:=by omega
  rw [List.getElem_append_right (by rw [beBytes_length];omega)]
  simp [beBytes_length]
theorem beBytes_step (k n i:Nat) (hi:i < k):(beBytes k n).take (k - i)=(beBytes k n).take (k - (i+1)) ++ [toB ((n:Int) / 2 ^ (8 * i))]:=by
 rw [show k - i=k - (i+1)+1 from by omega,List.take_succ_eq_append_getElem (by rw [beBytes_length];omega),beBytes_get _ _ _ (by omega)]
 congr 2
 rw [show k - 1 - (k - (i+1))=i from by omega,show (256:Nat)=2 ^ 8 from rfl,← Nat.pow_mul]
 unfold toB
 rw [show ((n:Int) / 2 ^ (8 * i))=((n / 2 ^ (8 * i):Nat):Int) from by simp]
 congr 1
theorem au_rel {q wd n:Nat} {l:List UInt8} {v:UInt64} {A:Option Addr} {c:Nat} {w:World} {base:Nat} {e:TypeId} {z:Int} (h:OwnB w base e A (n+q+1) c (l ++ ((beBytes wd v.toNat).take q ++ [toB z]))) (kk:Nat) (hk:q=wd - (kk+1)) (hb:(beBytes wd v.toNat).take (wd - kk)=(beBytes wd v.toNat).take (wd - (kk+1)) ++ [toB ((v.toNat:Int) / 2 ^ (8 * kk))]) (hw:kk < wd) (hz:z=(v.toNat:Int) / 2 ^ (8 * kk)):OwnB w base e A (n+(wd - kk)) c (l ++ (beBytes wd v.toNat).take (wd - kk)):=by
 subst hk
 rw [hb,← hz,show n+(wd - kk)=n+(wd - (kk+1))+1 from by omega]
 exact h
theorem appendUint_any (A:Option Addr) (n c:Nat) (l:List UInt8) (v:UInt64) (wd:Nat) (hwd:wd≤8) (w:World) (h:SlB w A n c l) (hn:n≤140737488351232) :
  Calls Tryz.prog 220 #[.slice A n c,.int .u64 (un v),.int .i64 (wd:Int)] w fun e w'=>∃ A' c',e=.returned (.slice A' (n+wd) c')∧OwnB w' w.heap.size 5 A' (n+wd) c' (l ++ beBytes wd v.toNat)∧Ext w w':=by
 have k0:(0:Int)≤(wd:Int):=by omega
 have k1:(wd:Int)≤8:=by omega
 have hv0:=un_nonneg v
 have HV1:=zh (un_lt v)
 have HS:=zh h
 clear h
 go_enter Tryz.func220,Tryz.ntmps220
 go_wp2_with fail
 refine (extended_any A n c l wd _ HS.out (by omega)).mono ?_
 rintro e w1 ⟨A1,rfl,hO1,hE1⟩
 have HO1:=zh hO1
 have HE1:=zh hE1
 clear hO1 hE1
 go_wp2_with fail
 go_loopw [7,8] (fun x i wr=>∃ (j:Nat) (A2:Option Addr) (c2:Nat),j≤wd∧i=.int .i64 ((j:Int) - 1)∧x=.slice A2 (n+(wd - j)) c2∧OwnB wr w.heap.size 5 A2 (n+(wd - j)) c2 (l ++ (beBytes wd v.toNat).take (wd - j))∧Ext w wr) (fun _ i _=>(intOf i+1).toNat)
 case atStart=>exact ⟨wd,A1,n+wd,Nat.le_refl _,rfl,by simp,by simpa using HO1.out,HE1.out⟩
 case round =>
  obtain ⟨j,A2,c2,hj,rfl,rfl,hO,hE⟩:=hrel
  have HO:=zh hO
  have HE:=zh hE
  clear hO hE
  by_cases hlt:0 < j
  ·obtain ⟨i, rfl⟩ : ∃ i, j = i + 1 := ⟨j - 1, by omega⟩
   obtain ⟨kk,hkk⟩:∃ kk,kk=i:=⟨_,rfl⟩
   have HB:=zh (beBytes_step wd v.toNat kk (by omega))
   have HKK:=zh hkk
   clear hkk
   obtain ⟨q,hq⟩:∃ q,q=wd - (i+1):=⟨_,rfl⟩
   rw [← hq] at HO ⊢
   have HQ:=zh (show q=wd - (kk+1) from by rw [HKK.out];exact hq)
   have hq8:q≤8:=by omega
   clear hq
   rw [show ((i+1:Nat):Int) - 1=(i:Int) from by omega]
   have hi7:i=0 ∨ i=1 ∨ i=2 ∨ i=3 ∨ i=4 ∨ i=5 ∨ i=6 ∨ i=7:=by omega
   rcases hi7 with rfl | rfl | rfl | rfl | rfl | rfl | rfl | rfl
   all_goals (
    go_wp2_with (at_builtin;go_must (refine wpList_appB bytesE rfl (.tmp 21) (.tmp 27) rfl w.heap.size A2 _ c2 _ rfl (HO.out.alloc _) _ 1 1 [toB _] rfl (SlB.new1 _ _ _ _ _ rfl (toB_eq _)) (by omega) (HE.out.alloc' _).size w (HE.out.alloc' _) ?_))
    intro A4 c4 w4 hO4 hE4 hs4
    have HO4:=zh (au_rel hO4 kk HQ.out HB.out (by have:=HKK.out;omega) (by rw [HKK.out];simp [un]))
    clear hO4
    go_wp2_with fail
    go_roundw
    case rel=>exact ⟨kk,A4,c4,by have:=HKK.out;omega,by rw [HKK.out];go_num,by have:=HKK.out;have:=HQ.out;congr 1;omega,HO4.out,hE4⟩
    case measure=>simp [intOf])
  obtain rfl:j=0:=by omega
  have i1:((0:Nat):Int) - 1 < 0:=by omega
  go_wp2_with fail
  go_ret
  exact ⟨A2,c2,by simp,by have:=HO.out;rwa [Nat.sub_zero,List.take_of_length_le (by rw [beBytes_length];omega)] at this,HE.out⟩
end
section
open Go.RowKit
attribute [local go_sem ↓] Go.wp_at_zero Go.wp_at_succ
theorem refAppendUint_any (A:Option Addr) (n c:Nat) (l:List UInt8) (v:UInt64) (wd:Nat) (hwd1:1≤wd) (hwd:wd≤8) (w:World) (h:SlB w A n c l) (hn:n≤140737488351232) :
  Calls Tryz.prog 143 #[.slice A n c,.int .u64 (un v),.int .i64 (wd:Int)] w fun e w'=>∃ A' c',e=.returned (.slice A' (n+wd) c')∧OwnB w' w.heap.size 5 A' (n+wd) c' (l ++ beBytes wd v.toNat)∧Ext w w':=by
 have k0:(0:Int) < (wd:Int):=by omega
 have k1:(wd:Int)≤8:=by omega
 have hv0:=un_nonneg v
 have HV1:=zh (un_lt v)
 have HS:=zh (h.ext ((Ext.refl w).alloc' (.cells #[] 5)))
 clear h
 go_enter Tryz.func143,Tryz.ntmps143
 go_wp2_with (at_builtin;go_must (refine wpList_appB bytesE rfl (.tmp 9) (.tmp 10) rfl w.heap.size _ 0 _ [] rfl (OwnB.made w w.heap.size #[] 0 _ rfl (Nat.le_refl _) (by omega) rfl) A n c l rfl HS.out (by omega) ((Ext.refl w).alloc' _).size w ((Ext.refl w).alloc' _) ?_))
 intro A1 c1 w1 hO1 hE1 hs1
 have HO1:=zh (show OwnB w1 w.heap.size 5 A1 n c1 l from by simpa using hO1)
 have HE1:=zh hE1
 clear hO1 hE1
 go_wp2_with fail
 go_loopw [7,8] (fun x i wr=>∃ (j:Nat) (A2:Option Addr) (c2:Nat),j≤wd∧i=.int .i64 ((j:Int) - 1)∧x=.slice A2 (n+(wd - j)) c2∧OwnB wr w.heap.size 5 A2 (n+(wd - j)) c2 (l ++ (beBytes wd v.toNat).take (wd - j))∧Ext w wr) (fun _ i _=>(intOf i+1).toNat)
 case atStart=>exact ⟨wd,A1,c1,Nat.le_refl _,rfl,by simp,by simpa using HO1.out,HE1.out⟩
 case round =>
  obtain ⟨j,A2,c2,hj,rfl,rfl,hO,hE⟩:=hrel
  have HO:=zh hO
  have HE:=zh hE
  clear hO hE
  by_cases hlt:0 < j
  ·obtain ⟨i, rfl⟩ : ∃ i, j = i + 1 := ⟨j - 1, by omega⟩
   obtain ⟨kk,hkk⟩:∃ kk,kk=i:=⟨_,rfl⟩
   have HB:=zh (beBytes_step wd v.toNat kk (by omega))
   have HKK:=zh hkk
   clear hkk
   obtain ⟨q,hq⟩:∃ q,q=wd - (i+1):=⟨_,rfl⟩
   rw [← hq] at HO ⊢
   have HQ:=zh (show q=wd - (kk+1) from by rw [HKK.out];exact hq)
   have hq8:q≤8:=by omega
   clear hq
   rw [show ((i+1:Nat):Int) - 1=(i:Int) from by omega]
   have hi7:i=0 ∨ i=1 ∨ i=2 ∨ i=3 ∨ i=4 ∨ i=5 ∨ i=6 ∨ i=7:=by omega
   rcases hi7 with rfl | rfl | rfl | rfl | rfl | rfl | rfl | rfl
   all_goals (
    go_wp2_with (at_builtin;go_must (refine wpList_appB bytesE rfl (.tmp 20) (.tmp 27) rfl w.heap.size A2 _ c2 _ rfl (HO.out.alloc _) _ 1 1 [toB _] rfl (SlB.new1 _ _ _ _ _ rfl (toB_eq _)) (by omega) (HE.out.alloc' _).size w (HE.out.alloc' _) ?_))
    intro A4 c4 w4 hO4 hE4 hs4
    have HO4:=zh (au_rel hO4 kk HQ.out HB.out (by have:=HKK.out;omega) (by rw [HKK.out];simp [un]))
    clear hO4
    go_wp2_with fail
    go_roundw
    case rel=>exact ⟨kk,A4,c4,by have:=HKK.out;omega,by rw [HKK.out];go_num,by have:=HKK.out;have:=HQ.out;congr 1;omega,HO4.out,hE4⟩
    case measure=>simp [intOf])
  obtain rfl:j=0:=by omega
  have i1:((0:Nat):Int) - 1 < 0:=by omega
  go_wp2_with fail
  go_ret
  exact ⟨A2,c2,by simp,by have:=HO.out;rwa [Nat.sub_zero,List.take_of_length_le (by rw [beBytes_length];omega)] at this,HE.out⟩
def beI (wd:Nat) (z:Int):List UInt8:=beBytes wd (z % 18446744073709551616).toNat
theorem beI_length (wd:Nat) (z:Int):(beI wd z).length=wd:=beBytes_length _ _
def uI (z:Int):UInt64:=UInt64.ofNat (z % 18446744073709551616).toNat
theorem uI_un (z:Int):IntKind.u64.wrap z=un (uI z):=by
 rw [IntKind.wrap_u64];unfold un uI;rw [UInt64.toNat_ofNat_of_lt' (by simp [UInt64.size];omega)];omega
theorem uI_nat (z:Int):(uI z).toNat=(z % 18446744073709551616).toNat:=by
 unfold uI;rw [UInt64.toNat_ofNat_of_lt' (by simp [UInt64.size];omega)]
theorem refNum_any (A:Option Addr) (n c:Nat) (l:List UInt8) (z:Int) (wd:Nat) (hwd1:1≤wd) (hwd:wd≤8) (w:World) (h:SlB w A n c l) (hn:n≤140737488351232) :
  Calls Tryz.prog 86 #[.slice A n c,.int .i64 z,.int .i64 (wd:Int)] w fun e w'=>∃ A' c',e=.returned (.slice A' (n+wd) c')∧OwnB w' w.heap.size 5 A' (n+wd) c' (l ++ beI wd z)∧Ext w w':=by
 have hu:=uI_un z
 have HA:=zh (refAppendUint_any A n c l (uI z) wd hwd1 hwd w h hn)
 rw [uI_nat] at HA
 generalize uI z=u at *
 clear h
 go_enter Tryz.func86,Tryz.ntmps86
 go_wp2_with fail
 refine HA.out.mono ?_
 rintro e w1 ⟨A1,c1,rfl,hO,hE⟩
 go_wp2_with fail
 go_ret
 exact ⟨A1,c1,rfl,hO,hE⟩
theorem refNm_any (A:Option Addr) (n c:Nat) (l:List UInt8) (v:UInt64) (w:World) (h:SlB w A n c l) (hn:n≤140737488351232) :
  Calls Tryz.prog 87 #[.slice A n c,.agg (nmc v)] w fun e w'=>∃ A' c',e=.returned (.slice A' (n+8) c')∧OwnB w' w.heap.size 5 A' (n+8) c' (l ++ nmb v)∧Ext w w':=by
 have hE0:=(Ext.refl w).alloc' (.cells (nmc v) 30)
 have HS:=zh (fun (W:World) (hW:Ext w W)=>h.ext hW)
 have HB:=zh (Blk.new w 30 (nmc v))
 have HE0:=zh hE0
 clear h hE0
 go_enter Tryz.func87,Tryz.ntmps87
 go_wp2_with fail
 go_region_law (first | (refine step_appBG bytesE rfl (.tmp 5) (.tmp 6) rfl (w.heap.size+1) (some ⟨w.heap.size+1,0,none⟩) 0 0 [] (by rfl) (OwnB.drew (OwnB.made (w.alloc (.cells (nmc v) 30)) (w.heap.size+1) #[] 0 (w.heap.size+1) (by simp) (Nat.le_refl _) (by omega) rfl)) A n c l (by rfl) (HS.out _ ((HE0.out.alloc' _).drew')) (by omega) (by simp) ?_;intro A5 c5 w5 hO5 hg5;have hE5:=below_grown (w0:=w.alloc (.cells (nmc v) 30)) (OwnB.drew (OwnB.made (w.alloc (.cells (nmc v) 30)) (w.heap.size+1) #[] 0 (w.heap.size+1) (by simp) (Nat.le_refl _) (by omega) rfl)) (((Below.refl _ _).alloc (by simp) _).drew) (by simp) hg5;have HO5:=zh (show OwnB w5 (w.heap.size+1) 5 A5 n c5 l from by simpa using hO5);have HE5:=zh hE5;have HS5:=zh (SlB.blkN (HB.out.below hE5 (by omega)));clear hO5 hE5 hg5) | (refine step_appBG bytesE rfl (.tmp 7) (.tmp 8) rfl (w.heap.size+1) A5 n c5 l (by rfl) HO5.out (some ⟨w.heap.size,0,none⟩) 8 8 (nmb v) (by rfl) HS5.out (by omega) (by have:=HE5.out.size;simpa using this) ?_;intro A6 c6 w6 hO6 hg6;have hE6:=below_grown HO5.out HE5.out (by have:=HE5.out.size;simpa using this) hg6;have HO6:=zh hO6;have HE6:=zh hE6;clear hO6 hg6 hE6))
 all_goals (
  go_wp2_with fail
  go_ret
  refine ⟨A6,c6,rfl,own_mono HO6.out (by omega),HE0.out.trans (HE6.out.mono (by simp))⟩)
theorem lapp_cons {α:Type} (a:α) (l m:List α):List.append (a :: l) m=a :: List.append l m:=rfl
theorem lapp_nil {α:Type} (m:List α):List.append [] m=m:=rfl
structure OpR where
 k:Int
 tO:Int
 am:Int
 ul:Int
 va:Int
 lk:UInt64
 hs:UInt64
 A1:Option Addr
 n1:Nat
 c1:Nat
 pre:List UInt8
 A2:Option Addr
 n2:Nat
 c2:Nat
 prf:List UInt8
abbrev opA (R:OpR):Array Value:=#[.int .i64 R.k,.int .i64 R.tO,.int .i64 R.am,.int .i64 R.ul,.int .i64 R.va,.int .u8 (nb8 R.lk 0),.int .u8 (nb8 R.lk 1),.int .u8 (nb8 R.lk 2),.int .u8 (nb8 R.lk 3),.int .u8 (nb8 R.lk 4),.int .u8 (nb8 R.lk 5),.int .u8 (nb8 R.lk 6),.int .u8 (nb8 R.lk 7),.int .u8 (nb8 R.hs 0),.int .u8 (nb8 R.hs 1),.int .u8 (nb8 R.hs 2),.int .u8 (nb8 R.hs 3),.int .u8 (nb8 R.hs 4),.int .u8 (nb8 R.hs 5),.int .u8 (nb8 R.hs 6),.int .u8 (nb8 R.hs 7),.slice R.A1 R.n1 R.c1,.slice R.A2 R.n2 R.c2]
structure OpR.ok (R:OpR) (w:World):Prop where
 pre:SlB w R.A1 R.n1 R.c1 R.pre
 prf:SlB w R.A2 R.n2 R.c2 R.prf
theorem OpR.ok.ext {R:OpR} {w w':World} (h:R.ok w) (e:Ext w w'):R.ok w':=⟨h.pre.ext e,h.prf.ext e⟩
def opL (R:OpR):List Value:=(opA R).toList
theorem opL_length (R:OpR):(opL R).length=23:=rfl
theorem opL_arr (R:OpR):(opL R).toArray=opA R:=rfl
theorem opL_one (R:OpR):∀ u ∈ opL R,u.oneCell'=true:=by
 intro u hu
 simp only [opL,List.mem_cons,List.not_mem_nil,or_false] at hu
 rcases hu with rfl | rfl | rfl | rfl | rfl | rfl | rfl | rfl | rfl | rfl | rfl | rfl | rfl | rfl | rfl | rfl | rfl | rfl | rfl | rfl | rfl | rfl | rfl <;> rfl
theorem opA_all (R:OpR):(opA R).all (·.oneCell')=true:=all_oneCell_toArray (opL_one R)
def ocs (L:List OpR):List Value:=L.flatMap opL
theorem ocs_nil:ocs []=[]:=rfl
theorem ocs_cons (x:OpR) (r:List OpR):ocs (x :: r)=opL x ++ ocs r:=by simp [ocs]
theorem ocs_append (a b:List OpR):ocs (a ++ b)=ocs a ++ ocs b:=by simp [ocs]
theorem ocs_length (L:List OpR):(ocs L).length=L.length * 23:=by
 induction L with
 | nil=>rfl
 | cons x r ih=>rw [ocs_cons,List.length_append,opL_length,ih,List.length_cons];omega
theorem ocs_drop (L:List OpR) (k:Nat):(ocs L).drop (k * 23)=ocs (L.drop k):=by
 induction k generalizing L with
 | zero=>simp
 | succ k ih =>
  cases L with
  | nil=>simp [ocs]
  | cons n r =>
   rw [ocs_cons,List.drop_succ_cons,← ih r,show (k+1) * 23=(opL n).length+k * 23 from by rw [opL_length];omega,List.drop_append,List.drop_of_length_le (by omega)]
   simp
def opR0:OpR:=⟨0,0,0,0,0,0,0,none,0,0,[],none,0,0,[]⟩
def nthO (L:List OpR) (k:Nat):OpR:=L.getD k opR0
theorem ocs_at {L:List OpR} {k:Nat} (h:k < L.length):((ocs L).drop (k * 23)).take 23=opL (nthO L k):=by
 have e:L[k]=nthO L k:=by simp [nthO,h]
 rw [ocs_drop,List.drop_eq_getElem_cons h,ocs_cons,List.take_append_of_le_length (by rw [opL_length];omega),List.take_of_length_le (by rw [opL_length];omega),e]
theorem take_nthO {L:List OpR} {k:Nat} (h:k < L.length):L.take (k+1)=L.take k ++ [nthO L k]:=by
 rw [List.take_succ_eq_append_getElem h]
 have e:L[k]=nthO L k:=by simp [nthO,h]
 rw [e]
theorem nthO_mem {L:List OpR} {k:Nat} (h:k < L.length):nthO L k ∈ L:=by
 have e:L[k]=nthO L k:=by simp [nthO,h]
 rw [← e];exact List.getElem_mem _
structure SlO (w:World) (A:Option Addr) (n c:Nat) (L:List OpR):Prop where
 len:L.length=n
 le:n≤c
 cap:c≤9223372036854775807
 rd:Rd w A (ocs L)
 ok:∀ R,R ∈ L→R.ok w
section
variable {w w':World} {A:Option Addr} {n c:Nat} {L:List OpR}
theorem SlO.ext (h:SlO w A n c L) (e:Ext w w'):SlO w' A n c L:=⟨h.len,h.le,h.cap,h.rd.ext e,fun R hR=>(h.ok R hR).ext e⟩
theorem SlO.at (h:SlO w A n c L) (hn:0 < n):∃ b o,A=some ⟨b,o,none⟩∧w.rangeAt b o (ocs L)∧b < w.heap.size :=
 h.rd.at (by intro e;have:=congrArg List.length e;rw [ocs_length,h.len] at this;simp at this;omega)
theorem SlO.nil (w:World):SlO w none 0 0 []:=⟨rfl,Nat.le_refl _,Nat.zero_le _,.nil,fun R hR=>by cases hR⟩
theorem SlO.nth (h:SlO w A n c L) {k:Nat} (hk:k < n):(nthO L k).ok w:=h.ok _ (nthO_mem (by rw [h.len];exact hk))
theorem op_at {b o k:Nat} (h:w.rangeAt b o (ocs L)) (hk:k < L.length):w.rangeAt b (o+k * 23) (opL (nthO L k)):=by
 have h1:=rT (k:=23) (rangeAt_drop (k:=k * 23) h)
 rwa [ocs_at hk] at h1
end
section
variable {o:Oper} {a:Act} {w:World} {ops:Array Oper} {rest:List Oper} {Q:Exit→Act→World→Prop}
theorem wpList_loadO (hgd:o.guard=none) (x:Operand) (ho:o.op=.load 69 x) (b of:Nat) (hx:a.eval x=.pointer (some ⟨b,of,none⟩)) (R:OpR) (hc:w.rangeAt b of (opL R))
  (h:wpList Tryz.prog ops Q rest (a.put o.dst (.agg (opA R))) w):wpList Tryz.prog ops Q (o :: rest) a w:=by
 have:=wpList_load_mid (P:=Tryz.prog) (Q:=Q) (ops:=ops) (rest:=rest) hgd 69 x ho b of hx (opL R) _ hc Tryz.underlying69 rfl (by rw [opL_length];kernel_rfl)
 rw [opL_arr] at this
 exact this h
end
section
variable {o:Oper} {a:Act} {w:World} {ops:Array Oper} {rest:List Oper} {Q:Exit→Act→World→Prop}
theorem wpList_newO (hgd:o.guard=none) (x y:Operand) (ho:o.op=.store 69 x y) (cs:Array Value) (hcs:cs.size=23) (R:OpR) (hx:a.eval x=.pointer (some ⟨w.heap.size,0,none⟩)) (hy:a.eval y=.agg (opA R))
  (h:wpList Tryz.prog ops Q rest (a.put o.dst undef) (w.alloc (.cells (opA R) 69))):wpList Tryz.prog ops Q (o :: rest) a (w.alloc (.cells cs 69)):=by
 have ht:=tB (Blk.new w 69 cs)
 rw [hcs] at ht
 refine wpList_store_mid hgd 69 x y ho w.heap.size 0 (opA R) hx hy ht (by kernel_rfl) (opA_all R) ?_
 rw [setCells_whole w 69 cs (opA R) (by rw [hcs];rfl)]
 exact h
theorem new_op (w:World) (R:OpR):(w.alloc (.cells (opA R) 69)).rangeAt w.heap.size 0 (opL R):=rB (Blk.new w 69 (opA R))
end
abbrev txA (ac sq:Int) (A:Option Addr) (n c:Nat):Array Value:=#[.int .i64 ac,.int .i64 sq,.slice A n c]
abbrev stA (ac sq:Int) (A:Option Addr) (n c:Nat) (S:Option Addr) (m d:Nat):Array Value:=#[.int .i64 ac,.int .i64 sq,.slice A n c,.slice S m d]
def usesK (k:Int):Int:=if k=1 then 5 else if k=2 then 29 else if k=3 then 101 else if k=4 then 37 else if k=5 then 6 else if k=6 then 130 else 0
def numU (used:Bool) (n lo hi:Int):Bool:=if used then decide (lo≤n∧n≤hi) else decide (n=0)
def fTo (k:Int):Bool:=decide (1≤k∧k≤4)
def fAm (k:Int):Bool:=decide (1≤k∧k≤5)
def fUl (k:Int):Bool:=decide (k=2)
def fVa (k:Int):Bool:=decide (5≤k∧k≤6)
def fPre (k:Int):Bool:=decide (k=3)
def fPrf (k:Int):Bool:=decide (k=6)
def fLk (k:Int):Bool:=decide (3≤k∧k≤4)
def vOp (R:OpR):Bool :=
 decide (1≤R.k∧R.k≤6) && (numU (fTo R.k) R.tO 0 15 && (numU (fAm R.k) R.am 1 1099511627776 && (numU (fUl R.k) R.ul 1 1000 && (numU (fVa R.k) R.va 0 9 && (numU (fPre R.k) (R.n1:Int) 0 32 && (numU (fPrf R.k) (R.n2:Int) 1 2000 && ((fUl R.k || decide (R.hs=0)) && (fLk R.k || decide (R.lk=0)))))))))
theorem usesK_no {k:Int} (h:¬ (1≤k∧k≤6)):usesK k=0:=by
 unfold usesK
 rw [if_neg (by omega),if_neg (by omega),if_neg (by omega),if_neg (by omega),if_neg (by omega),if_neg (by omega)]
@[go_sem] theorem band_5_1:bits .and .i64 5 1=1:=by decide
@[go_sem] theorem band_5_2:bits .and .i64 5 2=0:=by decide
@[go_sem] theorem band_5_4:bits .and .i64 5 4=4:=by decide
@[go_sem] theorem band_5_8:bits .and .i64 5 8=0:=by decide
@[go_sem] theorem band_5_16:bits .and .i64 5 16=0:=by decide
@[go_sem] theorem band_5_32:bits .and .i64 5 32=0:=by decide
@[go_sem] theorem band_5_64:bits .and .i64 5 64=0:=by decide
@[go_sem] theorem band_5_128:bits .and .i64 5 128=0:=by decide
@[go_sem] theorem band_29_1:bits .and .i64 29 1=1:=by decide
@[go_sem] theorem band_29_2:bits .and .i64 29 2=0:=by decide
@[go_sem] theorem band_29_4:bits .and .i64 29 4=4:=by decide
@[go_sem] theorem band_29_8:bits .and .i64 29 8=8:=by decide
@[go_sem] theorem band_29_16:bits .and .i64 29 16=16:=by decide
@[go_sem] theorem band_29_32:bits .and .i64 29 32=0:=by decide
@[go_sem] theorem band_29_64:bits .and .i64 29 64=0:=by decide
@[go_sem] theorem band_29_128:bits .and .i64 29 128=0:=by decide
@[go_sem] theorem band_101_1:bits .and .i64 101 1=1:=by decide
@[go_sem] theorem band_101_2:bits .and .i64 101 2=0:=by decide
@[go_sem] theorem band_101_4:bits .and .i64 101 4=4:=by decide
@[go_sem] theorem band_101_8:bits .and .i64 101 8=0:=by decide
@[go_sem] theorem band_101_16:bits .and .i64 101 16=0:=by decide
@[go_sem] theorem band_101_32:bits .and .i64 101 32=32:=by decide
@[go_sem] theorem band_101_64:bits .and .i64 101 64=64:=by decide
@[go_sem] theorem band_101_128:bits .and .i64 101 128=0:=by decide
@[go_sem] theorem band_37_1:bits .and .i64 37 1=1:=by decide
@[go_sem] theorem band_37_2:bits .and .i64 37 2=0:=by decide
@[go_sem] theorem band_37_4:bits .and .i64 37 4=4:=by decide
@[go_sem] theorem band_37_8:bits .and .i64 37 8=0:=by decide
@[go_sem] theorem band_37_16:bits .and .i64 37 16=0:=by decide
@[go_sem] theorem band_37_32:bits .and .i64 37 32=32:=by decide
@[go_sem] theorem band_37_64:bits .and .i64 37 64=0:=by decide
@[go_sem] theorem band_37_128:bits .and .i64 37 128=0:=by decide
@[go_sem] theorem band_6_1:bits .and .i64 6 1=0:=by decide
@[go_sem] theorem band_6_2:bits .and .i64 6 2=2:=by decide
@[go_sem] theorem band_6_4:bits .and .i64 6 4=4:=by decide
@[go_sem] theorem band_6_8:bits .and .i64 6 8=0:=by decide
@[go_sem] theorem band_6_16:bits .and .i64 6 16=0:=by decide
@[go_sem] theorem band_6_32:bits .and .i64 6 32=0:=by decide
@[go_sem] theorem band_6_64:bits .and .i64 6 64=0:=by decide
@[go_sem] theorem band_6_128:bits .and .i64 6 128=0:=by decide
@[go_sem] theorem band_130_1:bits .and .i64 130 1=0:=by decide
@[go_sem] theorem band_130_2:bits .and .i64 130 2=2:=by decide
@[go_sem] theorem band_130_4:bits .and .i64 130 4=0:=by decide
@[go_sem] theorem band_130_8:bits .and .i64 130 8=0:=by decide
@[go_sem] theorem band_130_16:bits .and .i64 130 16=0:=by decide
@[go_sem] theorem band_130_32:bits .and .i64 130 32=0:=by decide
@[go_sem] theorem band_130_64:bits .and .i64 130 64=0:=by decide
@[go_sem] theorem band_130_128:bits .and .i64 130 128=128:=by decide
theorem kind_cases (k:Int):k=1 ∨ k=2 ∨ k=3 ∨ k=4 ∨ k=5 ∨ k=6 ∨ ¬ (1≤k∧k≤6):=by omega
theorem uses_any (k:Int) (w:World):Calls Tryz.prog 141 #[.int .i64 k] w fun e w'=>e=.returned (.int .i64 (usesK k))∧w=w':=by
 rcases kind_cases k with rfl | rfl | rfl | rfl | rfl | rfl | h
 case inr.inr.inr.inr.inr.inr =>
  rw [usesK_no h]
  have d1:decide (k=1)=false:=decide_eq_false (by omega)
  have d2:decide (k=2)=false:=decide_eq_false (by omega)
  have d3:decide (k=3)=false:=decide_eq_false (by omega)
  have d4:decide (k=4)=false:=decide_eq_false (by omega)
  have d5:decide (k=5)=false:=decide_eq_false (by omega)
  have d6:decide (k=6)=false:=decide_eq_false (by omega)
  have e1:(k == 1)=false:=by simp;omega
  have e2:(k == 2)=false:=by simp;omega
  have e3:(k == 3)=false:=by simp;omega
  have e4:(k == 4)=false:=by simp;omega
  have e5:(k == 5)=false:=by simp;omega
  have e6:(k == 6)=false:=by simp;omega
  clear h
  go_enter Tryz.func141,Tryz.ntmps141
  go_wp2_with fail
  go_ret
  exact ⟨rfl,rfl⟩
 all_goals (
  go_enter Tryz.func141,Tryz.ntmps141
  go_wp2_with fail
  go_ret
  exact ⟨rfl,rfl⟩)
theorem tQ (u:Bool) (n lo hi:Int) (w:World):Calls Tryz.prog 142 #[.bool u,.int .i64 n,.int .i64 lo,.int .i64 hi] w fun e w'=>e=.returned (.bool (numU u n lo hi))∧w=w':=by
 cases u with
 | false =>
  have HV:=zh (show numU false n lo hi=decide (n=0) from rfl)
  by_cases h0:n=0
  ·subst h0
   go_enter Tryz.func142,Tryz.ntmps142
   go_wp2_with fail
   go_ret
   exact ⟨by rw [HV.out];rfl,rfl⟩
  have d1:decide (n=0)=false:=decide_eq_false h0
  have d2:(n == 0)=false:=by simp;omega
  have HW:=zh (show numU false n lo hi=false by rw [HV.out,d1])
  clear h0 HV
  go_enter Tryz.func142,Tryz.ntmps142
  go_wp2_with fail
  go_ret
  exact ⟨by rw [HW.out];rfl,rfl⟩
 | true =>
  by_cases h1:lo≤n
  ·by_cases h2 : n ≤ hi
   ·have HV := zh (show numU true n lo hi = true from decide_eq_true ⟨h1, h2⟩)
    go_enter Tryz.func142,Tryz.ntmps142
    go_wp2_with fail
    go_ret
    exact ⟨by rw [HV.out];rfl,rfl⟩
   have HV:=zh (show numU true n lo hi=false from decide_eq_false (by omega))
   have d2:decide (n≤hi)=false:=decide_eq_false h2
   clear h2
   go_enter Tryz.func142,Tryz.ntmps142
   go_wp2_with fail
   go_ret
   exact ⟨by rw [HV.out];rfl,rfl⟩
  have HV:=zh (show numU true n lo hi=false from decide_eq_false (by omega))
  have d1:decide (lo≤n)=false:=decide_eq_false h1
  clear h1
  go_enter Tryz.func142,Tryz.ntmps142
  go_wp2_with fail
  go_ret
  exact ⟨by rw [HV.out];rfl,rfl⟩
end
end Go.Proofs.YtohmmcahpakokaaGreat
