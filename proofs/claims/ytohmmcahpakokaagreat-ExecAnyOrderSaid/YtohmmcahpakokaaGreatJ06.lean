import Derived.Shelf.SlLaysF0
import Derived.Test.YtohmmcahpakokaaGreatProg
import Derived.Test.YtohmmcahpakokaaGreatJ05
set_option maxRecDepth 100000
set_option maxHeartbeats 8000000
set_option linter.unusedVariables false
set_option linter.unusedSimpArgs false
namespace Go.Proofs.YtohmmcahpakokaaGreat
section
open Go.RowKit
attribute [local go_sem ↓] Go.wp_at_zero Go.wp_at_succ
def iv (z:Int):Value:=.int .i64 z
def ics (l:List Int):List Value:=l.map iv
theorem aDw (l:List Int):(ics l).length=l.length:=by simp [ics]
theorem lO (a b:List Int):ics (a ++ b)=ics a ++ ics b:=by simp [ics]
theorem yB:Elem Tryz.prog 38 3 (.int .i64 0) 1 8:=⟨Tryz.underlying38,by kernel_rfl,rfl,by decide⟩
def dg (l:List UInt8):List Int:=l.flatMap fun c=>[((c.toNat / 16:Nat):Int),((c.toNat % 16:Nat):Int)]
def gK:List UInt8→Nat
 | []=>0
 | c :: r=>c.toNat / 16+c.toNat % 16+gK r
theorem aEw (l:List UInt8) (c:UInt8):dg (l ++ [c])=dg l ++ [((c.toNat / 16:Nat):Int),((c.toNat % 16:Nat):Int)]:=by simp [dg]
theorem aFJ (l:List UInt8):(dg l).length=2 * l.length:=by
 induction l with
 | nil=>rfl
 | cons c r ih=>simp only [dg,List.flatMap_cons,List.length_append,List.length_cons,List.length_nil] at *;omega
theorem sE (a b:List UInt8):gK (a ++ b)=gK a+gK b:=by
 induction a with
 | nil=>simp [gK]
 | cons c r ih=>simp [gK,ih];omega
theorem aAA (l:List UInt8):gK l≤30 * l.length:=by
 induction l with
 | nil=>simp [gK]
 | cons c r ih=>have:=c.toNat_lt;simp only [gK,List.length_cons];omega
def oT (m:UInt64):List Int:=dg (nmb m) ++ [(((240 - gK (nmb m)) / 16:Nat):Int),(((240 - gK (nmb m)) % 16:Nat):Int)]
theorem iU (m:UInt64):(oT m).length=18:=by simp [oT,aFJ,aG]
theorem aJK (c:UInt8):bits .and .u8 (c.toNat:Int) 15=((c.toNat % 16:Nat):Int):=by
 have h:=c.toNat_lt
 rw [show (15:Int)=((15:Nat):Int) from rfl,u8_and_nat _ _ h (by omega)]
 rw [show (15:Nat)=2 ^ 4 - 1 from rfl,Nat.and_two_pow_sub_one_eq_mod]
theorem uK (a:Nat) (ha:a < 9223372036854775808):(BitVec.ofInt 64 (a:Int)).toNat=a:=by
 rw [BitVec.ofInt_natCast,BitVec.toNat_ofNat];exact Nat.mod_eq_of_lt (by omega)
theorem aKE (a:Nat) (ha:a < 9223372036854775808):bits .and .i64 (a:Int) 15=((a % 16:Nat):Int):=by
 have hx:a &&& 15=a % 16:=by rw [show (15:Nat)=2 ^ 4 - 1 from rfl,Nat.and_two_pow_sub_one_eq_mod]
 show IntKind.i64.wrap ((BitVec.ofInt 64 (a:Int) &&& BitVec.ofInt 64 ((15:Nat):Int)).toNat:Int)=_
 rw [BitVec.toNat_and,uK a ha,uK 15 (by omega),IntKind.wrap_i64,hx]
 omega
theorem aKf (w:World):(Instr.makeSlice 38 (.int .i64 0) (.int .i64 18)).run Tryz.prog w=.ok (.slice (some ⟨w.heap.size,0,none⟩) 0 18) (w.alloc (.cells (madeCells (Value.int .i64 0).cells 18) 3)):=by
 obtain ⟨i,hi,hz,hs,hby⟩:=yB.get
 have h:=run_make (P:=Tryz.prog) w 38 3 i (.int .i64 0) yB.ut hi hz .i64 .i64 0 18 (by omega) (by omega) (by rw [hby];omega) (by omega)
 simpa [hs] using h
theorem Rd.new2 (w:World) (t:TypeId) (a b:Value) (g:Nat) (hg:w.heap.size=g):Rd (w.alloc (.cells #[a,b] t)) (some ⟨g,0,none⟩) [a,b]:=by subst hg;exact Rd.of_blk (Blk.new w t #[a,b])
theorem aDD (m:UInt64) (w:World) :
  Calls Tryz.prog 254 #[.agg (nmc m)] w fun e w'=>∃ g c,e=.returned (.slice (some ⟨g,0,none⟩) 18 c)∧w'.rangeAt g 0 (ics (oT m))∧w.heap.size≤g∧Ext w w':=by
 have hmk:=aKf
 have hl:=aG m
 go_enter Tryz.func254,Tryz.ntmps254
 go_wp2_with (refine wpList_load_row rfl 30 (.tmp 1) rfl _ rfl 30 _ (0,0) _ ((Blk.new w _ _).alloc _) Tryz.underlying30 rfl (eI m) ?_)
 go_loopw [3,4,11] (fun o s i wr=>∃ (k:Nat) (A:Option Addr) (c:Nat),k≤8∧i=.int .i64 (k:Int)∧s=.int .i64 ((240 - gK ((nmb m).take k):Nat):Int)∧o=.slice A (2 * k) c∧wr.ownsRow (w.heap.size+1) 3 1 (.slice A (2 * k) c) (2 * k) (ics (dg ((nmb m).take k)))∧Below (w.heap.size+1) (w.alloc (.cells (nmc m) 30)) wr∧w.heap.size+1≤wr.heap.size) (fun _ _ i _=>8 - (intOf i).toNat)
 case atStart=>exact ⟨0,_,_,by omega,rfl,rfl,rfl,aGG (w.alloc _) _ _ 18 _ (by simp) (Nat.le_refl _) (by omega) (by rw [size_madeCells]),Below.alloc (Below.refl _ _) (by simp) _,by simp⟩
 case round =>
  obtain ⟨k,A,c,hk,rfl,rfl,rfl,hO,hB,hsz⟩:=hrel
  have hd:gK ((nmb m).take k)≤30 * k:=by have:=aAA ((nmb m).take k);rw [List.length_take,hl] at this;omega
  by_cases hlt:k < 8
  ·have hix := jJ m k hlt
   have HT:=zh (mG (nmb m) k (by omega))
   have HD:Hid (gK ((nmb m).take (k+1))=gK ((nmb m).take k)+(((nmb m).getD k 0).toNat / 16+((nmb m).getD k 0).toNat % 16)):=zh (by rw [HT.out,sE];simp [gK])
   have HG:Hid (dg ((nmb m).take (k+1))=dg ((nmb m).take k) ++ [((((nmb m).getD k 0).toNat / 16:Nat):Int),((((nmb m).getD k 0).toNat % 16:Nat):Int)]):=zh (by rw [HT.out,aEw])
   clear HT
   have ha:=aJK ((nmb m).getD k 0)
   have hcb:=((nmb m).getD k 0).toNat_lt
   generalize (nmb m).getD k 0=b at *
   generalize gK ((nmb m).take k)=s at *
   generalize dg ((nmb m).take k)=d at *
   have hb16:b.toNat / 16+b.toNat % 16≤30:=by omega
   go_wp2_with (at_builtin;go_must (with_reducible refine fR yB rfl _ _ rfl (w.heap.size+1) _ _ _ _ rfl (hO.alloc _) _ _ _ _ rfl (Rd.new2 _ _ _ _ _ rfl) ?l1 ?h1 ?b1 ?c1 ?d1 (w.alloc (.cells (nmc m) 30)) ?w1 ?_))
   case l1=>rfl
   case h1=>simp [Value.oneCell']
   case b1=>omega
   case c1=>omega
   case d1=>simp;omega
   case w1=>exact Below.alloc hB hsz _
   intro A1 c1 w1 ho1 hw1 hs1
   go_wp2_with fail
   go_roundw
   case rel=>exact ⟨k+1,A1,c1,by omega,by go_num,by rw [HD.out];go_num,by go_num,by rw [HG.out,lO];exact ho1,hw1,by omega⟩
   case measure=>simp [intOf];omega
  obtain rfl:k=8:=by omega
  have HX:Hid (oT m=dg ((nmb m).take 8) ++ [(((240 - gK ((nmb m).take 8)) / 16:Nat):Int),(((240 - gK ((nmb m).take 8)) % 16:Nat):Int)]):=zh (by rw [List.take_of_length_le (by omega)];rfl)
  generalize gK ((nmb m).take 8)=s at *
  generalize dg ((nmb m).take 8)=d at *
  have ha:=aKE (240 - s) (by omega)
  obtain ⟨r,hr⟩:∃ r,r=240 - s:=⟨_,rfl⟩
  rw [← hr] at ha HX ⊢
  have hr2:r≤240:=by omega
  clear hr
  go_wp2_with (at_builtin;go_must (with_reducible refine fR yB rfl _ _ rfl (w.heap.size+1) _ _ _ _ rfl (hO.alloc _) _ _ _ _ rfl (Rd.new2 _ _ _ _ _ rfl) ?l1 ?h1 ?b1 ?c1 ?d1 (w.alloc (.cells (nmc m) 30)) ?w1 ?_))
  case l1=>rfl
  case h1=>simp [Value.oneCell']
  case b1=>omega
  case c1=>omega
  case d1=>simp;omega
  case w1=>exact Below.alloc hB hsz _
  intro A1 c1 w1 ho1 hw1 hs1
  have ho2:w1.ownsRow (w.heap.size+1) 3 1 (.slice A1 18 c1) 18 (ics (oT m)):=by rw [HX.out,lO];exact ho1
  obtain ⟨g,rfl,hg,hra⟩:=cF ho2 (by omega)
  clear ho1 ho2
  go_wp2_with fail
  go_ret
  exact ⟨g,c1,rfl,hra,by omega,((Ext.refl w).alloc' _).trans (by simpa [Ext] using hw1)⟩
theorem nQ (m:UInt64) (w:World) :
  Calls Tryz.prog 197 #[.agg (nmc m)] w fun e w'=>∃ g c,e=.returned (.slice (some ⟨g,0,none⟩) 18 c)∧w'.rangeAt g 0 (ics (oT m))∧w.heap.size≤g∧Ext w w':=by
 have hl:=aG m
 go_enter Tryz.func197,Tryz.ntmps197
 go_wp2_with fail
 go_loopw [3,4,5] (fun o s i wr=>∃ (k:Nat) (A:Option Addr) (c:Nat),k≤8∧i=.int .i64 (k:Int)∧s=.int .i64 ((240 - gK ((nmb m).take k):Nat):Int)∧o=.slice A (2 * k) c∧wr.ownsRow (w.heap.size+1) 3 1 (.slice A (2 * k) c) (2 * k) (ics (dg ((nmb m).take k)))∧Below (w.heap.size+1) (w.alloc (.cells (nmc m) 30)) wr∧w.heap.size+1≤wr.heap.size) (fun _ _ i _=>8 - (intOf i).toNat)
 case atStart=>exact ⟨0,_,_,by omega,rfl,rfl,rfl,World.ownsRow_nil _ _ _ _,Below.refl _ _,by simp⟩
 case round =>
  obtain ⟨k,A,c,hk,rfl,rfl,rfl,hO,hB,hsz⟩:=hrel
  have hd:gK ((nmb m).take k)≤30 * k:=by have:=aAA ((nmb m).take k);rw [List.length_take,hl] at this;omega
  have hBm:Blk wr w.heap.size 30 (nmc m):=(Blk.new w _ _).below hB (by simp)
  by_cases hlt:k < 8
  ·have hget := iI m k hlt
   have hcell:=(hBm.cell k).trans hget
   have hget':=zh hget
   clear hget
   have HT:=zh (mG (nmb m) k (by omega))
   have HD:Hid (gK ((nmb m).take (k+1))=gK ((nmb m).take k)+(((nmb m).getD k 0).toNat / 16+((nmb m).getD k 0).toNat % 16)):=zh (by rw [HT.out,sE];simp [gK])
   have HG:Hid (dg ((nmb m).take (k+1))=dg ((nmb m).take k) ++ [((((nmb m).getD k 0).toNat / 16:Nat):Int),((((nmb m).getD k 0).toNat % 16:Nat):Int)]):=zh (by rw [HT.out,aEw])
   clear HT
   have ha:=aJK ((nmb m).getD k 0)
   have hcb:=((nmb m).getD k 0).toNat_lt
   generalize (nmb m).getD k 0=b at *
   generalize gK ((nmb m).take k)=s at *
   generalize dg ((nmb m).take k)=d at *
   have hb16:b.toNat / 16+b.toNat % 16≤30:=by omega
   have hk8:(k:Int) < 8:=by omega
   go_wp2_with fail
   have hcl:w.heap.size < wr.heap.size:=hBm.lt
   have hO1:=(hO.alloc (.cells #[.int .i64 ((b.toNat:Int) / 16),.int .i64 ((b.toNat:Int) % 16)] 3))
   have hB1:=(Below.alloc hB hsz (.cells #[.int .i64 ((b.toNat:Int) / 16),.int .i64 ((b.toNat:Int) % 16)] 3)).drew
   have hR1:Rd (wr.alloc (.cells #[.int .i64 ((b.toNat:Int) / 16),.int .i64 ((b.toNat:Int) % 16)] 3)).drew (some ⟨wr.heap.size,0,none⟩) [.int .i64 ((b.toNat:Int) / 16),.int .i64 ((b.toNat:Int) % 16)]:=Rd.new2 _ _ _ _ _ rfl
   have hne:=World.new_ne wr ⟨w.heap.size,k,none⟩ hcell
   have q1:([.int .i64 ((b.toNat:Int) / 16),.int .i64 ((b.toNat:Int) % 16)]:List Value).length=2 * 1:=rfl
   have q2:∀ u ∈ ([.int .i64 ((b.toNat:Int) / 16),.int .i64 ((b.toNat:Int) % 16)]:List Value),u.oneCell'=true:=by simp [Value.oneCell']
   have q3:(2 * k+2) * 8≤140737488355328:=by omega
   have q4:2 * k+2≤4611686018427387904:=by omega
   have q5:w.heap.size+1≤(wr.alloc (.cells #[.int .i64 ((b.toNat:Int) / 16),.int .i64 ((b.toNat:Int) % 16)] 3)).drew.heap.size:=by simp;omega
   have hO2:(wr.alloc (.cells #[.int .i64 ((b.toNat:Int) / 16),.int .i64 ((b.toNat:Int) % 16)] 3)).drew.ownsRow (w.heap.size+1) 3 1 (.slice A (2 * k) c) (2 * k) (ics d):=hO1
   have Q1:=zh q1
   have Q2:=zh q2
   have Q5:=zh q5
   clear q1 q2 q5
   have wd:IntKind.i64.wrap ((b.toNat:Int) / 16)=(b.toNat:Int) / 16:=by rw [IntKind.wrap_i64];omega
   have wm:IntKind.i64.wrap ((b.toNat:Int) % 16)=(b.toNat:Int) % 16:=by rw [IntKind.wrap_i64];omega
   go_region_held3 (fun w'=>w'.cell? ⟨w.heap.size,k,none⟩=some (.int .u8 (b.toNat:Int))) (first | go_keep | (exact ((Blk.new w _ _).below hw1 (by simp)).cell k |>.trans hget'.out)) ((refine tJ yB rfl (.tmp 10) (.tmp 21) rfl (w.heap.size+1) A (2 * k) c (ics d) (by rfl) hO2 (some ⟨wr.heap.size,0,none⟩) 2 2 [.int .i64 ((b.toNat:Int) / 16),.int .i64 ((b.toNat:Int) % 16)] (by rfl) hR1 Q1.out Q2.out q3 q4 Q5.out (w.alloc (.cells (nmc m) 30)) hB1 ?_;intro A1 c1 w1 ho1 hw1 hs1))
   clear hcell hne hR1 hB1 hO1 hO2 Q1 Q2 Q5 q3 q4
   have hsz1:w.heap.size+1≤w1.heap.size:=by simp at hs1;omega
   have hBm1:Blk w1 w.heap.size 30 (nmc m):=(Blk.new w _ _).below hw1 (by simp)
   have hcell:=(hBm1.cell k).trans hget'.out
   have w1a:IntKind.i64.wrap (((240 - s:Nat):Int) - (b.toNat:Int) / 16)=((240 - s:Nat):Int) - (b.toNat:Int) / 16:=by rw [IntKind.wrap_i64];omega
   have w1b:IntKind.i64.wrap (((240 - s:Nat):Int) - (b.toNat:Int) / 16 - (b.toNat:Int) % 16)=((240 - s:Nat):Int) - (b.toNat:Int) / 16 - (b.toNat:Int) % 16:=by rw [IntKind.wrap_i64];omega
   go_wp2_with fail
   go_quiet (fail)
   go_wp2_with fail
   go_roundw
   case rel=>exact ⟨k+1,A1,c1,by omega,by go_num,by rw [HD.out];congr 1;omega,by go_num,by rw [HG.out,lO];exact ho1,below_drewN hw1 _,hsz1⟩
   case measure=>simp [intOf];omega
  obtain rfl:k=8:=by omega
  have HX:Hid (oT m=dg ((nmb m).take 8) ++ [(((240 - gK ((nmb m).take 8)) / 16:Nat):Int),(((240 - gK ((nmb m).take 8)) % 16:Nat):Int)]):=zh (by rw [List.take_of_length_le (by omega)];rfl)
  generalize gK ((nmb m).take 8)=s at *
  generalize dg ((nmb m).take 8)=d at *
  obtain ⟨r,hr⟩:∃ r,r=240 - s:=⟨_,rfl⟩
  rw [← hr] at HX ⊢
  have hr2:r≤240:=by omega
  clear hr
  go_wp2_with (at_builtin;go_must (with_reducible refine fR yB rfl _ _ rfl (w.heap.size+1) _ _ _ _ rfl (hO.alloc _) _ _ _ _ rfl (Rd.new2 _ _ _ _ _ rfl) ?l1 ?h1 ?b1 ?c1 ?d1 (w.alloc (.cells (nmc m) 30)) ?w1 ?_))
  case l1=>rfl
  case h1=>simp [Value.oneCell']
  case b1=>omega
  case c1=>omega
  case d1=>simp;omega
  case w1=>exact Below.alloc hB hsz _
  intro A1 c1 w1 ho1 hw1 hs1
  have ho2:w1.ownsRow (w.heap.size+1) 3 1 (.slice A1 18 c1) 18 (ics (oT m)):=by rw [HX.out,lO];exact ho1
  obtain ⟨g,rfl,hg,hra⟩:=cF ho2 (by omega)
  clear ho1 ho2
  go_wp2_with fail
  go_ret
  exact ⟨g,c1,rfl,hra,by omega,((Ext.refl w).alloc' _).trans (by simpa [Ext] using hw1)⟩
end
section
open Go.RowKit
def zbs (n:Nat):List Value:=List.replicate n (.int .u8 0)
theorem nY (n:Nat):(zbs n).length=n:=by simp [zbs]
theorem aDq (n:Nat):madeCells (Value.int .u8 0).cells (n * 1)=(zbs n).toArray:=by
 apply Array.ext_getElem?
 intro j
 simp only [madeCells,zbs,Nat.mul_one,Array.getElem?_map,Value.cells,List.getElem?_toArray,List.getElem?_replicate]
 by_cases hj:j < n
 ·simp [hj,Array.getElem?_range,Nat.mod_one]
 simp [hj]
theorem aMd (n k:Nat) (h:n+k≤140737488355328) (w:World):(Instr.makeSlice 45 (.int .i64 (n:Int)) (.int .i64 ((n:Int)+(k:Int)))).run Tryz.prog w=.ok (.slice (some ⟨w.heap.size,0,none⟩) n (n+k)) (w.alloc (.cells (zbs (n+k)).toArray 5)):=by
 obtain ⟨i,hi,hz,hs,hby⟩:=bI.get
 have h:=run_make (P:=Tryz.prog) w 45 5 i (.int .u8 0) bI.ut hi hz .i64 .i64 n ((n:Int)+k) (by omega) (by omega) (by rw [hby];omega) (by omega)
 rw [hs,show ((n:Int)+k).toNat=n+k from by omega,aDq,show ((n:Int)).toNat=n from by omega] at h
 exact h
theorem xU {w:World} {base g cap n:Nat} {e:TypeId} {l:List UInt8} {cur:Array Value} (hh:w.heap[g]?=some (.cells cur e (0,0))) (hb:base≤g) (hl:l.length=n) (hc:n≤cap) (hm:cap≤140737488355328) (hs:cur.size=cap) (ht:cur.toList.take n=bcs l):OwnB w base e (some ⟨g,0,none⟩) n cap l :=
 ⟨by rw [aJ,hl,Nat.mul_one],.inr ⟨g,cap,cur,rfl,hb,hh,hc,by simp only [maxLen];omega,by omega,by rw [Nat.mul_one];exact ht⟩⟩
theorem aAq (A:Option Addr) (n c:Nat) (l:List UInt8) (k:Nat) (w:World) (h:SlB w A n c l) (hk:n+k≤140737488355328) :
  Calls Tryz.prog 250 #[.slice A n c,.int .i64 (k:Int)] w fun e w'=>∃ A',e=.returned (.slice A' n (n+k))∧OwnB w' w.heap.size 5 A' n (n+k) l∧Ext w w':=by
 have hmk:=aMd n k hk
 have HL:=zh h.len
 have HR:=zh (h.rd.ext ((Ext.refl w).alloc' (.cells (zbs (n+k)).toArray 5)))
 clear h
 go_enter Tryz.func250,Tryz.ntmps250
 go_wp2_with (with_reducible refine wpList_copy_splice rfl _ _ _ _ rfl 5 Tryz.underlying45 (by kernel_rfl) _ _ _ _ _ _ rfl rfl w.heap.size 0 (zbs (n+k)) 5 (heap_alloc_new w _) (bcs l) ?c1 ?c2 ?c3 (dW l) w.heap.size w ((Ext.refl w).alloc' _) (Nat.le_refl _) ?_)
 case c1=>rw [aJ,HL.out];exact (Nat.min_self n).symm
 case c2=>exact fun hp=>HR.out.src hp
 case c3=>rw [aJ,nY,HL.out];omega
 intro w1 hb1 he1
 go_wp2_with fail
 go_ret
 exact ⟨_,rfl,xU hb1.out (Nat.le_refl _) HL.out (by omega) hk (by rw [List.size_toArray,length_splice _ _ _ (by rw [aJ,nY,HL.out];omega),nY]) (by simp [splice,aJ,HL.out]),he1⟩
theorem aCy (k n j:Nat) (hj:j < k):(cH k n)[j]'(by rw [cQ];exact hj)=UInt8.ofNat (n / 256 ^ (k - 1 - j) % 256):=by
 induction k generalizing n j with
 | zero=>omega
 | succ k ih =>
  simp only [cH]
  by_cases h:j < k
  ·rw [List.getElem_append_left (by rw [cQ];exact h),ih _ _ h,Nat.div_div_eq_div_mul,show k+1 - 1 - j=(k - 1 - j)+1 from by omega,Nat.pow_succ,Nat.mul_comm 256]
  obtain rfl:j=k:=by omega
  rw [List.getElem_append_right (by rw [cQ];omega)]
  simp [cQ]
theorem qM (k n i:Nat) (hi:i < k):(cH k n).take (k - i)=(cH k n).take (k - (i+1)) ++ [toB ((n:Int) / 2 ^ (8 * i))]:=by
 rw [show k - i=k - (i+1)+1 from by omega,List.take_succ_eq_append_getElem (by rw [cQ];omega),aCy _ _ _ (by omega)]
 congr 2
 rw [show k - 1 - (k - (i+1))=i from by omega,show (256:Nat)=2 ^ 8 from rfl,← Nat.pow_mul]
 unfold toB
 rw [show ((n:Int) / 2 ^ (8 * i))=((n / 2 ^ (8 * i):Nat):Int) from by simp]
 congr 1
theorem aHC {q wd n:Nat} {l:List UInt8} {v:UInt64} {A:Option Addr} {c:Nat} {w:World} {base:Nat} {e:TypeId} {z:Int} (h:OwnB w base e A (n+q+1) c (l ++ ((cH wd v.toNat).take q ++ [toB z]))) (kk:Nat) (hk:q=wd - (kk+1)) (hb:(cH wd v.toNat).take (wd - kk)=(cH wd v.toNat).take (wd - (kk+1)) ++ [toB ((v.toNat:Int) / 2 ^ (8 * kk))]) (hw:kk < wd) (hz:z=(v.toNat:Int) / 2 ^ (8 * kk)):OwnB w base e A (n+(wd - kk)) c (l ++ (cH wd v.toNat).take (wd - kk)):=by
 subst hk
 rw [hb,← hz,show n+(wd - kk)=n+(wd - (kk+1))+1 from by omega]
 exact h
theorem wA (A:Option Addr) (n c:Nat) (l:List UInt8) (v:UInt64) (wd:Nat) (hwd:wd≤8) (w:World) (h:SlB w A n c l) (hn:n≤140737488351232) :
  Calls Tryz.prog 220 #[.slice A n c,.int .u64 (un v),.int .i64 (wd:Int)] w fun e w'=>∃ A' c',e=.returned (.slice A' (n+wd) c')∧OwnB w' w.heap.size 5 A' (n+wd) c' (l ++ cH wd v.toNat)∧Ext w w':=by
 have k0:(0:Int)≤(wd:Int):=by omega
 have k1:(wd:Int)≤8:=by omega
 have hv0:=fD v
 have HV1:=zh (aJn v)
 have HS:=zh h
 clear h
 go_enter Tryz.func220,Tryz.ntmps220
 go_wp2_with fail
 refine (aAq A n c l wd _ HS.out (by omega)).mono ?_
 rintro e w1 ⟨A1,rfl,hO1,hE1⟩
 have HO1:=zh hO1
 have HE1:=zh hE1
 clear hO1 hE1
 go_wp2_with fail
 go_loopw [7,8] (fun x i wr=>∃ (j:Nat) (A2:Option Addr) (c2:Nat),j≤wd∧i=.int .i64 ((j:Int) - 1)∧x=.slice A2 (n+(wd - j)) c2∧OwnB wr w.heap.size 5 A2 (n+(wd - j)) c2 (l ++ (cH wd v.toNat).take (wd - j))∧Ext w wr) (fun _ i _=>(intOf i+1).toNat)
 case atStart=>exact ⟨wd,A1,n+wd,Nat.le_refl _,rfl,by simp,by simpa using HO1.out,HE1.out⟩
 case round =>
  obtain ⟨j,A2,c2,hj,rfl,rfl,hO,hE⟩:=hrel
  have HO:=zh hO
  have HE:=zh hE
  clear hO hE
  by_cases hlt:0 < j
  ·obtain ⟨i, rfl⟩ : ∃ i, j = i + 1 := ⟨j - 1, by omega⟩
   obtain ⟨kk,hkk⟩:∃ kk,kk=i:=⟨_,rfl⟩
   have HB:=zh (qM wd v.toNat kk (by omega))
   have HKK:=zh hkk
   clear hkk
   obtain ⟨q,hq⟩:∃ q,q=wd - (i+1):=⟨_,rfl⟩
   rw [← hq] at HO ⊢
   have HQ:=zh (show q=wd - (kk+1) from by rw [HKK.out];exact hq)
   have hq8:q≤8:=by omega
   clear hq
   rw [show ((i+1:Nat):Int) - 1=(i:Int) from by omega]
   have hi7:i=0 ∨ i=1 ∨ i=2 ∨ i=3 ∨ i=4 ∨ i=5 ∨ i=6 ∨ i=7:=by omega
   rcases hi7 with rfl | rfl | rfl | rfl | rfl | rfl | rfl | rfl
   all_goals (
    go_wp2_with (at_builtin;go_must (refine bZ bI rfl (.tmp 21) (.tmp 27) rfl w.heap.size A2 _ c2 _ rfl (HO.out.alloc _) _ 1 1 [toB _] rfl (SlB.new1 _ _ _ _ _ rfl (bT _)) (by omega) (HE.out.alloc' _).size w (HE.out.alloc' _) ?_))
    intro A4 c4 w4 hO4 hE4 hs4
    have HO4:=zh (aHC hO4 kk HQ.out HB.out (by have:=HKK.out;omega) (by rw [HKK.out];simp [un]))
    clear hO4
    go_wp2_with fail
    go_roundw
    case rel=>exact ⟨kk,A4,c4,by have:=HKK.out;omega,by rw [HKK.out];go_num,by have:=HKK.out;have:=HQ.out;congr 1;omega,HO4.out,hE4⟩
    case measure=>simp [intOf])
  obtain rfl:j=0:=by omega
  have i1:((0:Nat):Int) - 1 < 0:=by omega
  go_wp2_with fail
  go_ret
  exact ⟨A2,c2,by simp,by have:=HO.out;rwa [Nat.sub_zero,List.take_of_length_le (by rw [cQ];omega)] at this,HE.out⟩
end
section
open Go.Shelf
def tM:Go.Shelf.Ren:=⟨fun | 6=>64 | 15=>125 | 14=>124 | 28=>190 | 29=>191 | 20=>182 | 21=>183 | 22=>184 | 23=>185 | 24=>186 | 25=>187 | 26=>188 | 27=>189 | 46=>231 | 47=>232 | 48=>233 | 49=>234 | 50=>235 | 57=>253 | n=>n,fun | 22=>96 | 24=>32 | 25=>98 | 3=>3 | 39=>145 | 0=>0 | 53=>202 | 55=>148 | 4=>4 | 46=>196 | 45=>195 | 50=>165 | 5=>5 | 9=>9 | 66=>230 | 70=>234 | 76=>243 | 77=>244 | n=>n,fun | n=>n⟩
theorem aGu:Go.Proofs.SlLaysF0.n6 Tryz.prog tM:={
 mixed:=by kernel_rfl
 f6:=⟨Tryz.f64.name,by decide,Tryz.func64.trans (congrArg some (by kernel_rfl))⟩
 f14:=⟨Tryz.f124.name,by decide,Tryz.func124.trans (congrArg some (by kernel_rfl))⟩
 f15:=Tryz.func125.trans (congrArg some (by kernel_rfl))
 f20:=⟨Tryz.f182.name,by decide,Tryz.func182.trans (congrArg some (by kernel_rfl))⟩
 f21:=⟨Tryz.f183.name,by decide,Tryz.func183.trans (congrArg some (by kernel_rfl))⟩
 f22:=⟨Tryz.f184.name,by decide,Tryz.func184.trans (congrArg some (by kernel_rfl))⟩
 f23:=⟨Tryz.f185.name,by decide,Tryz.func185.trans (congrArg some (by kernel_rfl))⟩
 f24:=⟨Tryz.f186.name,by decide,Tryz.func186.trans (congrArg some (by kernel_rfl))⟩
 f25:=⟨Tryz.f187.name,by decide,Tryz.func187.trans (congrArg some (by kernel_rfl))⟩
 f26:=⟨Tryz.f188.name,by decide,Tryz.func188.trans (congrArg some (by kernel_rfl))⟩
 f27:=⟨Tryz.f189.name,by decide,Tryz.func189.trans (congrArg some (by kernel_rfl))⟩
 f28:=Tryz.func190.trans (congrArg some (by kernel_rfl))
 f29:=Tryz.func191.trans (congrArg some (by kernel_rfl))
 f46:=⟨Tryz.f231.name,by decide,Tryz.func231.trans (congrArg some (by kernel_rfl))⟩
 f47:=Tryz.func232.trans (congrArg some (by kernel_rfl))
 f48:=Tryz.func233.trans (congrArg some (by kernel_rfl))
 f49:=⟨Tryz.f234.name,by decide,Tryz.func234.trans (congrArg some (by kernel_rfl))⟩
 f50:=⟨Tryz.f235.name,by decide,Tryz.func235.trans (congrArg some (by kernel_rfl))⟩
 f57:=⟨Tryz.f253.name,by decide,Tryz.func253.trans (congrArg some (by kernel_rfl))⟩
 t0:=Tryz.underlying0
 a0:=Tryz.isAgg0
 z0:=Tryz.sizeOf0
 v0:=Tryz.zeroValue0
 t3:=Tryz.underlying3
 a3:=Tryz.isAgg3
 z3:=Tryz.sizeOf3
 v3:=Tryz.zeroValue3
 t4:=Tryz.underlying4
 a4:=Tryz.isAgg4
 z4:=Tryz.sizeOf4
 v4:=Tryz.zeroValue4
 t5:=Tryz.underlying5
 a5:=Tryz.isAgg5
 z5:=Tryz.sizeOf5
 v5:=Tryz.zeroValue5
 t9:=Tryz.underlying9
 a9:=Tryz.isAgg9
 z9:=Tryz.sizeOf9
 v9:=Tryz.zeroValue9
 t22:=Tryz.underlying96
 a22:=Tryz.isAgg96
 z22:=Tryz.sizeOf96
 v22:=Tryz.zeroValue96
 t25:=Tryz.underlying98
 a25:=Tryz.isAgg98
 z25:=Tryz.sizeOf98
 v25:=Tryz.zeroValue98
 t39:=Tryz.underlying145
 a39:=Tryz.isAgg145
 z39:=Tryz.sizeOf145
 v39:=Tryz.zeroValue145
 t45:=Tryz.underlying195
 a45:=Tryz.isAgg195
 z45:=Tryz.sizeOf195
 v45:=Tryz.zeroValue195
 t46:=Tryz.underlying196
 a46:=Tryz.isAgg196
 z46:=Tryz.sizeOf196
 v46:=Tryz.zeroValue196
 t50:=Tryz.underlying165
 a50:=Tryz.isAgg165
 z50:=Tryz.sizeOf165
 v50:=Tryz.zeroValue165
 t53:=Tryz.underlying202
 a53:=Tryz.isAgg202
 z53:=Tryz.sizeOf202
 v53:=Tryz.zeroValue202
 t55:=Tryz.underlying148
 a55:=Tryz.isAgg148
 z55:=Tryz.sizeOf148
 v55:=Tryz.zeroValue148
 t66:=Tryz.underlying230
 a66:=Tryz.isAgg230
 z66:=Tryz.sizeOf230
 v66:=Tryz.zeroValue230
 t70:=Tryz.underlying234
 a70:=Tryz.isAgg234
 z70:=Tryz.sizeOf234
 v70:=Tryz.zeroValue234
 t76:=Tryz.underlying243
 a76:=Tryz.isAgg243
 z76:=Tryz.sizeOf243
 v76:=Tryz.zeroValue243
 t77:=Tryz.underlying244
 a77:=Tryz.isAgg244
 z77:=Tryz.sizeOf244
 v77:=Tryz.zeroValue244 }
end
section
open Go.RowKit
attribute [local go_sem ↓] Go.wp_at_zero Go.wp_at_succ
theorem kY (w:World) (B i:Nat) (u:Value):w.grownBy (w.setCell ⟨B,i,none⟩ u) (some B) :=
 ⟨rfl,rfl,rfl,by simp [World.setCell],fun k _ hk=>Below.heap_setCell _ _ _ _ (fun e=>hk (by rw [e]))⟩
theorem aDy (w:World) (row:Option Nat):w.grownBy w row:=⟨rfl,rfl,rfl,Nat.le_refl _,fun _ _ _=>rfl⟩
variable {D:Nat}
variable {D:Nat}
theorem sT:zcs.toArray=nmc 0:=by
 unfold nmc;rw [aBC];rfl
theorem aC (w:World) (g:Nat):∀ (vs:List Value) (o:Nat),w.grownBy (w.setCells g o vs) (some g):=by
 intro vs
 induction vs generalizing w with
 | nil=>intro o;exact aDy w _
 | cons v r ih=>intro o;exact World.grownBy.trans (kY w g o v) (ih _ (o+1))
theorem eM (w:World) (n:Nat):Ext w (w.drewN n):=⟨rfl,rfl,rfl,Nat.le_refl _,fun _ _=>rfl⟩
theorem fP {w:World} {g:Nat} {t:TypeId} (h:Blk w g t zcs.toArray):Blk (w.setCells g 0 zcs) g t (nmc 0):=by
 have:=blkN h 0
 rwa [← sT] at this ⊢
variable {D:Nat}
theorem xS {fn:Func} {p q:Tmp} {ty:TypeId} (hres:fn.results=#[.cell p ty,.tmp q]) (tmps:Array Value) (w1:World) (g:Nat) (cs:Array Value) (v:Value) (hp:tmps.getD p undef=.pointer (some ⟨g,0,none⟩)) (hq:tmps.getD q undef=v) (hl:(loadVar ty ⟨g,0,none⟩).run Tryz.prog w1=.ok (.agg cs) w1) :
  (results fn tmps).run Tryz.prog w1=.ok (.tuple #[.agg cs,v]) w1:=by
 have hp':tmps[p]?.getD undef=.pointer (some ⟨g,0,none⟩):=by simpa using hp
 have hq':tmps[q]?.getD undef=v:=by simpa using hq
 simp [results,hres,hp',hq',asAddr,hl]
theorem fF (n:UInt64):bcs (nmb n)=[.int .u8 (nb8 n 0),.int .u8 (nb8 n 1),.int .u8 (nb8 n 2),.int .u8 (nb8 n 3),.int .u8 (nb8 n 4),.int .u8 (nb8 n 5),.int .u8 (nb8 n 6),.int .u8 (nb8 n 7)]:=by
 rw [← bF,← gH]
end
end Go.Proofs.YtohmmcahpakokaaGreat
