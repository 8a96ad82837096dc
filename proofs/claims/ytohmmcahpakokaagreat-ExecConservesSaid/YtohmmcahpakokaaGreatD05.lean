import Derived.ProofKit
import Derived.OpenShut
import Derived.Deep.Slices
import Derived.Test.YtohmmcahpakokaaGreatD04
set_option maxRecDepth 100000
set_option maxHeartbeats 8000000
set_option linter.unusedVariables false
set_option linter.unusedSimpArgs false
namespace Go.Proofs.YtohmmcahpakokaaGreat
section
open Go.RowKit
attribute [local go_sem ↓] Go.wp_at_zero Go.wp_at_succ
def iv (z:Int):Value:=.int .i64 z
def ics (l:List Int):List Value:=l.map iv
theorem ics_length (l:List Int):(ics l).length=l.length:=by simp [ics]
theorem ics_append (a b:List Int):ics (a ++ b)=ics a ++ ics b:=by simp [ics]
theorem intsE:Elem Tryz.prog 38 3 (.int .i64 0) 1 8:=⟨Tryz.underlying38,by kernel_rfl,rfl,by decide⟩
def dg (l:List UInt8):List Int:=l.flatMap fun c=>[((c.toNat / 16:Nat):Int),((c.toNat % 16:Nat):Int)]
def dsum:List UInt8→Nat
 | []=>0
 | c :: r=>c.toNat / 16+c.toNat % 16+dsum r
theorem dg_snoc (l:List UInt8) (c:UInt8):dg (l ++ [c])=dg l ++ [((c.toNat / 16:Nat):Int),((c.toNat % 16:Nat):Int)]:=by simp [dg]
theorem dg_length (l:List UInt8):(dg l).length=2 * l.length:=by
 induction l with
 | nil=>rfl
 | cons c r ih=>simp only [dg,List.flatMap_cons,List.length_append,List.length_cons,List.length_nil] at *;omega
theorem dsum_append (a b:List UInt8):dsum (a ++ b)=dsum a+dsum b:=by
 induction a with
 | nil=>simp [dsum]
 | cons c r ih=>simp [dsum,ih];omega
theorem dsum_le (l:List UInt8):dsum l≤30 * l.length:=by
 induction l with
 | nil=>simp [dsum]
 | cons c r ih=>have:=c.toNat_lt;simp only [dsum,List.length_cons];omega
def digs (m:UInt64):List Int:=dg (nmb m) ++ [(((240 - dsum (nmb m)) / 16:Nat):Int),(((240 - dsum (nmb m)) % 16:Nat):Int)]
theorem digs_length (m:UInt64):(digs m).length=18:=by simp [digs,dg_length,nL]
theorem and15 (c:UInt8):bits .and .u8 (c.toNat:Int) 15=((c.toNat % 16:Nat):Int):=by
 have h:=c.toNat_lt
 rw [show (15:Int)=((15:Nat):Int) from rfl,u8_and_nat _ _ h (by omega)]
 rw [show (15:Nat)=2 ^ 4 - 1 from rfl,Nat.and_two_pow_sub_one_eq_mod]
theorem ofInt_i64' (a:Nat) (ha:a < 9223372036854775808):(BitVec.ofInt 64 (a:Int)).toNat=a:=by
 rw [BitVec.ofInt_natCast,BitVec.toNat_ofNat];exact Nat.mod_eq_of_lt (by omega)
theorem and15i (a:Nat) (ha:a < 9223372036854775808):bits .and .i64 (a:Int) 15=((a % 16:Nat):Int):=by
 have hx:a &&& 15=a % 16:=by rw [show (15:Nat)=2 ^ 4 - 1 from rfl,Nat.and_two_pow_sub_one_eq_mod]
 show IntKind.i64.wrap ((BitVec.ofInt 64 (a:Int) &&& BitVec.ofInt 64 ((15:Nat):Int)).toNat:Int)=_
 rw [BitVec.toNat_and,ofInt_i64' a ha,ofInt_i64' 15 (by omega),IntKind.wrap_i64,hx]
 omega
theorem hmkI18 (w:World):(Instr.makeSlice 38 (.int .i64 0) (.int .i64 18)).run Tryz.prog w=.ok (.slice (some ⟨w.heap.size,0,none⟩) 0 18) (w.alloc (.cells (madeCells (Value.int .i64 0).cells 18) 3)):=by
 obtain ⟨i,hi,hz,hs,hby⟩:=intsE.get
 have h:=run_make (P:=Tryz.prog) w 38 3 i (.int .i64 0) intsE.ut hi hz .i64 .i64 0 18 (by omega) (by omega) (by rw [hby];omega) (by omega)
 simpa [hs] using h
theorem Rd.new2 (w:World) (t:TypeId) (a b:Value) (g:Nat) (hg:w.heap.size=g):Rd (w.alloc (.cells #[a,b] t)) (some ⟨g,0,none⟩) [a,b]:=by subst hg;exact Rd.of_blk (Blk.new w t #[a,b])
theorem digits_any (m:UInt64) (w:World) :
  Calls Tryz.prog 254 #[.agg (nmc m)] w fun e w'=>∃ g c,e=.returned (.slice (some ⟨g,0,none⟩) 18 c)∧w'.rangeAt g 0 (ics (digs m))∧w.heap.size≤g∧Ext w w':=by
 have hmk:=hmkI18
 have hl:=nL m
 go_enter Tryz.func254,Tryz.ntmps254
 go_wp2_with (refine wpList_load_row rfl 30 (.tmp 1) rfl _ rfl 30 _ (0,0) _ ((Blk.new w _ _).alloc _) Tryz.underlying30 rfl (size61 m) ?_)
 go_loopw [3,4,11] (fun o s i wr=>∃ (k:Nat) (A:Option Addr) (c:Nat),k≤8∧i=.int .i64 (k:Int)∧s=.int .i64 ((240 - dsum ((nmb m).take k):Nat):Int)∧o=.slice A (2 * k) c∧wr.ownsRow (w.heap.size+1) 3 1 (.slice A (2 * k) c) (2 * k) (ics (dg ((nmb m).take k)))∧Below (w.heap.size+1) (w.alloc (.cells (nmc m) 30)) wr∧w.heap.size+1≤wr.heap.size) (fun _ _ i _=>8 - (intOf i).toNat)
 case atStart=>exact ⟨0,_,_,by omega,rfl,rfl,rfl,own_made (w.alloc _) _ _ 18 _ (by simp) (Nat.le_refl _) (by omega) (by rw [size_madeCells]),Below.alloc (Below.refl _ _) (by simp) _,by simp⟩
 case round =>
  obtain ⟨k,A,c,hk,rfl,rfl,rfl,hO,hB,hsz⟩:=hrel
  have hd:dsum ((nmb m).take k)≤30 * k:=by have:=dsum_le ((nmb m).take k);rw [List.length_take,hl] at this;omega
  by_cases hlt:k < 8
  ·have hix := run_index_name m k hlt
   have HT:=zh (take_get (nmb m) k (by omega))
   have HD:Hid (dsum ((nmb m).take (k+1))=dsum ((nmb m).take k)+(((nmb m).getD k 0).toNat / 16+((nmb m).getD k 0).toNat % 16)):=zh (by rw [HT.out,dsum_append];simp [dsum])
   have HG:Hid (dg ((nmb m).take (k+1))=dg ((nmb m).take k) ++ [((((nmb m).getD k 0).toNat / 16:Nat):Int),((((nmb m).getD k 0).toNat % 16:Nat):Int)]):=zh (by rw [HT.out,dg_snoc])
   clear HT
   have ha:=and15 ((nmb m).getD k 0)
   have hcb:=((nmb m).getD k 0).toNat_lt
   generalize (nmb m).getD k 0=b at *
   generalize dsum ((nmb m).take k)=s at *
   generalize dg ((nmb m).take k)=d at *
   have hb16:b.toNat / 16+b.toNat % 16≤30:=by omega
   go_wp2_with (at_builtin;go_must (with_reducible refine wpList_app intsE rfl _ _ rfl (w.heap.size+1) _ _ _ _ rfl (hO.alloc _) _ _ _ _ rfl (Rd.new2 _ _ _ _ _ rfl) ?l1 ?h1 ?b1 ?c1 ?d1 (w.alloc (.cells (nmc m) 30)) ?w1 ?_))
   case l1=>rfl
   case h1=>simp [Value.oneCell']
   case b1=>omega
   case c1=>omega
   case d1=>simp;omega
   case w1=>exact Below.alloc hB hsz _
   intro A1 c1 w1 ho1 hw1 hs1
   go_wp2_with fail
   go_roundw
   case rel=>exact ⟨k+1,A1,c1,by omega,by go_num,by rw [HD.out];go_num,by go_num,by rw [HG.out,ics_append];exact ho1,hw1,by omega⟩
   case measure=>simp [intOf];omega
  obtain rfl:k=8:=by omega
  have HX:Hid (digs m=dg ((nmb m).take 8) ++ [(((240 - dsum ((nmb m).take 8)) / 16:Nat):Int),(((240 - dsum ((nmb m).take 8)) % 16:Nat):Int)]):=zh (by rw [List.take_of_length_le (by omega)];rfl)
  generalize dsum ((nmb m).take 8)=s at *
  generalize dg ((nmb m).take 8)=d at *
  have ha:=and15i (240 - s) (by omega)
  obtain ⟨r,hr⟩:∃ r,r=240 - s:=⟨_,rfl⟩
  rw [← hr] at ha HX ⊢
  have hr2:r≤240:=by omega
  clear hr
  go_wp2_with (at_builtin;go_must (with_reducible refine wpList_app intsE rfl _ _ rfl (w.heap.size+1) _ _ _ _ rfl (hO.alloc _) _ _ _ _ rfl (Rd.new2 _ _ _ _ _ rfl) ?l1 ?h1 ?b1 ?c1 ?d1 (w.alloc (.cells (nmc m) 30)) ?w1 ?_))
  case l1=>rfl
  case h1=>simp [Value.oneCell']
  case b1=>omega
  case c1=>omega
  case d1=>simp;omega
  case w1=>exact Below.alloc hB hsz _
  intro A1 c1 w1 ho1 hw1 hs1
  have ho2:w1.ownsRow (w.heap.size+1) 3 1 (.slice A1 18 c1) 18 (ics (digs m)):=by rw [HX.out,ics_append];exact ho1
  obtain ⟨g,rfl,hg,hra⟩:=own_at ho2 (by omega)
  clear ho1 ho2
  go_wp2_with fail
  go_ret
  exact ⟨g,c1,rfl,hra,by omega,((Ext.refl w).alloc' _).trans (by simpa [Ext] using hw1)⟩
theorem refDigits_any (m:UInt64) (w:World) :
  Calls Tryz.prog 197 #[.agg (nmc m)] w fun e w'=>∃ g c,e=.returned (.slice (some ⟨g,0,none⟩) 18 c)∧w'.rangeAt g 0 (ics (digs m))∧w.heap.size≤g∧Ext w w':=by
 have hl:=nL m
 go_enter Tryz.func197,Tryz.ntmps197
 go_wp2_with fail
 go_loopw [3,4,5] (fun o s i wr=>∃ (k:Nat) (A:Option Addr) (c:Nat),k≤8∧i=.int .i64 (k:Int)∧s=.int .i64 ((240 - dsum ((nmb m).take k):Nat):Int)∧o=.slice A (2 * k) c∧wr.ownsRow (w.heap.size+1) 3 1 (.slice A (2 * k) c) (2 * k) (ics (dg ((nmb m).take k)))∧Below (w.heap.size+1) (w.alloc (.cells (nmc m) 30)) wr∧w.heap.size+1≤wr.heap.size) (fun _ _ i _=>8 - (intOf i).toNat)
 case atStart=>exact ⟨0,_,_,by omega,rfl,rfl,rfl,World.ownsRow_nil _ _ _ _,Below.refl _ _,by simp⟩
 case round =>
  obtain ⟨k,A,c,hk,rfl,rfl,rfl,hO,hB,hsz⟩:=hrel
  have hd:dsum ((nmb m).take k)≤30 * k:=by have:=dsum_le ((nmb m).take k);rw [List.length_take,hl] at this;omega
  have hBm:Blk wr w.heap.size 30 (nmc m):=(Blk.new w _ _).below hB (by simp)
  by_cases hlt:k < 8
  ·have hget := nmc_get m k hlt
   have hcell:=(hBm.cell k).trans hget
   have hget':=zh hget
   clear hget
   have HT:=zh (take_get (nmb m) k (by omega))
   have HD:Hid (dsum ((nmb m).take (k+1))=dsum ((nmb m).take k)+(((nmb m).getD k 0).toNat / 16+((nmb m).getD k 0).toNat % 16)):=zh (by rw [HT.out,dsum_append];simp [dsum])
   have HG:Hid (dg ((nmb m).take (k+1))=dg ((nmb m).take k) ++ [((((nmb m).getD k 0).toNat / 16:Nat):Int),((((nmb m).getD k 0).toNat % 16:Nat):Int)]):=zh (by rw [HT.out,dg_snoc])
   clear HT
   have ha:=and15 ((nmb m).getD k 0)
   have hcb:=((nmb m).getD k 0).toNat_lt
   generalize (nmb m).getD k 0=b at *
   generalize dsum ((nmb m).take k)=s at *
   generalize dg ((nmb m).take k)=d at *
   have hb16:b.toNat / 16+b.toNat % 16≤30:=by omega
   have hk8:(k:Int) < 8:=by omega
   go_wp2_with fail
   have hcl:w.heap.size < wr.heap.size:=hBm.lt
   have hO1:=(hO.alloc (.cells #[.int .i64 ((b.toNat:Int) / 16),.int .i64 ((b.toNat:Int) % 16)] 3))
   have hB1:=(Below.alloc hB hsz (.cells #[.int .i64 ((b.toNat:Int) / 16),.int .i64 ((b.toNat:Int) % 16)] 3)).drew
   have hR1:Rd (wr.alloc (.cells #[.int .i64 ((b.toNat:Int) / 16),.int .i64 ((b.toNat:Int) % 16)] 3)).drew (some ⟨wr.heap.size,0,none⟩) [.int .i64 ((b.toNat:Int) / 16),.int .i64 ((b.toNat:Int) % 16)]:=Rd.new2 _ _ _ _ _ rfl
   have hne:=World.new_ne wr ⟨w.heap.size,k,none⟩ hcell
   have q1:([.int .i64 ((b.toNat:Int) / 16),.int .i64 ((b.toNat:Int) % 16)]:List Value).length=2 * 1:=rfl
   have q2:∀ u ∈ ([.int .i64 ((b.toNat:Int) / 16),.int .i64 ((b.toNat:Int) % 16)]:List Value),u.oneCell'=true:=by simp [Value.oneCell']
   have q3:(2 * k+2) * 8≤140737488355328:=by omega
   have q4:2 * k+2≤4611686018427387904:=by omega
   have q5:w.heap.size+1≤(wr.alloc (.cells #[.int .i64 ((b.toNat:Int) / 16),.int .i64 ((b.toNat:Int) % 16)] 3)).drew.heap.size:=by simp;omega
   have hO2:(wr.alloc (.cells #[.int .i64 ((b.toNat:Int) / 16),.int .i64 ((b.toNat:Int) % 16)] 3)).drew.ownsRow (w.heap.size+1) 3 1 (.slice A (2 * k) c) (2 * k) (ics d):=hO1
   have Q1:=zh q1
   have Q2:=zh q2
   have Q5:=zh q5
   clear q1 q2 q5
   have wd:IntKind.i64.wrap ((b.toNat:Int) / 16)=(b.toNat:Int) / 16:=by rw [IntKind.wrap_i64];omega
   have wm:IntKind.i64.wrap ((b.toNat:Int) % 16)=(b.toNat:Int) % 16:=by rw [IntKind.wrap_i64];omega
   go_region_held3 (fun w'=>w'.cell? ⟨w.heap.size,k,none⟩=some (.int .u8 (b.toNat:Int))) (first | go_keep | (exact ((Blk.new w _ _).below hw1 (by simp)).cell k |>.trans hget'.out)) ((refine step_app intsE rfl (.tmp 10) (.tmp 21) rfl (w.heap.size+1) A (2 * k) c (ics d) (by rfl) hO2 (some ⟨wr.heap.size,0,none⟩) 2 2 [.int .i64 ((b.toNat:Int) / 16),.int .i64 ((b.toNat:Int) % 16)] (by rfl) hR1 Q1.out Q2.out q3 q4 Q5.out (w.alloc (.cells (nmc m) 30)) hB1 ?_;intro A1 c1 w1 ho1 hw1 hs1))
   clear hcell hne hR1 hB1 hO1 hO2 Q1 Q2 Q5 q3 q4
   have hsz1:w.heap.size+1≤w1.heap.size:=by simp at hs1;omega
   have hBm1:Blk w1 w.heap.size 30 (nmc m):=(Blk.new w _ _).below hw1 (by simp)
   have hcell:=(hBm1.cell k).trans hget'.out
   have w1a:IntKind.i64.wrap (((240 - s:Nat):Int) - (b.toNat:Int) / 16)=((240 - s:Nat):Int) - (b.toNat:Int) / 16:=by rw [IntKind.wrap_i64];omega
   have w1b:IntKind.i64.wrap (((240 - s:Nat):Int) - (b.toNat:Int) / 16 - (b.toNat:Int) % 16)=((240 - s:Nat):Int) - (b.toNat:Int) / 16 - (b.toNat:Int) % 16:=by rw [IntKind.wrap_i64];omega
   go_wp2_with fail
   go_quiet (fail)
   go_wp2_with fail
   go_roundw
   case rel=>exact ⟨k+1,A1,c1,by omega,by go_num,by rw [HD.out];congr 1;omega,by go_num,by rw [HG.out,ics_append];exact ho1,below_drewN hw1 _,hsz1⟩
   case measure=>simp [intOf];omega
  obtain rfl:k=8:=by omega
  have HX:Hid (digs m=dg ((nmb m).take 8) ++ [(((240 - dsum ((nmb m).take 8)) / 16:Nat):Int),(((240 - dsum ((nmb m).take 8)) % 16:Nat):Int)]):=zh (by rw [List.take_of_length_le (by omega)];rfl)
  generalize dsum ((nmb m).take 8)=s at *
  generalize dg ((nmb m).take 8)=d at *
  obtain ⟨r,hr⟩:∃ r,r=240 - s:=⟨_,rfl⟩
  rw [← hr] at HX ⊢
  have hr2:r≤240:=by omega
  clear hr
  go_wp2_with (at_builtin;go_must (with_reducible refine wpList_app intsE rfl _ _ rfl (w.heap.size+1) _ _ _ _ rfl (hO.alloc _) _ _ _ _ rfl (Rd.new2 _ _ _ _ _ rfl) ?l1 ?h1 ?b1 ?c1 ?d1 (w.alloc (.cells (nmc m) 30)) ?w1 ?_))
  case l1=>rfl
  case h1=>simp [Value.oneCell']
  case b1=>omega
  case c1=>omega
  case d1=>simp;omega
  case w1=>exact Below.alloc hB hsz _
  intro A1 c1 w1 ho1 hw1 hs1
  have ho2:w1.ownsRow (w.heap.size+1) 3 1 (.slice A1 18 c1) 18 (ics (digs m)):=by rw [HX.out,ics_append];exact ho1
  obtain ⟨g,rfl,hg,hra⟩:=own_at ho2 (by omega)
  clear ho1 ho2
  go_wp2_with fail
  go_ret
  exact ⟨g,c1,rfl,hra,by omega,((Ext.refl w).alloc' _).trans (by simpa [Ext] using hw1)⟩
def flw (len at_ n:Int):Bool:=decide (0≤at_∧at_≤len∧n≤len - at_)
theorem codFollow_any (A:Option Addr) (len c:Nat) (at_ n:Int) (w:World) (hl:len≤9223372036854775807) :
  Calls Tryz.prog 240 #[.slice A len c,.int .i64 at_,.int .i64 n] w fun e w'=>e=.returned (.bool (flw len at_ n))∧w=w':=by
 by_cases h1:0≤at_
 ·by_cases h2 : at_ ≤ (len : Int)
  ·by_cases h3 : n ≤ (len : Int) - at_
   ·have hf : flw len at_ n = true := by unfold flw; simp only [decide_eq_true_eq]; exact ⟨h1, h2, h3⟩
    rw [hf];clear hf
    go_enter Tryz.func240,Tryz.ntmps240
    go_wp2_with fail
    go_ret
    exact ⟨rfl,rfl⟩
   have hf:flw len at_ n=false:=by unfold flw;simp only [decide_eq_false_iff_not];omega
   have h3':decide (n≤(len:Int) - at_)=false:=decide_eq_false h3
   rw [hf];clear hf
   go_enter Tryz.func240,Tryz.ntmps240
   go_wp2_with fail
   go_ret
   exact ⟨rfl,rfl⟩
  have hf:flw len at_ n=false:=by unfold flw;simp only [decide_eq_false_iff_not];omega
  have h2':decide (at_≤(len:Int))=false:=decide_eq_false h2
  rw [hf];clear hf
  go_enter Tryz.func240,Tryz.ntmps240
  go_wp2_with fail
  go_ret
  exact ⟨rfl,rfl⟩
 have hf:flw len at_ n=false:=by unfold flw;simp only [decide_eq_false_iff_not];omega
 have h1':decide (0≤at_)=false:=decide_eq_false h1
 rw [hf];clear hf
 go_enter Tryz.func240,Tryz.ntmps240
 go_wp2_with fail
 go_ret
 exact ⟨rfl,rfl⟩
theorem or_byte' (a:Nat) (c:UInt8) (ha:a < 72057594037927936):bits .or .u64 (IntKind.u64.wrap ((a:Int) * 256)) (c.toNat:Int)=((a * 256+c.toNat:Nat):Int):=or_byte a c ha
theorem pow_le7 (a k:Nat) (h:a < 256 ^ k) (hk:k < 8):a < 72057594037927936:=Nat.lt_of_lt_of_le h (Nat.pow_le_pow_right (n:=256) (j:=7) (by omega) (by omega))
def numAt (l:List UInt8) (at_ width:Nat):Nat:=beNat ((l.drop at_).take width)
theorem uint_yes (A:Option Addr) (n c:Nat) (l:List UInt8) (at_ width:Nat) (w:World) (h:SlB w A n c l) (h1:1≤width) (h8:width≤8) (hf:at_+width≤n) :
  Calls Tryz.prog 203 #[.slice A n c,.int .i64 (at_:Int),.int .i64 (width:Int)] w fun e w'=>e=.returned (.tuple #[.int .u64 (numAt l at_ width:Int),.bool true])∧w=w':=by
 have hle:=h.le
 have hcap:=h.cap
 have hlen:=h.len
 have e1:decide ((width:Int) < 1)=false:=decide_eq_false (by omega)
 have e2:decide ((8:Int) < (width:Int))=false:=decide_eq_false (by omega)
 have hfl:flw n at_ width=true:=by unfold flw;simp only [decide_eq_true_eq];omega
 have b1:¬ c=at_:=by omega
 obtain ⟨b,o,rfl,hra,hbl⟩:=h.at (by omega)
 go_enter Tryz.func203,Tryz.ntmps203
 go_wp2_with (go_at_call 240;refine (codFollow_any _ _ _ _ _ _ (by omega)).mono ?_;rintro e w1 ⟨rfl,rfl⟩;rw [hfl])
 go_loop [8,31] (fun v i=>∃ k:Nat,k≤width∧i=.int .i64 (k:Int)∧v=.int .u64 ((numAt l at_ k:Nat):Int)) (fun _ i=>width - (intOf i).toNat)
 case atStart=>exact ⟨0,by omega,rfl,by simp [numAt,beNat]⟩
 case round =>
  obtain ⟨k,hk,rfl,rfl⟩:=hrel
  by_cases hlt:k < width
  ·have hcell := byte_at hra (at_ + k) (by omega)
   rw [← Nat.add_assoc] at hcell
   have hd:(l.drop at_)[k]'(by simp;omega)=l[at_+k]'(by omega):=by simp
   have HS:=zh (show numAt l at_ (k+1)=numAt l at_ k * 256+(l[at_+k]'(by omega)).toNat by unfold numAt;rw [take_at _ _ (by simp;omega),beNat_snoc,hd])
   have hor:=or_byte' (numAt l at_ k) (l[at_+k]'(by omega)) (pow_le7 _ k (beNat_take_lt _ _ (by simp;omega)) (by omega))
   clear hd
   generalize numAt l at_ k=a at *
   generalize (l[at_+k]'(by omega))=x at *
   go_wp2_with fail
   go_round
   case rel=>exact ⟨k+1,by omega,by go_num,by rw [HS.out];go_num⟩
   case measure=>simp [intOf];omega
  obtain rfl:k=width:=by omega
  go_wp2_with fail
  go_ret2
  exact ⟨rfl,rfl⟩
theorem uint_no (A:Option Addr) (n c:Nat) (at_ width:Int) (w:World) (hn:n≤9223372036854775807) (h1:1≤width) (h8:width≤8) (hf:flw n at_ width=false) :
  Calls Tryz.prog 203 #[.slice A n c,.int .i64 at_,.int .i64 width] w fun e w'=>e=.returned (.tuple #[.int .u64 0,.bool false])∧w=w':=by
 have e1:decide (width < 1)=false:=decide_eq_false (by omega)
 have e2:decide (8 < width)=false:=decide_eq_false (by omega)
 go_enter Tryz.func203,Tryz.ntmps203
 go_wp2_with (go_at_call 240;refine (codFollow_any _ _ _ _ _ _ (by omega)).mono ?_;rintro e w1 ⟨rfl,rfl⟩;rw [hf])
 go_ret2
 exact ⟨rfl,rfl⟩
theorem leaf_yes (A:Option Addr) (n c:Nat) (l:List UInt8) (w:World) (h:SlB w A n c l) (h2:2≤n) :
  Calls Tryz.prog 146 #[.slice A n c] w fun e w'=>e=.returned (.tuple #[.int .i64 (numAt l 0 2:Int),.bool true])∧w=w':=by
 have hb:numAt l 0 2 < 65536:=beNat_take_lt _ 2 (by simp;have:=h.len;omega)
 have hw:IntKind.i64.wrap ((numAt l 0 2:Nat):Int)=((numAt l 0 2:Nat):Int):=by rw [IntKind.wrap_i64];omega
 have hu:=zh (uint_yes A n c l 0 2 w h (by omega) (by omega) (by omega))
 generalize numAt l 0 2=x at *
 go_enter Tryz.func146,Tryz.ntmps146
 go_wp2_with fail
 refine hu.out.mono ?_
 rintro e w1 ⟨rfl,rfl⟩
 go_wp2_with fail
 go_ret2
 exact ⟨rfl,rfl⟩
theorem leaf_no (A:Option Addr) (n c:Nat) (w:World) (h2:n < 2) :
  Calls Tryz.prog 146 #[.slice A n c] w fun e w'=>e=.returned (.tuple #[.int .i64 0,.bool false])∧w=w':=by
 have hu:=zh (uint_no A n c 0 2 w (by omega) (by omega) (by omega) (by unfold flw;simp only [decide_eq_false_iff_not];omega))
 go_enter Tryz.func146,Tryz.ntmps146
 go_wp2_with fail
 refine hu.out.mono ?_
 rintro e w1 ⟨rfl,rfl⟩
 go_wp2_with fail
 go_ret2
 exact ⟨rfl,rfl⟩
end
section
open Go.RowKit
def capZ (n:Int):Int:=if n=2 then 1024 else if n=1 then 32 else 0
def sizeZ (n:Int):Int:=if n=2 then 370 else if n=1 then 186 else 0
theorem capacity_any (n:Int) (w:World) :
  Calls Tryz.prog 201 #[.int .i64 n] w fun e w'=>e=.returned (.int .i64 (capZ n))∧w=w':=by
 by_cases h2:n=2
 ·subst h2
  go_enter Tryz.func201,Tryz.ntmps201
  go_wp2
  go_ret
  exact ⟨rfl,rfl⟩
 by_cases h1:n=1
 ·subst h1
  go_enter Tryz.func201,Tryz.ntmps201
  go_wp2
  go_ret
  exact ⟨rfl,rfl⟩
 have e:capZ n=0:=by simp [capZ,h1,h2]
 have b2:(n == 2)=false:=by simp [h2]
 have b1:(n == 1)=false:=by simp [h1]
 rw [e];clear e h1 h2
 go_enter Tryz.func201,Tryz.ntmps201
 go_wp2
 go_ret
 exact ⟨rfl,rfl⟩
theorem size_any (n:Int) (w:World) :
  Calls Tryz.prog 200 #[.int .i64 n] w fun e w'=>e=.returned (.int .i64 (sizeZ n))∧w=w':=by
 by_cases h2:n=2
 ·subst h2
  go_enter Tryz.func200,Tryz.ntmps200
  go_wp2
  go_ret
  exact ⟨rfl,rfl⟩
 by_cases h1:n=1
 ·subst h1
  go_enter Tryz.func200,Tryz.ntmps200
  go_wp2
  go_ret
  exact ⟨rfl,rfl⟩
 have e:sizeZ n=0:=by simp [sizeZ,h1,h2]
 have b2:(n == 2)=false:=by simp [h2]
 have b1:(n == 1)=false:=by simp [h1]
 rw [e];clear e h1 h2
 go_enter Tryz.func200,Tryz.ntmps200
 go_wp2
 go_ret
 exact ⟨rfl,rfl⟩
end
section
open Go.RowKit
attribute [local go_sem ↓] Go.wp_at_zero Go.wp_at_succ
theorem grown_set (w:World) (B i:Nat) (u:Value):w.grownBy (w.setCell ⟨B,i,none⟩ u) (some B) :=
 ⟨rfl,rfl,rfl,by simp [World.setCell],fun k _ hk=>Below.heap_setCell _ _ _ _ (fun e=>hk (by rw [e]))⟩
theorem grown_refl (w:World) (row:Option Nat):w.grownBy w row:=⟨rfl,rfl,rfl,Nat.le_refl _,fun _ _ _=>rfl⟩
variable {D:Nat}
variable {D:Nat}
theorem zcs_nmc:zcs.toArray=nmc 0:=by
 unfold nmc;rw [nmb_zero];rfl
theorem gS (w:World) (g:Nat):∀ (vs:List Value) (o:Nat),w.grownBy (w.setCells g o vs) (some g):=by
 intro vs
 induction vs generalizing w with
 | nil=>intro o;exact grown_refl w _
 | cons v r ih=>intro o;exact World.grownBy.trans (grown_set w g o v) (ih _ (o+1))
theorem drewN_ext (w:World) (n:Nat):Ext w (w.drewN n):=⟨rfl,rfl,rfl,Nat.le_refl _,fun _ _=>rfl⟩
theorem blk_zero {w:World} {g:Nat} {t:TypeId} (h:Blk w g t zcs.toArray):Blk (w.setCells g 0 zcs) g t (nmc 0):=by
 have:=blkN h 0
 rwa [← zcs_nmc] at this ⊢
end
section
open Go.RowKit
def litB (c:UInt8):Lit:=.int .u8 (c.toNat:Int)
theorem litB_wf (c:UInt8):(Lit.int .u8 (c.toNat:Int)).wf=true:=by
 have:=c.toNat_lt
 simp [Lit.wf,IntKind.min,IntKind.max,IntKind.signed,IntKind.bits];omega
theorem keyByte (c:UInt8):Tryz.prog.keyLits 1 5 [.int .u8 (c.toNat:Int)]=some [litB c]:=by
 unfold Program.keyLits
 rw [Tryz.underlying5]
 simp only
 rw [if_pos ⟨trivial,litB_wf c⟩];rfl
theorem cellsU8':Tryz.prog.cellsOf 5=1:=by kernel_rfl
theorem cellsN:Tryz.prog.cellsOf 30=8:=by kernel_rfl
theorem keyName (n:UInt64):Tryz.prog.keyLits 2 30 (bcs (nmb n))=some ((nmb n).map litB):=by
 unfold Program.keyLits
 rw [Tryz.underlying30]
 simp only
 rw [if_pos (by rw [bL,nL,cellsN]),cellsU8']
 rw [nmb_list n]
 generalize (nmb n).getD 0 0=x0
 generalize (nmb n).getD 1 0=x1
 generalize (nmb n).getD 2 0=x2
 generalize (nmb n).getD 3 0=x3
 generalize (nmb n).getD 4 0=x4
 generalize (nmb n).getD 5 0=x5
 generalize (nmb n).getD 6 0=x6
 generalize (nmb n).getD 7 0=x7
 rw [show List.range 8=[0,1,2,3,4,5,6,7] from rfl]
 simp only [bcs,bv,List.map_cons,List.map_nil,List.mapM_cons,List.mapM_nil,Nat.zero_mul,Nat.one_mul,Nat.mul_one,List.drop_zero,List.drop_succ_cons,List.take_succ_cons,List.take_zero,keyByte]
 rfl
theorem litB_inj {a b:UInt64} (h:(nmb a).map litB=(nmb b).map litB):a=b:=by
 refine nmb_inj ?_
 have hf:∀ x y:UInt8,litB x=litB y→x=y:=fun x y e=>by
  unfold litB at e;injection e with _ e;exact UInt8.toNat_inj.1 (by omega)
 exact List.map_inj_right hf |>.1 h
theorem run_eqN (a b:UInt64) (w:World):(binOp .eql 30 (.agg (nmc a)) (.agg (nmc b))).run Tryz.prog w=.ok (.bool (decide (a=b))) w:=by
 have hE:=run_equalIn_deep (P:=Tryz.prog) 9998 2 30 (by kernel_rfl)
 have hfm:∀ n:UInt64,(Value.agg (nmc n)).formed Tryz.prog 30=true:=fun n=>by
  simp [Value.formed,Tryz.underlying30,nmc_size,cellsN]
 have hk:∀ n:UInt64,Tryz.prog.keyLits 2 30 (Value.agg (nmc n)).cells.toList=some ((nmb n).map litB):=fun n=>by
  show Tryz.prog.keyLits 2 _ (nmc n).toList=_
  rw [nmc_toList];exact keyName n
 obtain ⟨r,hr,hiff⟩:=hE w 2 2 _ _ _ _ (hfm a) (hfm b) (hk a) (hk b)
 rw [run_eql_struct]
 have hr':(Op.equalIn 10000 30 (.agg (nmc a)) (.agg (nmc b))).run Tryz.prog w=.ok r w:=hr
 rw [hr']
 have:r=decide (a=b):=by
  by_cases h:a=b
  ·subst h;simp [hiff.2 rfl]
  have:r ≠ true:=fun e=>h (litB_inj (hiff.1 e))
  simp [h,this]
 rw [this];rfl
end
end Go.Proofs.YtohmmcahpakokaaGreat
