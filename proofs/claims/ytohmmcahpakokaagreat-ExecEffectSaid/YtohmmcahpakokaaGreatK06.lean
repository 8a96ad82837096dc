import Derived.Test.YtohmmcahpakokaaGreatK05
set_option maxRecDepth 100000
set_option maxHeartbeats 8000000
set_option linter.unusedVariables false
set_option linter.unusedSimpArgs false
namespace Go.Proofs.YtohmmcahpakokaaGreat
open Go.RowKit
attribute [local go_sem ↓] Go.wp_at_zero Go.wp_at_succ
def iv (z:Int):Value:=.int .i64 z
def ics (l:List Int):List Value:=l.map iv
theorem ics_length (l:List Int):(ics l).length=l.length:=by simp [ics]
theorem ics_append (a b:List Int):ics (a ++ b)=ics a ++ ics b:=by simp [ics]
theorem intsE:Elem Tryz.prog 38 3 (.int .i64 0) 1 8:=⟨Tryz.underlying38,by kernel_rfl,rfl,by decide⟩
def dg (l:List UInt8):List Int:=l.flatMap fun c=>[((c.toNat / 16:Nat):Int),((c.toNat % 16:Nat):Int)]
def dsum:List UInt8→Nat
 | []=>0
 | c :: r=>c.toNat / 16+c.toNat % 16+dsum r
theorem dg_snoc (l:List UInt8) (c:UInt8):dg (l ++ [c])=dg l ++ [((c.toNat / 16:Nat):Int),((c.toNat % 16:Nat):Int)]:=by simp [dg]
theorem dg_length (l:List UInt8):(dg l).length=2 * l.length:=by
 induction l with
 | nil=>rfl
 | cons c r ih=>simp only [dg,List.flatMap_cons,List.length_append,List.length_cons,List.length_nil] at *;omega
theorem dsum_append (a b:List UInt8):dsum (a ++ b)=dsum a+dsum b:=by
 induction a with
 | nil=>simp [dsum]
 | cons c r ih=>simp [dsum,ih];omega
theorem dsum_le (l:List UInt8):dsum l≤30 * l.length:=by
 induction l with
 | nil=>simp [dsum]
 | cons c r ih=>have:=c.toNat_lt;simp only [dsum,List.length_cons];omega
def digs (m:UInt64):List Int:=dg (nmb m) ++ [(((240 - dsum (nmb m)) / 16:Nat):Int),(((240 - dsum (nmb m)) % 16:Nat):Int)]
theorem digs_length (m:UInt64):(digs m).length=18:=by simp [digs,dg_length,nmb_length]
theorem and15 (c:UInt8):bits .and .u8 (c.toNat:Int) 15=((c.toNat % 16:Nat):Int):=by
 have h:=c.toNat_lt
 rw [show (15:Int)=((15:Nat):Int) from rfl,u8_and_nat _ _ h (by omega)]
 rw [show (15:Nat)=2 ^ 4 - 1 from rfl,Nat.and_two_pow_sub_one_eq_mod]
theorem ofInt_i64' (a:Nat) (ha:a < 9223372036854775808):(BitVec.ofInt 64 (a:Int)).toNat=a:=by
 rw [BitVec.ofInt_natCast,BitVec.toNat_ofNat];exact Nat.mod_eq_of_lt (by omega)
theorem and15i (a:Nat) (ha:a < 9223372036854775808):bits .and .i64 (a:Int) 15=((a % 16:Nat):Int):=by
 have hx:a &&& 15=a % 16:=by rw [show (15:Nat)=2 ^ 4 - 1 from rfl,Nat.and_two_pow_sub_one_eq_mod]
 show IntKind.i64.wrap ((BitVec.ofInt 64 (a:Int) &&& BitVec.ofInt 64 ((15:Nat):Int)).toNat:Int)=_
 rw [BitVec.toNat_and,ofInt_i64' a ha,ofInt_i64' 15 (by omega),IntKind.wrap_i64,hx]
 omega
theorem hmkI18 (w:World):(Instr.makeSlice 38 (.int .i64 0) (.int .i64 18)).run Tryz.prog w=.ok (.slice (some ⟨w.heap.size,0,none⟩) 0 18) (w.alloc (.cells (madeCells (Value.int .i64 0).cells 18) 3)):=by
 obtain ⟨i,hi,hz,hs,hby⟩:=intsE.get
 have h:=run_make (P:=Tryz.prog) w 38 3 i (.int .i64 0) intsE.ut hi hz .i64 .i64 0 18 (by omega) (by omega) (by rw [hby];omega) (by omega)
 simpa [hs] using h
theorem Rd.new2 (w:World) (t:TypeId) (a b:Value) (g:Nat) (hg:w.heap.size=g):Rd (w.alloc (.cells #[a,b] t)) (some ⟨g,0,none⟩) [a,b]:=by subst hg;exact Rd.of_blk (Blk.new w t #[a,b])
theorem digits_any (m:UInt64) (w:World) :
  Calls Tryz.prog 254 #[.agg (nmc m)] w fun e w'=>∃ g c,e=.returned (.slice (some ⟨g,0,none⟩) 18 c)∧w'.rangeAt g 0 (ics (digs m))∧w.heap.size≤g∧Ext w w':=by
 have hmk:=hmkI18
 have hl:=nmb_length m
 go_enter Tryz.func254,Tryz.ntmps254
 go_wp2_with (refine wpList_load_row rfl 30 (.tmp 1) rfl _ rfl 30 _ (0,0) _ ((Blk.new w _ _).alloc _) Tryz.underlying30 rfl (size61 m) ?_)
 go_loopw [3,4,11] (fun o s i wr=>∃ (k:Nat) (A:Option Addr) (c:Nat),k≤8∧i=.int .i64 (k:Int)∧s=.int .i64 ((240 - dsum ((nmb m).take k):Nat):Int)∧o=.slice A (2 * k) c∧wr.ownsRow (w.heap.size+1) 3 1 (.slice A (2 * k) c) (2 * k) (ics (dg ((nmb m).take k)))∧Below (w.heap.size+1) (w.alloc (.cells (nmc m) 30)) wr∧w.heap.size+1≤wr.heap.size) (fun _ _ i _=>8 - (intOf i).toNat)
 case atStart=>exact ⟨0,_,_,by omega,rfl,rfl,rfl,own_made (w.alloc _) _ _ 18 _ (by simp) (Nat.le_refl _) (by omega) (by rw [size_madeCells]),Below.alloc (Below.refl _ _) (by simp) _,by simp⟩
 case round =>
  obtain ⟨k,A,c,hk,rfl,rfl,rfl,hO,hB,hsz⟩:=hrel
  have hd:dsum ((nmb m).take k)≤30 * k:=by have:=dsum_le ((nmb m).take k);rw [List.length_take,hl] at this;omega
  by_cases hlt:k < 8
  ·have hix := run_index_name m k hlt
   have HT:=zh (take_get (nmb m) k (by omega))
   have HD:Hid (dsum ((nmb m).take (k+1))=dsum ((nmb m).take k)+(((nmb m).getD k 0).toNat / 16+((nmb m).getD k 0).toNat % 16)):=zh (by rw [HT.out,dsum_append];simp [dsum])
   have HG:Hid (dg ((nmb m).take (k+1))=dg ((nmb m).take k) ++ [((((nmb m).getD k 0).toNat / 16:Nat):Int),((((nmb m).getD k 0).toNat % 16:Nat):Int)]):=zh (by rw [HT.out,dg_snoc])
   clear HT
   have ha:=and15 ((nmb m).getD k 0)
   have hcb:=((nmb m).getD k 0).toNat_lt
   generalize (nmb m).getD k 0=b at *
   generalize dsum ((nmb m).take k)=s at *
   generalize dg ((nmb m).take k)=d at *
   have hb16:b.toNat / 16+b.toNat % 16≤30:=by omega
   go_wp2_with (at_builtin;go_must (with_reducible refine wpList_app intsE rfl _ _ rfl (w.heap.size+1) _ _ _ _ rfl (hO.alloc _) _ _ _ _ rfl (Rd.new2 _ _ _ _ _ rfl) ?l1 ?h1 ?b1 ?c1 ?d1 (w.alloc (.cells (nmc m) 30)) ?w1 ?_))
   case l1=>rfl
   case h1=>simp [Value.oneCell']
   case b1=>omega
   case c1=>omega
   case d1=>simp;omega
   case w1=>exact Below.alloc hB hsz _
   intro A1 c1 w1 ho1 hw1 hs1
   go_wp2_with fail
   go_roundw
   case rel=>exact ⟨k+1,A1,c1,by omega,by go_num,by rw [HD.out];go_num,by go_num,by rw [HG.out,ics_append];exact ho1,hw1,by omega⟩
   case measure=>simp [intOf];omega
  ·obtain rfl : k = 8 := by omega
   have HX:Hid (digs m=dg ((nmb m).take 8) ++ [(((240 - dsum ((nmb m).take 8)) / 16:Nat):Int),(((240 - dsum ((nmb m).take 8)) % 16:Nat):Int)]):=zh (by rw [List.take_of_length_le (by omega)];rfl)
   generalize dsum ((nmb m).take 8)=s at *
   generalize dg ((nmb m).take 8)=d at *
   have ha:=and15i (240 - s) (by omega)
   obtain ⟨r,hr⟩:∃ r,r=240 - s:=⟨_,rfl⟩
   rw [← hr] at ha HX ⊢
   have hr2:r≤240:=by omega
   clear hr
   go_wp2_with (at_builtin;go_must (with_reducible refine wpList_app intsE rfl _ _ rfl (w.heap.size+1) _ _ _ _ rfl (hO.alloc _) _ _ _ _ rfl (Rd.new2 _ _ _ _ _ rfl) ?l1 ?h1 ?b1 ?c1 ?d1 (w.alloc (.cells (nmc m) 30)) ?w1 ?_))
   case l1=>rfl
   case h1=>simp [Value.oneCell']
   case b1=>omega
   case c1=>omega
   case d1=>simp;omega
   case w1=>exact Below.alloc hB hsz _
   intro A1 c1 w1 ho1 hw1 hs1
   have ho2:w1.ownsRow (w.heap.size+1) 3 1 (.slice A1 18 c1) 18 (ics (digs m)):=by rw [HX.out,ics_append];exact ho1
   obtain ⟨g,rfl,hg,hra⟩:=own_at ho2 (by omega)
   clear ho1 ho2
   go_wp2_with fail
   go_ret
   exact ⟨g,c1,rfl,hra,by omega,((Ext.refl w).alloc' _).trans (by simpa [Ext] using hw1)⟩
end Go.Proofs.YtohmmcahpakokaaGreat
namespace Go.Proofs.YtohmmcahpakokaaGreat
open Go.RowKit
attribute [local go_sem ↓] Go.wp_at_zero Go.wp_at_succ
theorem refDigits_any (m:UInt64) (w:World) :
  Calls Tryz.prog 197 #[.agg (nmc m)] w fun e w'=>∃ g c,e=.returned (.slice (some ⟨g,0,none⟩) 18 c)∧w'.rangeAt g 0 (ics (digs m))∧w.heap.size≤g∧Ext w w':=by
 have hl:=nmb_length m
 go_enter Tryz.func197,Tryz.ntmps197
 go_wp2_with fail
 go_loopw [3,4,5] (fun o s i wr=>∃ (k:Nat) (A:Option Addr) (c:Nat),k≤8∧i=.int .i64 (k:Int)∧s=.int .i64 ((240 - dsum ((nmb m).take k):Nat):Int)∧o=.slice A (2 * k) c∧wr.ownsRow (w.heap.size+1) 3 1 (.slice A (2 * k) c) (2 * k) (ics (dg ((nmb m).take k)))∧Below (w.heap.size+1) (w.alloc (.cells (nmc m) 30)) wr∧w.heap.size+1≤wr.heap.size) (fun _ _ i _=>8 - (intOf i).toNat)
 case atStart=>exact ⟨0,_,_,by omega,rfl,rfl,rfl,World.ownsRow_nil _ _ _ _,Below.refl _ _,by simp⟩
 case round =>
  obtain ⟨k,A,c,hk,rfl,rfl,rfl,hO,hB,hsz⟩:=hrel
  have hd:dsum ((nmb m).take k)≤30 * k:=by have:=dsum_le ((nmb m).take k);rw [List.length_take,hl] at this;omega
  have hBm:Blk wr w.heap.size 30 (nmc m):=(Blk.new w _ _).below hB (by simp)
  by_cases hlt:k < 8
  ·have hget := nmc_get m k hlt
   have hcell:=(hBm.cell k).trans hget
   have hget':=zh hget
   clear hget
   have HT:=zh (take_get (nmb m) k (by omega))
   have HD:Hid (dsum ((nmb m).take (k+1))=dsum ((nmb m).take k)+(((nmb m).getD k 0).toNat / 16+((nmb m).getD k 0).toNat % 16)):=zh (by rw [HT.out,dsum_append];simp [dsum])
   have HG:Hid (dg ((nmb m).take (k+1))=dg ((nmb m).take k) ++ [((((nmb m).getD k 0).toNat / 16:Nat):Int),((((nmb m).getD k 0).toNat % 16:Nat):Int)]):=zh (by rw [HT.out,dg_snoc])
   clear HT
   have ha:=and15 ((nmb m).getD k 0)
   have hcb:=((nmb m).getD k 0).toNat_lt
   generalize (nmb m).getD k 0=b at *
   generalize dsum ((nmb m).take k)=s at *
   generalize dg ((nmb m).take k)=d at *
   have hb16:b.toNat / 16+b.toNat % 16≤30:=by omega
   have hk8:(k:Int) < 8:=by omega
   go_wp2_with fail
   have hcl:w.heap.size < wr.heap.size:=hBm.lt
   have hO1:=(hO.alloc (.cells #[.int .i64 ((b.toNat:Int) / 16),.int .i64 ((b.toNat:Int) % 16)] 3))
   have hB1:=(Below.alloc hB hsz (.cells #[.int .i64 ((b.toNat:Int) / 16),.int .i64 ((b.toNat:Int) % 16)] 3)).drew
   have hR1:Rd (wr.alloc (.cells #[.int .i64 ((b.toNat:Int) / 16),.int .i64 ((b.toNat:Int) % 16)] 3)).drew (some ⟨wr.heap.size,0,none⟩) [.int .i64 ((b.toNat:Int) / 16),.int .i64 ((b.toNat:Int) % 16)]:=Rd.new2 _ _ _ _ _ rfl
   have hne:=World.new_ne wr ⟨w.heap.size,k,none⟩ hcell
   have q1:([.int .i64 ((b.toNat:Int) / 16),.int .i64 ((b.toNat:Int) % 16)]:List Value).length=2 * 1:=rfl
   have q2:∀ u ∈ ([.int .i64 ((b.toNat:Int) / 16),.int .i64 ((b.toNat:Int) % 16)]:List Value),u.oneCell'=true:=by simp [Value.oneCell']
   have q3:(2 * k+2) * 8≤140737488355328:=by omega
   have q4:2 * k+2≤4611686018427387904:=by omega
   have q5:w.heap.size+1≤(wr.alloc (.cells #[.int .i64 ((b.toNat:Int) / 16),.int .i64 ((b.toNat:Int) % 16)] 3)).drew.heap.size:=by simp;omega
   have hO2:(wr.alloc (.cells #[.int .i64 ((b.toNat:Int) / 16),.int .i64 ((b.toNat:Int) % 16)] 3)).drew.ownsRow (w.heap.size+1) 3 1 (.slice A (2 * k) c) (2 * k) (ics d):=hO1
   have Q1:=zh q1
   have Q2:=zh q2
   have Q5:=zh q5
   clear q1 q2 q5
   have wd:IntKind.i64.wrap ((b.toNat:Int) / 16)=(b.toNat:Int) / 16:=by rw [IntKind.wrap_i64];omega
   have wm:IntKind.i64.wrap ((b.toNat:Int) % 16)=(b.toNat:Int) % 16:=by rw [IntKind.wrap_i64];omega
   go_region_held3 (fun w'=>w'.cell? ⟨w.heap.size,k,none⟩=some (.int .u8 (b.toNat:Int))) (first | go_keep | (exact ((Blk.new w _ _).below hw1 (by simp)).cell k |>.trans hget'.out)) ((refine step_app intsE rfl (.tmp 10) (.tmp 21) rfl (w.heap.size+1) A (2 * k) c (ics d) (by rfl) hO2 (some ⟨wr.heap.size,0,none⟩) 2 2 [.int .i64 ((b.toNat:Int) / 16),.int .i64 ((b.toNat:Int) % 16)] (by rfl) hR1 Q1.out Q2.out q3 q4 Q5.out (w.alloc (.cells (nmc m) 30)) hB1 ?_;intro A1 c1 w1 ho1 hw1 hs1))
   clear hcell hne hR1 hB1 hO1 hO2 Q1 Q2 Q5 q3 q4
   have hsz1:w.heap.size+1≤w1.heap.size:=by simp at hs1;omega
   have hBm1:Blk w1 w.heap.size 30 (nmc m):=(Blk.new w _ _).below hw1 (by simp)
   have hcell:=(hBm1.cell k).trans hget'.out
   have w1a:IntKind.i64.wrap (((240 - s:Nat):Int) - (b.toNat:Int) / 16)=((240 - s:Nat):Int) - (b.toNat:Int) / 16:=by rw [IntKind.wrap_i64];omega
   have w1b:IntKind.i64.wrap (((240 - s:Nat):Int) - (b.toNat:Int) / 16 - (b.toNat:Int) % 16)=((240 - s:Nat):Int) - (b.toNat:Int) / 16 - (b.toNat:Int) % 16:=by rw [IntKind.wrap_i64];omega
   go_wp2_with fail
   go_quiet (fail)
   go_wp2_with fail
   go_roundw
   case rel=>exact ⟨k+1,A1,c1,by omega,by go_num,by rw [HD.out];congr 1;omega,by go_num,by rw [HG.out,ics_append];exact ho1,below_drewN hw1 _,hsz1⟩
   case measure=>simp [intOf];omega
  ·obtain rfl : k = 8 := by omega
   have HX:Hid (digs m=dg ((nmb m).take 8) ++ [(((240 - dsum ((nmb m).take 8)) / 16:Nat):Int),(((240 - dsum ((nmb m).take 8)) % 16:Nat):Int)]):=zh (by rw [List.take_of_length_le (by omega)];rfl)
   generalize dsum ((nmb m).take 8)=s at *
   generalize dg ((nmb m).take 8)=d at *
   obtain ⟨r,hr⟩:∃ r,r=240 - s:=⟨_,rfl⟩
   rw [← hr] at HX ⊢
   have hr2:r≤240:=by omega
   clear hr
   go_wp2_with (at_builtin;go_must (with_reducible refine wpList_app intsE rfl _ _ rfl (w.heap.size+1) _ _ _ _ rfl (hO.alloc _) _ _ _ _ rfl (Rd.new2 _ _ _ _ _ rfl) ?l1 ?h1 ?b1 ?c1 ?d1 (w.alloc (.cells (nmc m) 30)) ?w1 ?_))
   case l1=>rfl
   case h1=>simp [Value.oneCell']
   case b1=>omega
   case c1=>omega
   case d1=>simp;omega
   case w1=>exact Below.alloc hB hsz _
   intro A1 c1 w1 ho1 hw1 hs1
   have ho2:w1.ownsRow (w.heap.size+1) 3 1 (.slice A1 18 c1) 18 (ics (digs m)):=by rw [HX.out,ics_append];exact ho1
   obtain ⟨g,rfl,hg,hra⟩:=own_at ho2 (by omega)
   clear ho1 ho2
   go_wp2_with fail
   go_ret
   exact ⟨g,c1,rfl,hra,by omega,((Ext.refl w).alloc' _).trans (by simpa [Ext] using hw1)⟩
end Go.Proofs.YtohmmcahpakokaaGreat
namespace Go.Proofs.YtohmmcahpakokaaGreat
open Go.RowKit
def zbs (n:Nat):List Value:=List.replicate n (.int .u8 0)
theorem zbs_length (n:Nat):(zbs n).length=n:=by simp [zbs]
theorem made_bytes (n:Nat):madeCells (Value.int .u8 0).cells (n * 1)=(zbs n).toArray:=by
 apply Array.ext_getElem?
 intro j
 simp only [madeCells,zbs,Nat.mul_one,Array.getElem?_map,Value.cells,List.getElem?_toArray,List.getElem?_replicate]
 by_cases hj:j < n
 ·simp [hj,Array.getElem?_range,Nat.mod_one]
 ·simp [hj]
theorem hmkX (n k:Nat) (h:n+k≤140737488355328) (w:World):(Instr.makeSlice 45 (.int .i64 (n:Int)) (.int .i64 ((n:Int)+(k:Int)))).run Tryz.prog w=.ok (.slice (some ⟨w.heap.size,0,none⟩) n (n+k)) (w.alloc (.cells (zbs (n+k)).toArray 5)):=by
 obtain ⟨i,hi,hz,hs,hby⟩:=bytesE.get
 have h:=run_make (P:=Tryz.prog) w 45 5 i (.int .u8 0) bytesE.ut hi hz .i64 .i64 n ((n:Int)+k) (by omega) (by omega) (by rw [hby];omega) (by omega)
 rw [hs,show ((n:Int)+k).toNat=n+k from by omega,made_bytes,show ((n:Int)).toNat=n from by omega] at h
 exact h
theorem own_cells {w:World} {base g cap n:Nat} {e:TypeId} {l:List UInt8} {cur:Array Value} (hh:w.heap[g]?=some (.cells cur e (0,0))) (hb:base≤g) (hl:l.length=n) (hc:n≤cap) (hm:cap≤140737488355328) (hs:cur.size=cap) (ht:cur.toList.take n=bcs l):OwnB w base e (some ⟨g,0,none⟩) n cap l :=
 ⟨by rw [bcs_length,hl,Nat.mul_one],.inr ⟨g,cap,cur,rfl,hb,hh,hc,by simp only [maxLen];omega,by omega,by rw [Nat.mul_one];exact ht⟩⟩
theorem extended_any (A:Option Addr) (n c:Nat) (l:List UInt8) (k:Nat) (w:World) (h:SlB w A n c l) (hk:n+k≤140737488355328) :
  Calls Tryz.prog 250 #[.slice A n c,.int .i64 (k:Int)] w fun e w'=>∃ A',e=.returned (.slice A' n (n+k))∧OwnB w' w.heap.size 5 A' n (n+k) l∧Ext w w':=by
 have hmk:=hmkX n k hk
 have HL:=zh h.len
 have HR:=zh (h.rd.ext ((Ext.refl w).alloc' (.cells (zbs (n+k)).toArray 5)))
 clear h
 go_enter Tryz.func250,Tryz.ntmps250
 go_wp2_with (with_reducible refine wpList_copy_splice rfl _ _ _ _ rfl 5 Tryz.underlying45 (by kernel_rfl) _ _ _ _ _ _ rfl rfl w.heap.size 0 (zbs (n+k)) 5 (heap_alloc_new w _) (bcs l) ?c1 ?c2 ?c3 (bcs_one l) w.heap.size w ((Ext.refl w).alloc' _) (Nat.le_refl _) ?_)
 case c1=>rw [bcs_length,HL.out];exact (Nat.min_self n).symm
 case c2=>exact fun hp=>HR.out.src hp
 case c3=>rw [bcs_length,zbs_length,HL.out];omega
 intro w1 hb1 he1
 go_wp2_with fail
 go_ret
 exact ⟨_,rfl,own_cells hb1.out (Nat.le_refl _) HL.out (by omega) hk (by rw [List.size_toArray,length_splice _ _ _ (by rw [bcs_length,zbs_length,HL.out];omega),zbs_length]) (by simp [splice,bcs_length,HL.out]),he1⟩
theorem beBytes_get (k n j:Nat) (hj:j < k):(beBytes k n)[j]'(by rw [beBytes_length];exact hj)=UInt8.ofNat (n / 256 ^ (k - 1 - j) % 256):=by
 induction k generalizing n j with
 | zero=>omega
 | succ k ih =>
  simp only [beBytes]
  by_cases h:j < k
  ·rw [List.getElem_append_left (by rw [beBytes_length];exact h),ih _ _ h,Nat.div_div_eq_div_mul,show k+1 - 1 - j=(k - 1 - j)+1 from by omega,Nat.pow_succ,Nat.mul_comm 256]
  ·obtain rfl : j = k := by omega
   rw [List.getElem_append_right (by rw [beBytes_length];omega)]
   simp [beBytes_length]
theorem beBytes_step (k n i:Nat) (hi:i < k):(beBytes k n).take (k - i)=(beBytes k n).take (k - (i+1)) ++ [toB ((n:Int) / 2 ^ (8 * i))]:=by
 rw [show k - i=k - (i+1)+1 from by omega,List.take_succ_eq_append_getElem (by rw [beBytes_length];omega),beBytes_get _ _ _ (by omega)]
 congr 2
 rw [show k - 1 - (k - (i+1))=i from by omega,show (256:Nat)=2 ^ 8 from rfl,← Nat.pow_mul]
 unfold toB
 rw [show ((n:Int) / 2 ^ (8 * i))=((n / 2 ^ (8 * i):Nat):Int) from by simp]
 congr 1
theorem au_rel {q wd n:Nat} {l:List UInt8} {v:UInt64} {A:Option Addr} {c:Nat} {w:World} {base:Nat} {e:TypeId} {z:Int} (h:OwnB w base e A (n+q+1) c (l ++ ((beBytes wd v.toNat).take q ++ [toB z]))) (kk:Nat) (hk:q=wd - (kk+1)) (hb:(beBytes wd v.toNat).take (wd - kk)=(beBytes wd v.toNat).take (wd - (kk+1)) ++ [toB ((v.toNat:Int) / 2 ^ (8 * kk))]) (hw:kk < wd) (hz:z=(v.toNat:Int) / 2 ^ (8 * kk)):OwnB w base e A (n+(wd - kk)) c (l ++ (beBytes wd v.toNat).take (wd - kk)):=by
 subst hk
 rw [hb,← hz,show n+(wd - kk)=n+(wd - (kk+1))+1 from by omega]
 exact h
theorem appendUint_any (A:Option Addr) (n c:Nat) (l:List UInt8) (v:UInt64) (wd:Nat) (hwd:wd≤8) (w:World) (h:SlB w A n c l) (hn:n≤140737488351232) :
  Calls Tryz.prog 220 #[.slice A n c,.int .u64 (un v),.int .i64 (wd:Int)] w fun e w'=>∃ A' c',e=.returned (.slice A' (n+wd) c')∧OwnB w' w.heap.size 5 A' (n+wd) c' (l ++ beBytes wd v.toNat)∧Ext w w':=by
 have k0:(0:Int)≤(wd:Int):=by omega
 have k1:(wd:Int)≤8:=by omega
 have hv0:=un_nonneg v
 have HV1:=zh (un_lt v)
 have HS:=zh h
 clear h
 go_enter Tryz.func220,Tryz.ntmps220
 go_wp2_with fail
 refine (extended_any A n c l wd _ HS.out (by omega)).mono ?_
 rintro e w1 ⟨A1,rfl,hO1,hE1⟩
 have HO1:=zh hO1
 have HE1:=zh hE1
 clear hO1 hE1
 go_wp2_with fail
 go_loopw [7,8] (fun x i wr=>∃ (j:Nat) (A2:Option Addr) (c2:Nat),j≤wd∧i=.int .i64 ((j:Int) - 1)∧x=.slice A2 (n+(wd - j)) c2∧OwnB wr w.heap.size 5 A2 (n+(wd - j)) c2 (l ++ (beBytes wd v.toNat).take (wd - j))∧Ext w wr) (fun _ i _=>(intOf i+1).toNat)
 case atStart=>exact ⟨wd,A1,n+wd,Nat.le_refl _,rfl,by simp,by simpa using HO1.out,HE1.out⟩
 case round =>
  obtain ⟨j,A2,c2,hj,rfl,rfl,hO,hE⟩:=hrel
  have HO:=zh hO
  have HE:=zh hE
  clear hO hE
  by_cases hlt:0 < j
  ·obtain ⟨i, rfl⟩ : ∃ i, j = i + 1 := ⟨j - 1, by omega⟩
   obtain ⟨kk,hkk⟩:∃ kk,kk=i:=⟨_,rfl⟩
   have HB:=zh (beBytes_step wd v.toNat kk (by omega))
   have HKK:=zh hkk
   clear hkk
   obtain ⟨q,hq⟩:∃ q,q=wd - (i+1):=⟨_,rfl⟩
   rw [← hq] at HO ⊢
   have HQ:=zh (show q=wd - (kk+1) from by rw [HKK.out];exact hq)
   have hq8:q≤8:=by omega
   clear hq
   rw [show ((i+1:Nat):Int) - 1=(i:Int) from by omega]
   have hi7:i=0 ∨ i=1 ∨ i=2 ∨ i=3 ∨ i=4 ∨ i=5 ∨ i=6 ∨ i=7:=by omega
   rcases hi7 with rfl | rfl | rfl | rfl | rfl | rfl | rfl | rfl
   all_goals (
    go_wp2_with (at_builtin;go_must (refine wpList_appB bytesE rfl (.tmp 21) (.tmp 27) rfl w.heap.size A2 _ c2 _ rfl (HO.out.alloc _) _ 1 1 [toB _] rfl (SlB.new1 _ _ _ _ _ rfl (toB_eq _)) (by omega) (HE.out.alloc' _).size w (HE.out.alloc' _) ?_))
    intro A4 c4 w4 hO4 hE4 hs4
    have HO4:=zh (au_rel hO4 kk HQ.out HB.out (by have:=HKK.out;omega) (by rw [HKK.out];simp [un]))
    clear hO4
    go_wp2_with fail
    go_roundw
    case rel=>exact ⟨kk,A4,c4,by have:=HKK.out;omega,by rw [HKK.out];go_num,by have:=HKK.out;have:=HQ.out;congr 1;omega,HO4.out,hE4⟩
    case measure=>simp [intOf])
  ·obtain rfl : j = 0 := by omega
   have i1:((0:Nat):Int) - 1 < 0:=by omega
   go_wp2_with fail
   go_ret
   exact ⟨A2,c2,by simp,by have:=HO.out;rwa [Nat.sub_zero,List.take_of_length_le (by rw [beBytes_length];omega)] at this,HE.out⟩
end Go.Proofs.YtohmmcahpakokaaGreat
namespace Go.Proofs.YtohmmcahpakokaaGreat
open Go.RowKit
attribute [local go_sem ↓] Go.wp_at_zero Go.wp_at_succ
def wthn (v lo hi:Int):Bool:=decide (lo≤v∧v≤hi)
theorem within_any (v lo hi:Int) (w:World) :
  Calls Tryz.prog 73 #[.int .i64 v,.int .i64 lo,.int .i64 hi] w fun e w'=>e=.returned (.bool (wthn v lo hi))∧w=w':=by
 by_cases h1:lo≤v
 ·by_cases h2 : v ≤ hi
  ·have HV := zh (show wthn v lo hi = true by unfold wthn; simp only [decide_eq_true_eq]; exact ⟨h1, h2⟩)
   go_enter Tryz.func73,Tryz.ntmps73
   go_wp2_with fail
   go_ret
   exact ⟨by rw [HV.out];rfl,rfl⟩
  ·have HV := zh (show wthn v lo hi = false by unfold wthn; simp only [decide_eq_false_iff_not]; omega)
   have d2:decide (v≤hi)=false:=decide_eq_false h2
   clear h2
   go_enter Tryz.func73,Tryz.ntmps73
   go_wp2_with fail
   go_ret
   exact ⟨by rw [HV.out];rfl,rfl⟩
 ·have HV := zh (show wthn v lo hi = false by unfold wthn; simp only [decide_eq_false_iff_not]; omega)
  have d1:decide (lo≤v)=false:=decide_eq_false h1
  clear h1
  go_enter Tryz.func73,Tryz.ntmps73
  go_wp2_with fail
  go_ret
  exact ⟨by rw [HV.out];rfl,rfl⟩
theorem within_yes (v lo hi:Int) (h:lo≤v∧v≤hi) (w:World) :
  Calls Tryz.prog 73 #[.int .i64 v,.int .i64 lo,.int .i64 hi] w fun e w'=>e=.returned (.bool true)∧w=w':=by
 rw [← show wthn v lo hi=true by unfold wthn;simp only [decide_eq_true_eq];exact h];exact within_any v lo hi w
theorem within_no (v lo hi:Int) (h:v < lo ∨ hi < v) (w:World) :
  Calls Tryz.prog 73 #[.int .i64 v,.int .i64 lo,.int .i64 hi] w fun e w'=>e=.returned (.bool false)∧w=w':=by
 rw [← show wthn v lo hi=false by unfold wthn;simp only [decide_eq_false_iff_not];omega];exact within_any v lo hi w
variable {D:Nat}
theorem retCV {fn:Func} {p q:Tmp} {ty:TypeId} (hres:fn.results=#[.cell p ty,.tmp q]) (tmps:Array Value) (w1:World) (g:Nat) (cs:Array Value) (v:Value) (hp:tmps.getD p undef=.pointer (some ⟨g,0,none⟩)) (hq:tmps.getD q undef=v) (hl:(loadVar ty ⟨g,0,none⟩).run Tryz.prog w1=.ok (.agg cs) w1) :
  (results fn tmps).run Tryz.prog w1=.ok (.tuple #[.agg cs,v]) w1:=by
 have hp':tmps[p]?.getD undef=.pointer (some ⟨g,0,none⟩):=by simpa using hp
 have hq':tmps[q]?.getD undef=v:=by simpa using hq
 simp [results,hres,hp',hq',asAddr,hl]
end Go.Proofs.YtohmmcahpakokaaGreat
namespace Go.Proofs.YtohmmcahpakokaaGreat
open Go.RowKit
attribute [local go_sem ↓] Go.wp_at_zero Go.wp_at_succ
end Go.Proofs.YtohmmcahpakokaaGreat
namespace Go.Proofs.YtohmmcahpakokaaGreat
open Go.RowKit
attribute [local go_sem ↓] Go.wp_at_zero Go.wp_at_succ
theorem bcs_nb8 (n:UInt64):bcs (nmb n)=[.int .u8 (nb8 n 0),.int .u8 (nb8 n 1),.int .u8 (nb8 n 2),.int .u8 (nb8 n 3),.int .u8 (nb8 n 4),.int .u8 (nb8 n 5),.int .u8 (nb8 n 6),.int .u8 (nb8 n 7)]:=by
 rw [← nmc_toList,← nmc_nb8]
theorem toB_wrap (z:Int):IntKind.u8.wrap z=((toB z).toNat:Int):=by rw [← toB_eq,IntKind.wrap_u8]
theorem step_appBG {P:Program} {t e:TypeId} {ops:Array Oper} {o:Oper} {a:Act} {w:World} {K:Act→World→Prop} {Q:Exit→Act→World→Prop} {X:Prop} (E:Elem P t e (.int .u8 0) 1 1) (hgd:o.guard=none) (s x:Operand)
  (ho:o.op=.call { callee:=.builtin .append,args:=#[s,x],argTypes:=#[t,t] })
  (base:Nat) (A:Option Addr) (n c:Nat) (l:List UInt8) (hs:a.eval s=.slice A n c) (hown:OwnB w base e A n c l)
  (A2:Option Addr) (m c2:Nat) (l2:List UInt8) (hx:a.eval x=.slice A2 m c2) (hr:SlB w A2 m c2 l2)
  (hb:n+m≤140737488355328) (hbase:base≤w.heap.size)
  (h:∀ A' c' w',OwnB w' base e A' (n+m) c' (l ++ l2)→w.grownBy w' (Value.ownBlock (.slice A n c))→K (a.put o.dst (.slice A' (n+m) c')) w'):if Region.wanted o (yielded ops a.tmps)=true then Oper.wp P o a w K Q else X:=by
 have hw:Region.wanted o (yielded ops a.tmps)=true:=by simp [Region.wanted,hgd]
 rw [if_pos hw]
 refine wp_app E s x ho base A n c (bcs l) hs hown A2 m c2 (bcs l2) hx hr.rd (by rw [bcs_length,hr.len,Nat.mul_one]) (bcs_one l2) (by omega) (by omega) hbase fun A' c' w' h2 h3=>h A' c' w' ?_ h3
 unfold OwnB;rw [bcs_append];exact h2
theorem own_lt {w:World} {base:Nat} {e:TypeId} {A:Option Addr} {n c:Nat} {l:List UInt8} (h:OwnB w base e A n c l):∀ k,Value.ownBlock (.slice A n c)=some k→base≤k∧k < w.heap.size:=fun k hk=>World.ownsRow.lt h k hk
theorem below_grown {w0 w w':World} {base:Nat} {e:TypeId} {A:Option Addr} {n c:Nat} {l:List UInt8} (h:OwnB w base e A n c l) (hb:Below base w0 w) (hs:base≤w.heap.size) (hg:w.grownBy w' (Value.ownBlock (.slice A n c))):Below base w0 w' :=
 hb.grown hg hs (fun k hk=>(own_lt h k hk).1)
end Go.Proofs.YtohmmcahpakokaaGreat
namespace Go.Proofs.YtohmmcahpakokaaGreat
open Go.RowKit
attribute [local go_sem ↓] Go.wp_at_zero Go.wp_at_succ
@[go_sem] theorem fold_nmc9 (n:UInt64):Array.foldl (fun (cs:Array Value) (x:Value × Nat)=>cs.setIfInBounds x.snd x.fst) #[.int .u8 0,.int .u8 0,.int .u8 0,.int .u8 0,.int .u8 0,.int .u8 0,.int .u8 0,.int .u8 0,.slice none 0 0] (nmc n).zipIdx 0 8=#[.int .u8 (nb8 n 0),.int .u8 (nb8 n 1),.int .u8 (nb8 n 2),.int .u8 (nb8 n 3),.int .u8 (nb8 n 4),.int .u8 (nb8 n 5),.int .u8 (nb8 n 6),.int .u8 (nb8 n 7),.slice none 0 0]:=by
 rw [← nmc_nb8 n]
 kernel_rfl
@[go_sem] theorem fold_pair (i:Int) (n:UInt64):Array.foldl (fun (cs:Array Value) (x:Value × Nat)=>cs.setIfInBounds (1+x.snd) x.fst) #[.int .i64 i,.int .u8 0,.int .u8 0,.int .u8 0,.int .u8 0,.int .u8 0,.int .u8 0,.int .u8 0,.int .u8 0] (nmc n).zipIdx 0 8=#[.int .i64 i,.int .u8 (nb8 n 0),.int .u8 (nb8 n 1),.int .u8 (nb8 n 2),.int .u8 (nb8 n 3),.int .u8 (nb8 n 4),.int .u8 (nb8 n 5),.int .u8 (nb8 n 6),.int .u8 (nb8 n 7)]:=by
 rw [← nmc_nb8 n]
 kernel_rfl
theorem own_other {w:World} {base:Nat} {e:TypeId} {size:Nat} {A:Option Addr} {n c:Nat} {xs:List Value} {X:Nat} {t:TypeId} {cs:Array Value} (h:w.ownsRow base e size (.slice A n c) n xs) (hb:Blk w X t cs) (hne:t ≠ e):some X ≠ Value.ownBlock (.slice A n c):=by
 rcases h.2 with ⟨hv,_⟩ | ⟨g,cap,cur,hv,_,hh,_⟩
 ·rw [hv];simp [Value.ownBlock]
 ·rw [hv]
  simp only [Value.ownBlock]
  intro e1
  injection e1 with e1
  subst e1
  unfold Blk at hb
  rw [hh] at hb
  injection hb with hb
  injection hb with _ hb
  exact hne hb.symm
theorem blk_ne {w:World} {X B:Nat} {t t':TypeId} {cs cs':Array Value} (h:Blk w X t cs) (h':Blk w B t' cs') (hne:t ≠ t'):X ≠ B:=by
 intro e;subst e
 unfold Blk at h h'
 rw [h] at h'
 injection h' with h'
 injection h' with _ h'
 exact hne h'
end Go.Proofs.YtohmmcahpakokaaGreat
