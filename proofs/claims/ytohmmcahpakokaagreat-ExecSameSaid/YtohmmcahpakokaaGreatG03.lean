import Derived.DeepKeys
import Derived.Test.YtohmmcahpakokaaGreatG02
set_option maxRecDepth 100000
set_option maxHeartbeats 8000000
set_option linter.unusedVariables false
set_option linter.unusedSimpArgs false
namespace Go.Proofs.YtohmmcahpakokaaGreat
section
open Go.RowKit
attribute [local go_sem ↓] Go.wp_at_zero Go.wp_at_succ
def iv (z:Int):Value:=.int .i64 z
def ics (l:List Int):List Value:=l.map iv
theorem aEd (l:List Int):(ics l).length=l.length:=by simp [ics]
theorem lO (a b:List Int):ics (a ++ b)=ics a ++ ics b:=by simp [ics]
theorem yU:Elem Tryz.prog 38 3 (.int .i64 0) 1 8:=⟨Tryz.underlying38,by kernel_rfl,rfl,by decide⟩
def dg (l:List UInt8):List Int:=l.flatMap fun c=>[((c.toNat / 16:Nat):Int),((c.toNat % 16:Nat):Int)]
def gT:List UInt8→Nat
 | []=>0
 | c :: r=>c.toNat / 16+c.toNat % 16+gT r
theorem aFe (l:List UInt8) (c:UInt8):dg (l ++ [c])=dg l ++ [((c.toNat / 16:Nat):Int),((c.toNat % 16:Nat):Int)]:=by simp [dg]
theorem aGs (l:List UInt8):(dg l).length=2 * l.length:=by
 induction l with
 | nil=>rfl
 | cons c r ih=>simp only [dg,List.flatMap_cons,List.length_append,List.length_cons,List.length_nil] at *;omega
theorem sM (a b:List UInt8):gT (a ++ b)=gT a+gT b:=by
 induction a with
 | nil=>simp [gT]
 | cons c r ih=>simp [gT,ih];omega
theorem aAV (l:List UInt8):gT l≤30 * l.length:=by
 induction l with
 | nil=>simp [gT]
 | cons c r ih=>have:=c.toNat_lt;simp only [gT,List.length_cons];omega
def oX (m:UInt64):List Int:=dg (nmb m) ++ [(((240 - gT (nmb m)) / 16:Nat):Int),(((240 - gT (nmb m)) % 16:Nat):Int)]
theorem iX (m:UInt64):(oX m).length=18:=by simp [oX,aGs,aG]
theorem aKN (c:UInt8):bits .and .u8 (c.toNat:Int) 15=((c.toNat % 16:Nat):Int):=by
 have h:=c.toNat_lt
 rw [show (15:Int)=((15:Nat):Int) from rfl,u8_and_nat _ _ h (by omega)]
 rw [show (15:Nat)=2 ^ 4 - 1 from rfl,Nat.and_two_pow_sub_one_eq_mod]
theorem vF (a:Nat) (ha:a < 9223372036854775808):(BitVec.ofInt 64 (a:Int)).toNat=a:=by
 rw [BitVec.ofInt_natCast,BitVec.toNat_ofNat];exact Nat.mod_eq_of_lt (by omega)
theorem aLM (a:Nat) (ha:a < 9223372036854775808):bits .and .i64 (a:Int) 15=((a % 16:Nat):Int):=by
 have hx:a &&& 15=a % 16:=by rw [show (15:Nat)=2 ^ 4 - 1 from rfl,Nat.and_two_pow_sub_one_eq_mod]
 show IntKind.i64.wrap ((BitVec.ofInt 64 (a:Int) &&& BitVec.ofInt 64 ((15:Nat):Int)).toNat:Int)=_
 rw [BitVec.toNat_and,vF a ha,vF 15 (by omega),IntKind.wrap_i64,hx]
 omega
theorem aLn (w:World):(Instr.makeSlice 38 (.int .i64 0) (.int .i64 18)).run Tryz.prog w=.ok (.slice (some ⟨w.heap.size,0,none⟩) 0 18) (w.alloc (.cells (madeCells (Value.int .i64 0).cells 18) 3)):=by
 obtain ⟨i,hi,hz,hs,hby⟩:=yU.get
 have h:=run_make (P:=Tryz.prog) w 38 3 i (.int .i64 0) yU.ut hi hz .i64 .i64 0 18 (by omega) (by omega) (by rw [hby];omega) (by omega)
 simpa [hs] using h
theorem Rd.new2 (w:World) (t:TypeId) (a b:Value) (g:Nat) (hg:w.heap.size=g):Rd (w.alloc (.cells #[a,b] t)) (some ⟨g,0,none⟩) [a,b]:=by subst hg;exact Rd.of_blk (Blk.new w t #[a,b])
theorem aEl (m:UInt64) (w:World) :
  Calls Tryz.prog 254 #[.agg (nmc m)] w fun e w'=>∃ g c,e=.returned (.slice (some ⟨g,0,none⟩) 18 c)∧w'.rangeAt g 0 (ics (oX m))∧w.heap.size≤g∧Ext w w':=by
 have hmk:=aLn
 have hl:=aG m
 go_enter Tryz.func254,Tryz.ntmps254
 go_wp2_with (refine wpList_load_row rfl 30 (.tmp 1) rfl _ rfl 30 _ (0,0) _ ((Blk.new w _ _).alloc _) Tryz.underlying30 rfl (eO m) ?_)
 go_loopw [3,4,11] (fun o s i wr=>∃ (k:Nat) (A:Option Addr) (c:Nat),k≤8∧i=.int .i64 (k:Int)∧s=.int .i64 ((240 - gT ((nmb m).take k):Nat):Int)∧o=.slice A (2 * k) c∧wr.ownsRow (w.heap.size+1) 3 1 (.slice A (2 * k) c) (2 * k) (ics (dg ((nmb m).take k)))∧Below (w.heap.size+1) (w.alloc (.cells (nmc m) 30)) wr∧w.heap.size+1≤wr.heap.size) (fun _ _ i _=>8 - (intOf i).toNat)
 case atStart=>exact ⟨0,_,_,by omega,rfl,rfl,rfl,aHs (w.alloc _) _ _ 18 _ (by simp) (Nat.le_refl _) (by omega) (by rw [size_madeCells]),Below.alloc (Below.refl _ _) (by simp) _,by simp⟩
 case round =>
  obtain ⟨k,A,c,hk,rfl,rfl,rfl,hO,hB,hsz⟩:=hrel
  have hd:gT ((nmb m).take k)≤30 * k:=by have:=aAV ((nmb m).take k);rw [List.length_take,hl] at this;omega
  by_cases hlt:k < 8
  ·have hix := jL m k hlt
   have HT:=zh (mL (nmb m) k (by omega))
   have HD:Hid (gT ((nmb m).take (k+1))=gT ((nmb m).take k)+(((nmb m).getD k 0).toNat / 16+((nmb m).getD k 0).toNat % 16)):=zh (by rw [HT.out,sM];simp [gT])
   have HG:Hid (dg ((nmb m).take (k+1))=dg ((nmb m).take k) ++ [((((nmb m).getD k 0).toNat / 16:Nat):Int),((((nmb m).getD k 0).toNat % 16:Nat):Int)]):=zh (by rw [HT.out,aFe])
   clear HT
   have ha:=aKN ((nmb m).getD k 0)
   have hcb:=((nmb m).getD k 0).toNat_lt
   generalize (nmb m).getD k 0=b at *
   generalize gT ((nmb m).take k)=s at *
   generalize dg ((nmb m).take k)=d at *
   have hb16:b.toNat / 16+b.toNat % 16≤30:=by omega
   go_wp2_with (at_builtin;go_must (with_reducible refine fX yU rfl _ _ rfl (w.heap.size+1) _ _ _ _ rfl (hO.alloc _) _ _ _ _ rfl (Rd.new2 _ _ _ _ _ rfl) ?l1 ?h1 ?b1 ?c1 ?d1 (w.alloc (.cells (nmc m) 30)) ?w1 ?_))
   case l1=>rfl
   case h1=>simp [Value.oneCell']
   case b1=>omega
   case c1=>omega
   case d1=>simp;omega
   case w1=>exact Below.alloc hB hsz _
   intro A1 c1 w1 ho1 hw1 hs1
   go_wp2_with fail
   go_roundw
   case rel=>exact ⟨k+1,A1,c1,by omega,by go_num,by rw [HD.out];go_num,by go_num,by rw [HG.out,lO];exact ho1,hw1,by omega⟩
   case measure=>simp [intOf];omega
  obtain rfl:k=8:=by omega
  have HX:Hid (oX m=dg ((nmb m).take 8) ++ [(((240 - gT ((nmb m).take 8)) / 16:Nat):Int),(((240 - gT ((nmb m).take 8)) % 16:Nat):Int)]):=zh (by rw [List.take_of_length_le (by omega)];rfl)
  generalize gT ((nmb m).take 8)=s at *
  generalize dg ((nmb m).take 8)=d at *
  have ha:=aLM (240 - s) (by omega)
  obtain ⟨r,hr⟩:∃ r,r=240 - s:=⟨_,rfl⟩
  rw [← hr] at ha HX ⊢
  have hr2:r≤240:=by omega
  clear hr
  go_wp2_with (at_builtin;go_must (with_reducible refine fX yU rfl _ _ rfl (w.heap.size+1) _ _ _ _ rfl (hO.alloc _) _ _ _ _ rfl (Rd.new2 _ _ _ _ _ rfl) ?l1 ?h1 ?b1 ?c1 ?d1 (w.alloc (.cells (nmc m) 30)) ?w1 ?_))
  case l1=>rfl
  case h1=>simp [Value.oneCell']
  case b1=>omega
  case c1=>omega
  case d1=>simp;omega
  case w1=>exact Below.alloc hB hsz _
  intro A1 c1 w1 ho1 hw1 hs1
  have ho2:w1.ownsRow (w.heap.size+1) 3 1 (.slice A1 18 c1) 18 (ics (oX m)):=by rw [HX.out,lO];exact ho1
  obtain ⟨g,rfl,hg,hra⟩:=cY ho2 (by omega)
  clear ho1 ho2
  go_wp2_with fail
  go_ret
  exact ⟨g,c1,rfl,hra,by omega,((Ext.refl w).alloc' _).trans (by simpa [Ext] using hw1)⟩
theorem nV (m:UInt64) (w:World) :
  Calls Tryz.prog 197 #[.agg (nmc m)] w fun e w'=>∃ g c,e=.returned (.slice (some ⟨g,0,none⟩) 18 c)∧w'.rangeAt g 0 (ics (oX m))∧w.heap.size≤g∧Ext w w':=by
 have hl:=aG m
 go_enter Tryz.func197,Tryz.ntmps197
 go_wp2_with fail
 go_loopw [3,4,5] (fun o s i wr=>∃ (k:Nat) (A:Option Addr) (c:Nat),k≤8∧i=.int .i64 (k:Int)∧s=.int .i64 ((240 - gT ((nmb m).take k):Nat):Int)∧o=.slice A (2 * k) c∧wr.ownsRow (w.heap.size+1) 3 1 (.slice A (2 * k) c) (2 * k) (ics (dg ((nmb m).take k)))∧Below (w.heap.size+1) (w.alloc (.cells (nmc m) 30)) wr∧w.heap.size+1≤wr.heap.size) (fun _ _ i _=>8 - (intOf i).toNat)
 case atStart=>exact ⟨0,_,_,by omega,rfl,rfl,rfl,World.ownsRow_nil _ _ _ _,Below.refl _ _,by simp⟩
 case round =>
  obtain ⟨k,A,c,hk,rfl,rfl,rfl,hO,hB,hsz⟩:=hrel
  have hd:gT ((nmb m).take k)≤30 * k:=by have:=aAV ((nmb m).take k);rw [List.length_take,hl] at this;omega
  have hBm:Blk wr w.heap.size 30 (nmc m):=(Blk.new w _ _).below hB (by simp)
  by_cases hlt:k < 8
  ·have hget := iJ m k hlt
   have hcell:=(hBm.cell k).trans hget
   have hget':=zh hget
   clear hget
   have HT:=zh (mL (nmb m) k (by omega))
   have HD:Hid (gT ((nmb m).take (k+1))=gT ((nmb m).take k)+(((nmb m).getD k 0).toNat / 16+((nmb m).getD k 0).toNat % 16)):=zh (by rw [HT.out,sM];simp [gT])
   have HG:Hid (dg ((nmb m).take (k+1))=dg ((nmb m).take k) ++ [((((nmb m).getD k 0).toNat / 16:Nat):Int),((((nmb m).getD k 0).toNat % 16:Nat):Int)]):=zh (by rw [HT.out,aFe])
   clear HT
   have ha:=aKN ((nmb m).getD k 0)
   have hcb:=((nmb m).getD k 0).toNat_lt
   generalize (nmb m).getD k 0=b at *
   generalize gT ((nmb m).take k)=s at *
   generalize dg ((nmb m).take k)=d at *
   have hb16:b.toNat / 16+b.toNat % 16≤30:=by omega
   have hk8:(k:Int) < 8:=by omega
   go_wp2_with fail
   have hcl:w.heap.size < wr.heap.size:=hBm.lt
   have hO1:=(hO.alloc (.cells #[.int .i64 ((b.toNat:Int) / 16),.int .i64 ((b.toNat:Int) % 16)] 3))
   have hB1:=(Below.alloc hB hsz (.cells #[.int .i64 ((b.toNat:Int) / 16),.int .i64 ((b.toNat:Int) % 16)] 3)).drew
   have hR1:Rd (wr.alloc (.cells #[.int .i64 ((b.toNat:Int) / 16),.int .i64 ((b.toNat:Int) % 16)] 3)).drew (some ⟨wr.heap.size,0,none⟩) [.int .i64 ((b.toNat:Int) / 16),.int .i64 ((b.toNat:Int) % 16)]:=Rd.new2 _ _ _ _ _ rfl
   have hne:=World.new_ne wr ⟨w.heap.size,k,none⟩ hcell
   have q1:([.int .i64 ((b.toNat:Int) / 16),.int .i64 ((b.toNat:Int) % 16)]:List Value).length=2 * 1:=rfl
   have q2:∀ u ∈ ([.int .i64 ((b.toNat:Int) / 16),.int .i64 ((b.toNat:Int) % 16)]:List Value),u.oneCell'=true:=by simp [Value.oneCell']
   have q3:(2 * k+2) * 8≤140737488355328:=by omega
   have q4:2 * k+2≤4611686018427387904:=by omega
   have q5:w.heap.size+1≤(wr.alloc (.cells #[.int .i64 ((b.toNat:Int) / 16),.int .i64 ((b.toNat:Int) % 16)] 3)).drew.heap.size:=by simp;omega
   have hO2:(wr.alloc (.cells #[.int .i64 ((b.toNat:Int) / 16),.int .i64 ((b.toNat:Int) % 16)] 3)).drew.ownsRow (w.heap.size+1) 3 1 (.slice A (2 * k) c) (2 * k) (ics d):=hO1
   have Q1:=zh q1
   have Q2:=zh q2
   have Q5:=zh q5
   clear q1 q2 q5
   have wd:IntKind.i64.wrap ((b.toNat:Int) / 16)=(b.toNat:Int) / 16:=by rw [IntKind.wrap_i64];omega
   have wm:IntKind.i64.wrap ((b.toNat:Int) % 16)=(b.toNat:Int) % 16:=by rw [IntKind.wrap_i64];omega
   go_region_held3 (fun w'=>w'.cell? ⟨w.heap.size,k,none⟩=some (.int .u8 (b.toNat:Int))) (first | go_keep | (exact ((Blk.new w _ _).below hw1 (by simp)).cell k |>.trans hget'.out)) ((refine uB yU rfl (.tmp 10) (.tmp 21) rfl (w.heap.size+1) A (2 * k) c (ics d) (by rfl) hO2 (some ⟨wr.heap.size,0,none⟩) 2 2 [.int .i64 ((b.toNat:Int) / 16),.int .i64 ((b.toNat:Int) % 16)] (by rfl) hR1 Q1.out Q2.out q3 q4 Q5.out (w.alloc (.cells (nmc m) 30)) hB1 ?_;intro A1 c1 w1 ho1 hw1 hs1))
   clear hcell hne hR1 hB1 hO1 hO2 Q1 Q2 Q5 q3 q4
   have hsz1:w.heap.size+1≤w1.heap.size:=by simp at hs1;omega
   have hBm1:Blk w1 w.heap.size 30 (nmc m):=(Blk.new w _ _).below hw1 (by simp)
   have hcell:=(hBm1.cell k).trans hget'.out
   have w1a:IntKind.i64.wrap (((240 - s:Nat):Int) - (b.toNat:Int) / 16)=((240 - s:Nat):Int) - (b.toNat:Int) / 16:=by rw [IntKind.wrap_i64];omega
   have w1b:IntKind.i64.wrap (((240 - s:Nat):Int) - (b.toNat:Int) / 16 - (b.toNat:Int) % 16)=((240 - s:Nat):Int) - (b.toNat:Int) / 16 - (b.toNat:Int) % 16:=by rw [IntKind.wrap_i64];omega
   go_wp2_with fail
   go_quiet (fail)
   go_wp2_with fail
   go_roundw
   case rel=>exact ⟨k+1,A1,c1,by omega,by go_num,by rw [HD.out];congr 1;omega,by go_num,by rw [HG.out,lO];exact ho1,below_drewN hw1 _,hsz1⟩
   case measure=>simp [intOf];omega
  obtain rfl:k=8:=by omega
  have HX:Hid (oX m=dg ((nmb m).take 8) ++ [(((240 - gT ((nmb m).take 8)) / 16:Nat):Int),(((240 - gT ((nmb m).take 8)) % 16:Nat):Int)]):=zh (by rw [List.take_of_length_le (by omega)];rfl)
  generalize gT ((nmb m).take 8)=s at *
  generalize dg ((nmb m).take 8)=d at *
  obtain ⟨r,hr⟩:∃ r,r=240 - s:=⟨_,rfl⟩
  rw [← hr] at HX ⊢
  have hr2:r≤240:=by omega
  clear hr
  go_wp2_with (at_builtin;go_must (with_reducible refine fX yU rfl _ _ rfl (w.heap.size+1) _ _ _ _ rfl (hO.alloc _) _ _ _ _ rfl (Rd.new2 _ _ _ _ _ rfl) ?l1 ?h1 ?b1 ?c1 ?d1 (w.alloc (.cells (nmc m) 30)) ?w1 ?_))
  case l1=>rfl
  case h1=>simp [Value.oneCell']
  case b1=>omega
  case c1=>omega
  case d1=>simp;omega
  case w1=>exact Below.alloc hB hsz _
  intro A1 c1 w1 ho1 hw1 hs1
  have ho2:w1.ownsRow (w.heap.size+1) 3 1 (.slice A1 18 c1) 18 (ics (oX m)):=by rw [HX.out,lO];exact ho1
  obtain ⟨g,rfl,hg,hra⟩:=cY ho2 (by omega)
  clear ho1 ho2
  go_wp2_with fail
  go_ret
  exact ⟨g,c1,rfl,hra,by omega,((Ext.refl w).alloc' _).trans (by simpa [Ext] using hw1)⟩
def ncs (ns:List UInt64):List Value:=ns.flatMap fun n=>bcs (nmb n)
theorem aJj:ncs []=[]:=rfl
theorem gR (n:UInt64) (r:List UInt64):ncs (n :: r)=bcs (nmb n) ++ ncs r:=by simp [ncs]
theorem eP (a b:List UInt64):ncs (a ++ b)=ncs a ++ ncs b:=by simp [ncs]
theorem cV (ns:List UInt64):(ncs ns).length=ns.length * 8:=by
 induction ns with
 | nil=>rfl
 | cons n r ih=>rw [gR,List.length_append,aJ,aG,ih,List.length_cons];omega
theorem yQ (ns:List UInt64):ncs ns=bcs (ns.flatMap nmb):=by
 induction ns with
 | nil=>rfl
 | cons n r ih=>rw [gR,ih,← eQ];rfl
theorem nH (ns:List UInt64):∀ u ∈ ncs ns,u.oneCell'=true:=by rw [yQ];exact dT _
theorem pZ (ns:List UInt64) (k:Nat):(ncs ns).drop (k * 8)=ncs (ns.drop k):=by
 induction k generalizing ns with
 | zero=>simp
 | succ k ih =>
  cases ns with
  | nil=>simp [ncs]
  | cons n r =>
   rw [gR,List.drop_succ_cons,← ih r,show (k+1) * 8=(bcs (nmb n)).length+k * 8 from by rw [aJ,aG];omega,List.drop_append,List.drop_of_length_le (by omega)]
   simp
theorem vI (ns:List UInt64) (k:Nat):(ncs ns).take (k * 8)=ncs (ns.take k):=by
 induction k generalizing ns with
 | zero=>simp [ncs]
 | succ k ih =>
  cases ns with
  | nil=>simp [ncs]
  | cons n r =>
   rw [gR,List.take_succ_cons,gR,← ih r,show (k+1) * 8=(bcs (nmb n)).length+k * 8 from by rw [aJ,aG];omega,List.take_append,List.take_of_length_le (by omega)]
   simp
structure SlN (w:World) (A:Option Addr) (n c:Nat) (ns:List UInt64):Prop where
 len:ns.length=n
 le:n≤c
 cap:c≤9223372036854775807
 rd:Rd w A (ncs ns)
section
variable {w w':World} {A:Option Addr} {n c:Nat} {ns:List UInt64}
theorem SlN.ext (h:SlN w A n c ns) (e:Ext w w'):SlN w' A n c ns:=⟨h.len,h.le,h.cap,h.rd.ext e⟩
theorem SlN.at (h:SlN w A n c ns) (hn:0 < n):∃ b o,A=some ⟨b,o,none⟩∧w.rangeAt b o (ncs ns)∧b < w.heap.size :=
 h.rd.at (by intro e;have:=congrArg List.length e;rw [cV,h.len] at this;simp at this;omega)
theorem aDT {k:Nat} (hk:k < ns.length):((ncs ns).drop (k * 8)).take 8=bcs (nmb (ns.getD k 0)):=by
 have e:ns[k]=ns.getD k 0:=by simp [hk]
 rw [pZ,List.drop_eq_getElem_cons hk,gR,List.take_append_of_le_length (by rw [aJ,aG];exact Nat.le_refl _),List.take_of_length_le (by rw [aJ,aG];exact Nat.le_refl _),e]
theorem aAA {b o k:Nat} (h:w.rangeAt b o (ncs ns)) (hk:k < ns.length):w.rangeAt b (o+k * 8) (bcs (nmb (ns.getD k 0))):=by
 have h1:=aO (k:=8) (bD (k:=k * 8) h)
 rwa [aDT hk] at h1
theorem SlN.cut (h:SlN w A n c ns) {k:Nat} (hk:k≤n) (hkc:k < c):SlN w (A.map (·.add (k * 8))) (n - k) (c - k) (ns.drop k):=by
 refine ⟨by rw [List.length_drop,h.len],by have:=h.le;omega,by have:=h.cap;omega,?_⟩
 have:=h.rd.cut (n:=n) (k:=k) (c:=c) (size:=8) (by rw [cV,h.len]) hk h.le
 rw [if_neg (by omega),pZ] at this
 exact this
theorem SlN.upto (h:SlN w A n c ns) {k:Nat} (hk:k≤n):SlN w A k c (ns.take k):=by
 refine ⟨by rw [List.length_take,h.len];omega,by have:=h.le;omega,h.cap,?_⟩
 have:=h.rd.take (k * 8)
 rwa [vI] at this
theorem SlN.of_own {base:Nat} {e:TypeId} (h:w.ownsRow base e 8 (.slice A n c) n (ncs ns)):SlN w A n c ns:=by
 have hl:ns.length=n:=by have:=h.1;rw [cV] at this;omega
 exact ⟨hl,(dY h).1,(dY h).2,Rd.of_own h⟩
theorem SlN.of_blk {g:Nat} {t:TypeId} (h:Blk w g t (ncs ns).toArray) (hn:ns.length=n) (hc:n≤9223372036854775807):SlN w (some ⟨g,0,none⟩) n n ns :=
 ⟨hn,Nat.le_refl _,hc,by have:=Rd.of_blk h;simpa using this⟩
end
theorem dV:Elem Tryz.prog 37 30 (.agg zcs.toArray) 8 8:=⟨Tryz.underlying37,by kernel_rfl,rfl,by decide⟩
theorem aAG (cs vs:List Value) (o:Nat) (h:o+vs.length≤cs.length):((vs.zipIdx 0).foldl (fun a p=>a.setIfInBounds (o+p.2) p.1) cs.toArray)=(cs.take o ++ vs ++ cs.drop (o+vs.length)).toArray:=by
 apply Array.ext_getElem?
 intro j
 rw [iK]
 simp only [List.getElem?_toArray,List.size_toArray,Nat.add_zero]
 have ht:(cs.take o).length=o:=by rw [List.length_take];omega
 by_cases h1:j < o
 ·rw [if_neg (by omega),List.append_assoc,List.getElem?_append_left (by rw [ht];exact h1),List.getElem?_take,if_pos h1]
 by_cases h2:j < o+vs.length
 ·rw [if_pos ⟨by omega,h2,by omega⟩,List.getElem?_append_left (by rw [List.length_append,ht];exact h2),List.getElem?_append_right (by rw [ht];omega),ht]
 rw [if_neg (by omega),List.getElem?_append_right (by rw [List.length_append,ht];omega),List.length_append,ht,List.getElem?_drop]
 congr 1;omega
theorem aIu {w:World} {g k:Nat} {t:TypeId} {ns:List UInt64} (h:Blk w g t (ncs ns).toArray) (hk:k < ns.length) (n:UInt64):Blk (w.setCells g (k * 8) (nmc n).toList) g t (ncs (ns.set k n)).toArray:=by
 have h1:=qM (o:=k * 8) (vs:=(nmc n).toList) h
 have hl8:(nmc n).toList.length=8:=by rw [bJ,aJ,aG]
 rw [aAG _ _ _ (by rw [hl8,cV];omega),hl8,vI,show k * 8+8=(k+1) * 8 from by omega,pZ,bJ,List.append_assoc,← gR,← eP] at h1
 have hs:ns.set k n=ns.take k ++ n :: ns.drop (k+1):=by rw [List.set_eq_take_append_cons_drop,if_pos hk]
 rw [hs,bJ]
 exact h1
theorem yH {w:World} {g o m:Nat} {t:TypeId} {cs:Array Value} (h:Blk w g t cs) (hm:o+m≤cs.size):w.there g o m:=fun j hj=>by
 exact ⟨by rw [h.cell (o+j)];simp;omega,h.frozen (o+j)⟩
def mF (F:Nat→UInt64) (m k:Nat):List UInt64:=(List.range k).map F ++ List.replicate (m - k) 0
theorem jY (F:Nat→UInt64) (m k:Nat) (h:k≤m):(mF F m k).length=m:=by simp [mF];omega
theorem aBH (F:Nat→UInt64) (m k:Nat) (h:k < m):(mF F m k).set k (F k)=mF F m (k+1):=by
 unfold mF
 rw [List.range_succ,List.map_append,List.set_append_right _ _ (by simp),show m - k=(m - (k+1))+1 from by omega,List.replicate_succ]
 simp
theorem yI (F:Nat→UInt64) (m:Nat):mF F m m=(List.range m).map F:=by simp [mF]
theorem aCm:nmb 0=List.replicate 8 0:=by decide
theorem vO (m:Nat):madeCells (Value.agg zcs.toArray).cells (m * 8)=(ncs (List.replicate m 0)).toArray:=by
 have h:ncs (List.replicate m 0)=List.replicate (m * 8) (.int .u8 0):=by
  rw [yQ]
  have:(List.replicate m (0:UInt64)).flatMap nmb=List.replicate (m * 8) 0:=by
   rw [List.flatMap_replicate,aCm,List.flatten_replicate_replicate]
  rw [this];simp [bcs,bv]
 rw [h]
 apply Array.ext_getElem?
 intro i
 have h8:zcs.length=8:=rfl
 have hz:∀ j,j < 8→zcs.toArray[j]! = .int .u8 0:=by
  intro j hj
  match j,hj with
  | 0,_ | 1,_ | 2,_ | 3,_ | 4,_ | 5,_ | 6,_ | 7,_=>rfl
 simp only [madeCells,Value.cells]
 by_cases hi:i < m * 8
 ·have h9 := hz (i % 8) (by omega)
  simp [hi,h8]
  simpa using h9
 simp [hi]
end
section
open Go.RowKit
theorem aCH (ds cs:Array Value) (o:Nat):ds.zipIdx.foldl (fun cs (x:Value × Nat)=>cs.setIfInBounds (o+x.2) x.1) cs=(ds.toList.zipIdx 0).foldl (fun a p=>a.setIfInBounds (o+p.2) p.1) cs:=by
 rw [← Array.foldl_toList,Array.toList_zipIdx]
theorem vZ (ds cs:Array Value) (h:ds.size=cs.size):(ds.toList.zipIdx 0).foldl (fun a p=>a.setIfInBounds (0+p.2) p.1) cs=ds:=by
 apply Array.ext_getElem?
 intro j
 rw [iK]
 by_cases hj:j < ds.size
 ·rw [if_pos (by simp;omega)];simp
 rw [if_neg (by simp;omega),Array.getElem?_eq_none (by omega),Array.getElem?_eq_none (by omega)]
@[go_sem] theorem aIh (n:UInt64) (Z:Array Value) (hZ:Z.size=8):Array.foldl (fun cs x=>cs.setIfInBounds x.snd x.fst) Z (nmc n).zipIdx 0 (nmc n).size=nmc n:=by
 have h:=aCH (nmc n) Z 0
 rw [vZ _ _ (by rw [cU,hZ])] at h
 simpa using h
@[go_sem] theorem aLT (n:UInt64) (Z:Array Value) (hZ:Z.size=8):Array.foldl (fun cs x=>cs.setIfInBounds x.snd x.fst) Z (nmc n).zipIdx 0 8=nmc n:=by
 have h:=aIh n Z hZ
 rwa [cU] at h
attribute [go_sem] cU
def nb8 (n:UInt64) (i:Nat):Int:=(((nmb n).getD i 0).toNat:Int)
theorem fJ (n:UInt64):#[.int .u8 (nb8 n 0),.int .u8 (nb8 n 1),.int .u8 (nb8 n 2),.int .u8 (nb8 n 3),.int .u8 (nb8 n 4),.int .u8 (nb8 n 5),.int .u8 (nb8 n 6),.int .u8 (nb8 n 7)]=nmc n:=by
 unfold nmc nb8
 rw [show bcs (nmb n)=bcs [(nmb n).getD 0 0,(nmb n).getD 1 0,(nmb n).getD 2 0,(nmb n).getD 3 0,(nmb n).getD 4 0,(nmb n).getD 5 0,(nmb n).getD 6 0,(nmb n).getD 7 0] from congrArg bcs (pY n)]
 rfl
attribute [go_sem] fJ
theorem eY {w:World} {g:Nat} {t:TypeId} {n:UInt64} (h:Blk w g t (nmc n)):∀ i,i < 8→w.cell? ⟨g,i,none⟩=some (.int .u8 (nb8 n i)):=fun i hi=>by
 rw [h.cell i];exact iJ n i hi
theorem aDb {w:World} {b o:Nat} {n:UInt64} (h:w.rangeAt b o (bcs (nmb n))):∀ i,i < 8→w.cell? ⟨b,o+i,none⟩=some (.int .u8 (nb8 n i)):=fun i hi=>by
 refine h i _ ?_
 have hl:=aG n
 simp [bcs,bv,nb8,hl,hi]
theorem aBS (n:UInt64) (w:World):(Instr.buildSlice 37 1 #[(0,.agg (nmc n))]).run Tryz.prog w=.ok (.slice (some ⟨w.heap.size,0,none⟩) 1 1) (w.alloc (.cells (nmc n) 30)):=by
 obtain ⟨i,hi,hz,hs,hby⟩:=dV.get
 have hsz:=cU n
 have hst:(sizeOf 30).run Tryz.prog w=.ok 8 w:=by simp [sizeOf,typeInfo,hi,hs]
 have hzv:(zeroValue 30).run Tryz.prog w=.ok (.agg zcs.toArray) w:=by simp [zeroValue,typeInfo,hi,hz]
 have hf:∀ Z:Array Value,Z.size=8→Instr.fill (fun i=>some (i * 8,8)) Z [(0,.agg (nmc n))]=some (nmc n):=by
  intro Z hZ
  simp only [Instr.fill,Value.cells,hsz,Nat.zero_mul]
  rw [if_neg (by simp [hZ]),aCH,vZ _ _ (by rw [hsz,hZ])]
 simp [Instr.buildSlice,run_underlying dV.ut,hst,hzv,Value.cells]
 rw [hf _ (by simp)]
 simp [newRow]
end
section
open Go.RowKit
attribute [local go_sem ↓] Go.wp_at_zero Go.wp_at_succ
def dH (v lo hi:Int):Bool:=decide (lo≤v∧v≤hi)
theorem aR (v lo hi:Int) (w:World) :
  Calls Tryz.prog 73 #[.int .i64 v,.int .i64 lo,.int .i64 hi] w fun e w'=>e=.returned (.bool (dH v lo hi))∧w=w':=by
 by_cases h1:lo≤v
 ·by_cases h2 : v ≤ hi
  ·have HV := zh (show dH v lo hi = true by unfold dH; simp only [decide_eq_true_eq]; exact ⟨h1, h2⟩)
   go_enter Tryz.func73,Tryz.ntmps73
   go_wp2_with fail
   go_ret
   exact ⟨by rw [HV.out];rfl,rfl⟩
  have HV:=zh (show dH v lo hi=false by unfold dH;simp only [decide_eq_false_iff_not];omega)
  have d2:decide (v≤hi)=false:=decide_eq_false h2
  clear h2
  go_enter Tryz.func73,Tryz.ntmps73
  go_wp2_with fail
  go_ret
  exact ⟨by rw [HV.out];rfl,rfl⟩
 have HV:=zh (show dH v lo hi=false by unfold dH;simp only [decide_eq_false_iff_not];omega)
 have d1:decide (lo≤v)=false:=decide_eq_false h1
 clear h1
 go_enter Tryz.func73,Tryz.ntmps73
 go_wp2_with fail
 go_ret
 exact ⟨by rw [HV.out];rfl,rfl⟩
theorem eL (v lo hi:Int) (h:lo≤v∧v≤hi) (w:World) :
  Calls Tryz.prog 73 #[.int .i64 v,.int .i64 lo,.int .i64 hi] w fun e w'=>e=.returned (.bool true)∧w=w':=by
 rw [← show dH v lo hi=true by unfold dH;simp only [decide_eq_true_eq];exact h];exact aR v lo hi w
theorem aFs (v lo hi:Int) (h:v < lo ∨ hi < v) (w:World) :
  Calls Tryz.prog 73 #[.int .i64 v,.int .i64 lo,.int .i64 hi] w fun e w'=>e=.returned (.bool false)∧w=w':=by
 rw [← show dH v lo hi=false by unfold dH;simp only [decide_eq_false_iff_not];omega];exact aR v lo hi w
@[go_sem] theorem aLS (n:UInt64):Array.foldl (fun (cs:Array Value) (x:Value × Nat)=>cs.setIfInBounds x.snd x.fst) #[.int .u8 0,.int .u8 0,.int .u8 0,.int .u8 0,.int .u8 0,.int .u8 0,.int .u8 0,.int .u8 0,.slice none 0 0] (nmc n).zipIdx 0 8=#[.int .u8 (nb8 n 0),.int .u8 (nb8 n 1),.int .u8 (nb8 n 2),.int .u8 (nb8 n 3),.int .u8 (nb8 n 4),.int .u8 (nb8 n 5),.int .u8 (nb8 n 6),.int .u8 (nb8 n 7),.slice none 0 0]:=by
 rw [← fJ n]
 kernel_rfl
@[go_sem] theorem aLR (i:Int) (n:UInt64):Array.foldl (fun (cs:Array Value) (x:Value × Nat)=>cs.setIfInBounds (1+x.snd) x.fst) #[.int .i64 i,.int .u8 0,.int .u8 0,.int .u8 0,.int .u8 0,.int .u8 0,.int .u8 0,.int .u8 0,.int .u8 0] (nmc n).zipIdx 0 8=#[.int .i64 i,.int .u8 (nb8 n 0),.int .u8 (nb8 n 1),.int .u8 (nb8 n 2),.int .u8 (nb8 n 3),.int .u8 (nb8 n 4),.int .u8 (nb8 n 5),.int .u8 (nb8 n 6),.int .u8 (nb8 n 7)]:=by
 rw [← fJ n]
 kernel_rfl
theorem aM {w:World} {base:Nat} {e:TypeId} {size:Nat} {A:Option Addr} {n c:Nat} {xs:List Value} {X:Nat} {t:TypeId} {cs:Array Value} (h:w.ownsRow base e size (.slice A n c) n xs) (hb:Blk w X t cs) (hne:t ≠ e):some X ≠ Value.ownBlock (.slice A n c):=by
 rcases h.2 with ⟨hv,_⟩ | ⟨g,cap,cur,hv,_,hh,_⟩
 ·rw [hv];simp [Value.ownBlock]
 rw [hv]
 simp only [Value.ownBlock]
 intro e1
 injection e1 with e1
 subst e1
 unfold Blk at hb
 rw [hh] at hb
 injection hb with hb
 injection hb with _ hb
 exact hne hb.symm
theorem aEp {w:World} {X B:Nat} {t t':TypeId} {cs cs':Array Value} (h:Blk w X t cs) (h':Blk w B t' cs') (hne:t ≠ t'):X ≠ B:=by
 intro e;subst e
 unfold Blk at h h'
 rw [h] at h'
 injection h' with h'
 injection h' with _ h'
 exact hne h'
theorem lA (w:World) (B i:Nat) (u:Value):w.grownBy (w.setCell ⟨B,i,none⟩ u) (some B) :=
 ⟨rfl,rfl,rfl,by simp [World.setCell],fun k _ hk=>Below.heap_setCell _ _ _ _ (fun e=>hk (by rw [e]))⟩
theorem aEf (w:World) (row:Option Nat):w.grownBy w row:=⟨rfl,rfl,rfl,Nat.le_refl _,fun _ _ _=>rfl⟩
variable {D:Nat}
variable {D:Nat}
theorem tD:zcs.toArray=nmc 0:=by
 unfold nmc;rw [aCm];rfl
theorem aD (w:World) (g:Nat):∀ (vs:List Value) (o:Nat),w.grownBy (w.setCells g o vs) (some g):=by
 intro vs
 induction vs generalizing w with
 | nil=>intro o;exact aEf w _
 | cons v r ih=>intro o;exact World.grownBy.trans (lA w g o v) (ih _ (o+1))
theorem eU (w:World) (n:Nat):Ext w (w.drewN n):=⟨rfl,rfl,rfl,Nat.le_refl _,fun _ _=>rfl⟩
theorem lD {w:World} {g:Nat} {t:TypeId} (h:Blk w g t zcs.toArray):Blk (w.setCells g 0 zcs) g t (nmc 0):=by
 have:=blkN h 0
 rwa [← tD] at this ⊢
variable {D:Nat}
theorem kV {fn:Func} {p q:Tmp} {ty:TypeId} (hres:fn.results=#[.cell p ty,.tmp q]) (tmps:Array Value) (w1:World) (g:Nat) (cs:Array Value) (v:Value) (hp:tmps.getD p undef=.pointer (some ⟨g,0,none⟩)) (hq:tmps.getD q undef=v) (hl:(loadVar ty ⟨g,0,none⟩).run Tryz.prog w1=.ok (.agg cs) w1) :
  (results fn tmps).run Tryz.prog w1=.ok (.tuple #[.agg cs,v]) w1:=by
 have hp':tmps[p]?.getD undef=.pointer (some ⟨g,0,none⟩):=by simpa using hp
 have hq':tmps[q]?.getD undef=v:=by simpa using hq
 simp [results,hres,hp',hq',asAddr,hl]
theorem dU (n:UInt64):bcs (nmb n)=[.int .u8 (nb8 n 0),.int .u8 (nb8 n 1),.int .u8 (nb8 n 2),.int .u8 (nb8 n 3),.int .u8 (nb8 n 4),.int .u8 (nb8 n 5),.int .u8 (nb8 n 6),.int .u8 (nb8 n 7)]:=by
 rw [← bJ,← fJ]
end
end Go.Proofs.YtohmmcahpakokaaGreat
