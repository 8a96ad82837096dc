import Derived.Sort.Grow
import Derived.Test.YtohmmcahpakokaaGreatH05
set_option maxRecDepth 100000
set_option maxHeartbeats 8000000
set_option linter.unusedVariables false
set_option linter.unusedSimpArgs false
namespace Go.Proofs.YtohmmcahpakokaaGreat
section
open Go.RowKit
attribute [local go_sem ↓] Go.wp_at_zero Go.wp_at_succ
theorem aJi (w:World):(Instr.makeSlice 45 (.int .i64 0) (.int .i64 144)).run Tryz.prog w=.ok (.slice (some ⟨w.heap.size,0,none⟩) 0 144) (w.alloc (.cells (madeCells (Value.int .u8 0).cells 144) 5)):=by
 obtain ⟨i,hi,hz,hs,hby⟩:=bU.get
 have h:=run_make (P:=Tryz.prog) w 45 5 i (.int .u8 0) bU.ut hi hz .i64 .i64 0 144 (by omega) (by omega) (by rw [hby];omega) (by omega)
 simpa [hs] using h
theorem rF (ns:List UInt64) (k:Nat) (hk:k < ns.length):(ns.take (k+1)).flatMap nmb=(ns.take k).flatMap nmb ++ nmb (ns.getD k 0):=by
 have e:ns[k]=ns.getD k 0:=by simp [hk]
 rw [List.take_succ_eq_append_getElem hk,List.flatMap_append,e];simp
theorem aCE (A:Option Addr) (n c:Nat) (ns:List UInt64) (w:World) (h:SlN w A n c ns) (hm:n≤1000000) :
  Calls Tryz.prog 256 #[.slice A n c] w fun e w'=>e=.returned (.agg (nmc (dR 34 (ns.flatMap nmb))))∧Ext w w':=by
 have hmk:=aJi
 have hlen:=h.len
 go_enter Tryz.func256,Tryz.ntmps256
 go_wp2_with fail
 go_loopw [3,9] (fun o i wr=>∃ (k:Nat) (A':Option Addr) (c':Nat),k≤n∧i=.int .i64 (k:Int)∧o=.slice A' (8 * k) c'∧OwnB wr (w.heap.size+1) 5 A' (8 * k) c' ((ns.take k).flatMap nmb)∧Below (w.heap.size+1) (w.alloc (.cells zcs.toArray 30)) wr∧w.heap.size+1≤wr.heap.size) (fun _ i _=>n - (intOf i).toNat)
 case atStart=>exact ⟨0,_,_,by omega,rfl,rfl,OwnB.made _ _ _ 144 _ (by simp) (Nat.le_refl _) (by omega) (size_madeCells _ _),Below.alloc (Below.refl _ _) (by simp) _,by simp⟩
 case round =>
  obtain ⟨k,A',c',hk,rfl,rfl,hO,hB,hsz⟩:=hrel
  by_cases hlt:k < n
  ·have hrk := h.ext (((Ext.refl w).alloc' _).trans (by simpa [Ext] using hB))
   obtain ⟨b,o,rfl,hra,hbl⟩:=hrk.at (by omega)
   have hnm:=zO hra (k:=k) (by omega)
   have HF:=zh (rF ns k (by omega))
   generalize ns.getD k 0=x at *
   generalize (ns.take k).flatMap nmb=l at *
   go_wp2_with (first | (with_reducible refine bJ rfl (.tmp 11) rfl b (o+k * 8) rfl x hnm ?_) | (refine lV rfl (.tmp 5) (.tmp 12) rfl wr.heap.size x rfl rfl rfl ?_) | (at_builtin;go_must (refine cG bU rfl (.tmp 13) (.tmp 14) rfl (w.heap.size+1) _ _ _ l rfl (hO.alloc _) _ _ _ (nmb x) rfl ?r1 ?b1 ?c1 (w.alloc (.cells zcs.toArray 30)) ?w1 ?_)))
   case r1=>exact SlB.blkN (Blk.new wr _ (nmc x))
   case b1=>omega
   case c1=>simp;omega
   case w1=>exact Below.alloc hB hsz _
   intro A1 c1 w1 ho1 hw1 hs1
   go_wp2_with fail
   go_roundw
   case rel=>exact ⟨k+1,A1,c1,by omega,by go_num,by go_num,by rw [HF.out];exact ho1,hw1,by omega⟩
   case measure=>simp [intOf];omega
  obtain rfl:k=n:=by omega
  have HF:=zh (show (ns.take k).flatMap nmb=ns.flatMap nmb by rw [List.take_of_length_le (by omega)])
  rw [HF.out] at hO
  clear HF
  go_wp2_with fail
  refine (iG 34 _ _ _ _ _ hO.sl (by omega)).mono ?_
  rintro e w3 ⟨rfl,he3⟩
  have hE3:Below (w.heap.size+1) (w.alloc (.cells zcs.toArray 30)) w3:=Below.trans hB (he3.mono hsz)
  have hb0:Blk w3 w.heap.size 30 zcs.toArray:=(Blk.new w _ _).below hE3 (by omega)
  go_wp2_with (with_reducible refine aW rfl _ _ rfl w.heap.size 0 _ rfl rfl (eE hb0) ?_)
  refine bodyPost_ret (v:=.agg (nmc (dR 34 (ns.flatMap nmb)))) (eS rfl _ _ w.heap.size _ rfl (blkN hb0 _)) rfl ⟨rfl,Below.setCells' (((Ext.refl w).alloc' _).trans (by simpa [Ext] using hE3)) (Nat.le_refl _) _ _⟩
theorem aAX (A:Option Addr) (n c:Nat) (ns:List UInt64) (w:World) (h:SlN w A n c ns) (hm:n≤1000000) :
  Calls Tryz.prog 222 #[.slice A n c] w fun e w'=>e=.returned (.agg (nmc (dR 34 (ns.flatMap nmb))))∧Ext w w':=by
 have hlen:=h.len
 go_enter Tryz.func222,Tryz.ntmps222
 go_wp2_with fail
 go_loopw [3,4] (fun o i wr=>∃ (k:Nat) (A':Option Addr) (c':Nat),k≤n∧i=.int .i64 (k:Int)∧o=.slice A' (8 * k) c'∧OwnB wr (w.heap.size+1) 5 A' (8 * k) c' ((ns.take k).flatMap nmb)∧Below (w.heap.size+1) (w.alloc (.cells zcs.toArray 30)) wr∧w.heap.size+1≤wr.heap.size) (fun _ i _=>n - (intOf i).toNat)
 case atStart=>exact ⟨0,_,_,by omega,rfl,rfl,OwnB.nil _ _ _,Below.refl _ _,by simp⟩
 case round =>
  obtain ⟨k,A',c',hk,rfl,rfl,hO,hB,hsz⟩:=hrel
  by_cases hlt:k < n
  ·have hrk := h.ext (((Ext.refl w).alloc' _).trans (by simpa [Ext] using hB))
   obtain ⟨b,o,rfl,hra,hbl⟩:=hrk.at (by omega)
   have hnm:=zO hra (k:=k) (by omega)
   have HF:=zh (rF ns k (by omega))
   generalize ns.getD k 0=x at *
   generalize (ns.take k).flatMap nmb=l at *
   go_wp2_with (at_builtin;go_must (refine cG bU rfl (.tmp 11) (.tmp 15) rfl (w.heap.size+1) _ _ _ l rfl hO _ _ _ (nmb x) rfl ?r1 ?b1 hsz (w.alloc (.cells zcs.toArray 30)) hB ?_))
   case r1=>exact ⟨aL x,Nat.le_refl _,by omega,.inr ⟨b,o+k * 8,rfl,hnm⟩⟩
   case b1=>omega
   intro A1 c1 w1 ho1 hw1 hs1
   go_wp2_with fail
   go_roundw
   case rel=>exact ⟨k+1,A1,c1,by omega,by go_num,by go_num,by rw [HF.out];exact ho1,hw1,by omega⟩
   case measure=>simp [intOf];omega
  obtain rfl:k=n:=by omega
  have HF:=zh (show (ns.take k).flatMap nmb=ns.flatMap nmb by rw [List.take_of_length_le (by omega)])
  rw [HF.out] at hO
  clear HF
  go_wp2_with fail
  refine (dL 34 _ _ _ _ _ hO.sl (by omega)).mono ?_
  rintro e w3 ⟨rfl,he3⟩
  have hE3:Below (w.heap.size+1) (w.alloc (.cells zcs.toArray 30)) w3:=Below.trans hB (he3.mono hsz)
  have hb0:Blk w3 w.heap.size 30 zcs.toArray:=(Blk.new w _ _).below hE3 (by omega)
  go_wp2_with (with_reducible refine aW rfl _ _ rfl w.heap.size 0 _ rfl rfl (eE hb0) ?_)
  refine bodyPost_ret (v:=.agg (nmc (dR 34 (ns.flatMap nmb)))) (eS rfl _ _ w.heap.size _ rfl (blkN hb0 _)) rfl ⟨rfl,Below.setCells' (((Ext.refl w).alloc' _).trans (by simpa [Ext] using hE3)) (Nat.le_refl _) _ _⟩
def oB (seed:UInt64) (c:Nat):UInt64:=dR 32 (nmb seed ++ [toB (c:Int)])
def zJ (seed:UInt64) (c:Nat):UInt64:=cL (oB seed c) (c:Int) 0 15
def uF (seed:UInt64):UInt64:=dR 34 (((List.range 18).map (zJ seed)).flatMap nmb)
def dig (m:UInt64) (c:Nat):Int:=(oQ m).getD c 0
def oD (seed m:UInt64) (c:Nat):UInt64:=cL (oB seed c) (c:Int) 0 (dig m c).toNat
def fT (seed m:UInt64):List UInt64:=(List.range 18).map (oD seed m)
def gM (l:List UInt64) (k:Nat):UInt64:=l.getD k 0
theorem pV {w:World} {ns:List UInt64} {b o k:Nat} (h:w.rangeAt b o (ncs ns)) (hk:k < ns.length):w.rangeAt b (o+k * 8) (bcs (nmb (gM ns k))):=zO h hk
def zI (m:UInt64) (sig:List UInt64) (c:Nat):UInt64:=cL (gM sig c) (c:Int) (dig m c) (15 - dig m c).toNat
def cW (m:UInt64) (sig:List UInt64):UInt64:=dR 34 (((List.range 18).map (zI m sig)).flatMap nmb)
theorem aJg (F:Nat→UInt64) (w:World):(Instr.makeSlice 37 (.int .i64 18) (.int .i64 18)).run Tryz.prog w=.ok (.slice (some ⟨w.heap.size,0,none⟩) 18 18) (w.alloc (.cells (ncs (mC F 18 0)).toArray 30)):=by
 obtain ⟨i,hi,hz,hs,hby⟩:=cX.get
 have h:=run_make (P:=Tryz.prog) w 37 30 i (.agg zcs.toArray) cX.ut hi hz .i64 .i64 18 18 (by omega) (by omega) (by rw [hby];omega) (by omega)
 rw [hs,show (18:Int).toNat * 8=18 * 8 from rfl,uR] at h
 simpa [mC] using h
theorem dW {w:World} {g:Nat} {t:TypeId} {n:UInt64} (h:Blk w g t (nmc n)):w.rangeAt g 0 (bcs (nmb n)):=by have:=aD h;rwa [bO] at this
theorem qW (seed:UInt64) (k:Nat) (w:World):Calls Tryz.prog 199 #[.agg (nmc seed),.int .i64 (k:Int)] w fun e w'=>e=.returned (.agg (nmc (oB seed k)))∧Ext w w':=zC seed k w
theorem aGO (seed:UInt64) (k:Nat) (w:World):Calls Tryz.prog 198 #[.agg (nmc (oB seed k)),.int .i64 (k:Int),.int .i64 0,.int .i64 15] w fun e w'=>e=.returned (.agg (nmc (zJ seed k)))∧Ext w w' :=
 pJ _ k 0 15 w (by omega) (by omega) (by omega) (by omega)
theorem Rd.newN (w:World) (t:TypeId) (n:UInt64) (g:Nat) (hg:w.heap.size=g):Rd (w.alloc (.cells (nmc n) t)) (some ⟨g,0,none⟩) (ncs [n]):=by
 subst hg;have:=Rd.of_blk (Blk.new w t (nmc n));rw [bO] at this;simpa [ncs] using this
theorem qX (seed:UInt64) (w:World) :
  Calls Tryz.prog 196 #[.agg (nmc seed)] w fun e w'=>e=.returned (.agg (nmc (uF seed)))∧Ext w w':=by
 go_enter Tryz.func196,Tryz.ntmps196
 go_wp2_with fail
 go_loopw [3,4] (fun o i wr=>∃ (k:Nat) (A:Option Addr) (c:Nat),k≤18∧i=.int .i64 (k:Int)∧o=.slice A k c∧wr.ownsRow (w.heap.size+2) 30 8 (.slice A k c) k (ncs ((List.range k).map (zJ seed)))∧Below (w.heap.size+2) ((w.alloc (.cells (nmc seed) 30)).alloc (.cells zcs.toArray 30)) wr∧w.heap.size+2≤wr.heap.size) (fun _ i _=>18 - (intOf i).toNat)
 case atStart=>exact ⟨0,_,_,by omega,rfl,rfl,World.ownsRow_nil _ _ _ _,Below.refl _ _,by simp⟩
 case round =>
  obtain ⟨k,A,c,hk,rfl,rfl,hO,hB,hsz⟩:=hrel
  have hS:Blk wr w.heap.size 30 (nmc seed):=((Blk.new w _ _).alloc _).below hB (by omega)
  have hZ:Blk wr (w.heap.size+1) 30 zcs.toArray:=(Blk.newAt _ _ _ _ (by simp)).below hB (by omega)
  by_cases hlt:k < 18
  ·have hrs := dW hS
   have HR:=zh (show (List.range (k+1)).map (zJ seed)=(List.range k).map (zJ seed) ++ [zJ seed k] by rw [List.range_succ,List.map_append];rfl)
   go_wp2_with (with_reducible refine bJ rfl (.tmp 1) rfl w.heap.size 0 rfl seed hrs ?_)
   refine (qW seed k _).mono ?_
   rintro e w1 ⟨rfl,he1⟩
   go_wp2_with fail
   refine (aGO _ _ _).mono ?_
   rintro e w2 ⟨rfl,he2⟩
   have hE2:=Ext.trans he1 he2
   have hO2:=aU hO hE2
   have hB2:=Below.trans hB (hE2.mono hsz)
   have hsz2:w.heap.size+2≤w2.heap.size:=Nat.le_trans hsz hE2.size
   go_wp2_with (at_builtin;go_must (refine gC cX rfl (.tmp 9) (.tmp 15) rfl (w.heap.size+2) _ _ _ _ rfl (hO2.alloc _) _ _ _ (ncs [zJ seed k]) rfl (Rd.newN _ _ _ _ rfl) (by rw [dD];rfl) (nI _) ?b1 ?c1 ?d1 ((w.alloc (.cells (nmc seed) 30)).alloc (.cells zcs.toArray 30)) ?w1 ?_))
   case b1=>omega
   case c1=>omega
   case d1=>simp;omega
   case w1=>exact Below.alloc hB2 hsz2 _
   intro A1 c1 w3 ho3 hw3 hs3
   go_wp2_with fail
   go_roundw
   case rel=>exact ⟨k+1,A1,c1,by omega,by go_num,by go_num,by rw [HR.out,fF];exact ho3,hw3,by omega⟩
   case measure=>simp [intOf];omega
  obtain rfl:k=18:=by omega
  go_wp2_with fail
  refine (aAX _ _ _ _ _ (SlN.of_own hO) (by omega)).mono ?_
  rintro e w3 ⟨rfl,he3⟩
  have hb0:=hZ.ext he3
  go_wp2_with (with_reducible refine aW rfl _ _ rfl (w.heap.size+1) 0 _ rfl rfl (eE hb0) ?_)
  refine bodyPost_ret (v:=.agg (nmc (uF seed))) (eS rfl _ _ (w.heap.size+1) _ rfl (blkN hb0 _)) rfl ⟨rfl,Below.setCells' (Below.trans ((((Ext.refl w).alloc' _).alloc' _).trans (by simpa [Ext] using hB)) (he3.mono (by omega))) (by omega) _ _⟩
theorem aJm (l:List UInt8):∀ z ∈ dg l,0≤z∧z≤15:=by
 intro z hz
 simp only [dg,List.mem_flatMap] at hz
 obtain ⟨c,_,hc⟩:=hz
 have:=c.toNat_lt
 simp at hc
 omega
theorem aGK (m:UInt64):∀ z ∈ oQ m,0≤z∧z≤15:=by
 intro z hz
 unfold oQ at hz
 rw [List.mem_append] at hz
 rcases hz with h | h
 ·exact aJm _ z h
 have hd:=aAi (nmb m)
 rw [aL] at hd
 simp at h
 omega
theorem aDd (m:UInt64) (c:Nat) (hc:c < 18):0≤dig m c∧dig m c≤15:=by
 have hl:=jC m
 refine aGK m _ ?_
 unfold dig
 have:(oQ m).getD c 0=(oQ m)[c]'(by omega):=by simp [hl,hc]
 rw [this]
 exact List.getElem_mem _
theorem qC {w:World} {b o:Nat} {m:UInt64} (h:w.rangeAt b o (ics (oQ m))) (k:Nat) (hk:k < 18):w.cell? ⟨b,o+k,none⟩=some (.int .i64 (dig m k)):=by
 have hl:=jC m
 refine h k _ ?_
 simp [ics,iv,dig,hl,hk]
theorem aBT (seed m:UInt64) (k:Nat) (hk:k < 18) (w:World):Calls Tryz.prog 198 #[.agg (nmc (oB seed k)),.int .i64 (k:Int),.int .i64 0,.int .i64 (dig m k)] w fun e w'=>e=.returned (.agg (nmc (oD seed m k)))∧Ext w w':=by
 have hb:=aDd m k hk
 have:=pJ (oB seed k) k 0 (dig m k) w (by omega) (by omega) (by omega) (by omega)
 rwa [Int.sub_zero] at this
theorem aHe (m:UInt64) (sig:List UInt64) (k:Nat) (hk:k < 18) (w:World):Calls Tryz.prog 255 #[.agg (nmc (gM sig k)),.int .i64 (k:Int),.int .i64 (dig m k),.int .i64 15] w fun e w'=>e=.returned (.agg (nmc (zI m sig k)))∧Ext w w':=by
 have hb:=aDd m k hk
 exact aFr _ k (dig m k) 15 w (by omega) (by omega) (by omega) (by omega)
theorem mO (seed m:UInt64) (w:World) :
  Calls Tryz.prog 139 #[.agg (nmc seed),.agg (nmc m)] w fun e w'=>∃ A c,e=.returned (.slice A 18 c)∧SlN w' A 18 c (fT seed m)∧Ext w w':=by
 go_enter Tryz.func139,Tryz.ntmps139
 go_wp2_with (with_reducible refine bJ rfl (.tmp 3) rfl (w.heap.size+1) 0 rfl m ?h1 ?_)
 case h1=>exact dW (Blk.newAt _ _ _ _ (by simp))
 go_wp2_with fail
 refine (nR m _).mono ?_
 rintro e w0 ⟨b,cd,rfl,hra,hbg,he0⟩
 go_wp2_with fail
 have hS0:Blk w0 w.heap.size 30 (nmc seed):=((Blk.new w _ _).alloc _).ext he0
 have hE0:Ext w w0:=(((Ext.refl w).alloc' _).alloc' _).trans he0
 have hbl:=jP hra (by intro h;have:=congrArg List.length h;simp [ics,jC] at this)
 go_loopw [6,7] (fun v i wr=>∃ (k:Nat) (A:Option Addr) (c:Nat),k≤18∧i=.int .i64 (k:Int)∧v=.slice A k c∧wr.ownsRow w0.heap.size 30 8 (.slice A k c) k (ncs ((List.range k).map (oD seed m)))∧Ext w0 wr) (fun _ i _=>18 - (intOf i).toNat)
 case atStart=>exact ⟨0,_,_,by omega,rfl,rfl,World.ownsRow_nil _ _ _ _,Ext.refl _⟩
 case round =>
  obtain ⟨k,A,c,hk,rfl,rfl,hO,hB⟩:=hrel
  by_cases hlt:k < 18
  ·have hS := hS0.ext hB
   have hrs:=dW hS
   have hcd:=qC (bK hra (hB.block b hbl)) k hlt
   rw [Nat.zero_add] at hcd
   have HR:=zh (show (List.range (k+1)).map (oD seed m)=(List.range k).map (oD seed m) ++ [oD seed m k] by rw [List.range_succ,List.map_append];rfl)
   have hu:=Tryz.underlying30
   have hi:=sQ seed
   have hk8:(k:Int) < 18:=by omega
   go_wp2_with fail
   have SS:∀ w',Ext w0 w'→(∀ i,i < 8→w'.cell? ⟨w.heap.size,i,none⟩=some (.int .u8 (nb8 seed i)))∧w'.cell? ⟨b,k,none⟩=some (.int .i64 (dig m k)):=fun w' hx=>⟨fV (hS0.ext hx),(hx.cell (p:=⟨b,k,none⟩) hbl).trans (by have:=qC hra k hlt;rwa [Nat.zero_add] at this)⟩
   have HSS:=zh SS
   clear SS
   have hszr:=hB.size
   have hX0:Ext wr wr.drew:=(Ext.refl wr).drew'
   have hG:∀ (w2:World) (o:Obj),w0.heap.size≤w2.heap.size→w0.heap.size≤(w2.alloc o).heap.size:=fun w2 o h=>by simp;omega
   have HG:=zh hG
   clear hG
   go_region_held3 (fun w'=>(∀ i,i < 8→w'.cell? ⟨w.heap.size,i,none⟩=some (.int .u8 (nb8 seed i)))∧w'.cell? ⟨b,k,none⟩=some (.int .i64 (dig m k))) (first | exact HSS.out _ (hB.trans hX0) | exact HSS.out _ (hB.trans hX1) | exact HSS.out _ (hB.trans hX2) | exact HSS.out _ ((hB.trans hX2).alloc' _) | exact HSS.out _ hw3) (first | (go_at_call 199;refine (qW seed k _).mono ?_;rintro e w1 ⟨rfl,he1⟩;have hX1:=hX0.trans he1) | (go_at_call 198;refine (aBT seed m k hlt _).mono ?_;rintro e w2 ⟨rfl,he2⟩;have hX2:=hX1.trans he2;have hO2:=aU hO hX2;have hsz2:=Nat.le_trans hszr hX2.size) | (refine tH cX rfl (.tmp 14) (.tmp 24) rfl w0.heap.size A k c (ncs ((List.range k).map (oD seed m))) (by rfl) (hO2.alloc _) (some ⟨w2.heap.size,0,none⟩) 1 1 (ncs [oD seed m k]) (by rfl) (Rd.newN _ _ _ _ rfl) (by rw [dD];rfl) (nI _) (by omega) (by omega) (HG.out _ _ hsz2) w0 (Below.alloc (Below.trans hB (hX2.mono hszr)) hsz2 _) ?_;intro A1 c1 w3 ho3 hw3 hs3))
   go_wp2_with fail
   go_roundw
   case rel=>exact ⟨k+1,A1,c1,by omega,by go_num,by go_num,by rw [HR.out,fF];exact ho3,hw3⟩
   case measure=>simp [intOf];omega
  obtain rfl:k=18:=by omega
  go_wp2_with fail
  go_ret
  exact ⟨A,c,rfl,SlN.of_own hO,hE0.trans hB⟩
theorem aIv {fn:Func} {p q:Tmp} (hres:fn.results=#[.cell p 30,.tmp q]) (tmps:Array Value) (w1:World) (g:Nat) (r:UInt64) (v:Value) (hp:tmps.getD p undef=.pointer (some ⟨g,0,none⟩)) (hq:tmps.getD q undef=v) (hb:Blk w1 g 30 (nmc r)) :
  (results fn tmps).run Tryz.prog w1=.ok (.tuple #[.agg (nmc r),v]) w1:=by
 have hp':tmps[p]?.getD undef=.pointer (some ⟨g,0,none⟩):=by simpa using hp
 have hq':tmps[q]?.getD undef=v:=by simpa using hq
 simp [results,hres,hp',hq',asAddr,run_loadVar_row w1 g 30 30 (nmc r) (0,0) _ hb Tryz.underlying30 rfl (eO r)]
theorem rU (m:UInt64) (A:Option Addr) (c:Nat) (sig:List UInt64) (w:World) (h:SlN w A 18 c sig) :
  Calls Tryz.prog 237 #[.agg (nmc m),.slice A 18 c] w fun e w'=>e=.returned (.tuple #[.agg (nmc (cW m sig)),.bool true])∧Ext w w':=by
 have hmk:=aJg (zI m sig)
 obtain ⟨b1,o1,rfl,hr1,hb1⟩:=h.at (by omega)
 have hlen:=h.len
 go_enter Tryz.func237,Tryz.ntmps237
 go_wp2_with (with_reducible refine bJ rfl (.tmp 2) rfl w.heap.size 0 rfl m ?h1 ?_)
 case h1=>exact dW (((Blk.new w _ _).alloc _).alloc _)
 go_wp2_with fail
 refine (aDc m _).mono ?_
 rintro e w0 ⟨b,cd,rfl,hra,hbg,he0⟩
 go_wp2_with fail
 have hZ0:Blk w0 (w.heap.size+1) 30 zcs.toArray:=((Blk.newAt _ _ _ _ (by simp)).alloc _).ext he0
 have hT0:Blk w0 (w.heap.size+2) 30 (ncs (mC (zI m sig) 18 0)).toArray:=(Blk.newAt _ _ _ _ (by simp)).ext he0
 have hE0:Ext w w0:=((((Ext.refl w).alloc' _).alloc' _).alloc' _).trans he0
 have hbw:b ≠ w.heap.size+2:=by simp at hbg;omega
 go_loopw [17] (fun i wr=>∃ (k:Nat),k≤18∧i=.int .i64 (k:Int)∧Blk wr (w.heap.size+1) 30 zcs.toArray∧Blk wr (w.heap.size+2) 30 (ncs (mC (zI m sig) 18 k)).toArray∧wr.rangeAt b 0 (ics (oQ m))∧Ext w wr) (fun i _=>18 - (intOf i).toNat)
 case atStart=>exact ⟨0,by omega,rfl,hZ0,hT0,hra,hE0⟩
 case round =>
  obtain ⟨k,hk,rfl,hZ,hT,hra,hE⟩:=hrel
  by_cases hlt:k < 18
  ·have hcd := qC hra k hlt
   rw [Nat.zero_add] at hcd
   have hrs:=pV (bK hr1 (hE.block b1 hb1)) (k:=k) (by omega)
   go_wp2_with (with_reducible refine bJ rfl (.tmp 26) rfl b1 (o1+k * 8) rfl (gM sig k) hrs ?_)
   refine (aHe m sig k hlt _).mono ?_
   rintro e w2 ⟨rfl,hE2⟩
   have hT2:=hT.ext hE2
   have hF:=zh (aAF (zI m sig) 18 k hlt)
   have hth:w2.there (w.heap.size+2) (k * 8) 8:=xJ hT2 (by rw [List.size_toArray,dD,jX _ _ _ hk];omega)
   have hra2:=bK hra (hE2.block b (jP hra (by intro h;have:=congrArg List.length h;simp [ics,jC] at this)))
   go_wp2_with (with_reducible refine aW rfl _ _ rfl (w.heap.size+2) (k * 8) _ rfl rfl hth ?_)
   go_roundw
   case rel=>exact ⟨k+1,by omega,by go_num,(hZ.ext hE2).setCells_far (by omega) _ _,by rw [← hF.out];exact aGQ hT2 (by rw [jX _ _ _ hk];exact hlt) _,World.rangeAt_setCells_apart hra2 _ _ _ (.inl hbw),Below.setCells' (Ext.trans hE hE2) (by omega) _ _⟩
   case measure=>simp [intOf];omega
  obtain rfl:k=18:=by omega
  rw [xK] at hT
  have hsl:SlN wr (some ⟨w.heap.size+2,0,none⟩) 18 18 ((List.range 18).map (zI m sig)):=SlN.of_blk hT (by simp) (by omega)
  go_wp2_with fail
  refine (aCE _ _ _ _ _ hsl (by omega)).mono ?_
  rintro e w3 ⟨rfl,he3⟩
  have hb0:=hZ.ext he3
  go_wp2_with (with_reducible refine aW rfl _ _ rfl (w.heap.size+1) 0 _ rfl rfl (eE hb0) ?_)
  refine bodyPost_ret (v:=.tuple #[.agg (nmc (cW m sig)),.bool true]) (aIv rfl _ _ (w.heap.size+1) _ _ rfl rfl (blkN hb0 _)) rfl ⟨rfl,Below.setCells' (Ext.trans hE he3) (by omega) _ _⟩
end
section
open Go.RowKit
class RowT (α:Type) where
 sz:Nat
 z:α
 enc:α→List Value
 ok:α→World→Prop
 pos:0 < sz
 len:∀ x,(enc x).length=sz
 one:∀ x,∀ u ∈ enc x,u.oneCell'=true
 ext:∀ x w w',ok x w→Ext w w'→ok x w'
section
variable {α:Type} [RowT α]
def gcs (L:List α):List Value:=L.flatMap RowT.enc
theorem aDP:gcs ([]:List α)=[]:=rfl
theorem dC (x:α) (r:List α):gcs (x :: r)=RowT.enc x ++ gcs r:=by simp [gcs]
theorem fO (x:α):gcs [x]=RowT.enc x:=by simp [gcs]
theorem bD (a b:List α):gcs (a ++ b)=gcs a ++ gcs b:=by simp [gcs]
theorem aH (L:List α):(gcs L).length=L.length * RowT.sz α:=by
 induction L with
 | nil=>simp [gcs]
 | cons x r ih=>rw [dC,List.length_append,RowT.len,ih,List.length_cons,Nat.add_mul,Nat.one_mul,Nat.add_comm]
theorem bF (L:List α):∀ u ∈ gcs L,u.oneCell'=true:=by
 intro u hu
 simp only [gcs,List.mem_flatMap] at hu
 obtain ⟨x,_,h⟩:=hu
 exact RowT.one x u h
theorem eF (L:List α) (k:Nat):(gcs L).drop (k * RowT.sz α)=gcs (L.drop k):=by
 induction k generalizing L with
 | zero=>simp
 | succ k ih =>
  cases L with
  | nil=>simp [gcs]
  | cons n r =>
   rw [dC,List.drop_succ_cons,← ih r,show (k+1) * RowT.sz α=(RowT.enc n).length+k * RowT.sz α from by rw [RowT.len,Nat.add_mul,Nat.one_mul,Nat.add_comm],List.drop_append,List.drop_of_length_le (by omega)]
   simp
theorem gS (L:List α) (k:Nat):(gcs L).take (k * RowT.sz α)=gcs (L.take k):=by
 induction k generalizing L with
 | zero=>simp [gcs]
 | succ k ih =>
  cases L with
  | nil=>simp [gcs]
  | cons n r =>
   rw [dC,List.take_succ_cons,dC,← ih r,show (k+1) * RowT.sz α=(RowT.enc n).length+k * RowT.sz α from by rw [RowT.len,Nat.add_mul,Nat.one_mul,Nat.add_comm],List.take_append,List.take_of_length_le (by omega)]
   simp
def aM (L:List α) (k:Nat):α:=L.getD k (RowT.z)
theorem cD {L:List α} {k:Nat} (h:k < L.length):L[k]=aM L k:=by simp [aM,h]
theorem aGz {L:List α} {k:Nat} (h:k < L.length):((gcs L).drop (k * RowT.sz α)).take (RowT.sz α)=RowT.enc (aM L k):=by
 rw [eF,List.drop_eq_getElem_cons h,dC,List.take_append_of_le_length (by rw [RowT.len];omega),List.take_of_length_le (by rw [RowT.len];omega),cD h]
theorem gI {L:List α} {k:Nat} (h:k < L.length):L.take (k+1)=L.take k ++ [aM L k]:=by
 rw [List.take_succ_eq_append_getElem h,cD h]
theorem jS {L:List α} {k:Nat} (h:k < L.length):aM L k ∈ L:=by
 rw [← cD h];exact List.getElem_mem _
structure SlG (w:World) (A:Option Addr) (n c:Nat) (L:List α):Prop where
 len:L.length=n
 le:n≤c
 cap:c≤9223372036854775807
 rd:Rd w A (gcs L)
 ok:∀ R,R ∈ L→RowT.ok R w
variable {w w':World} {A:Option Addr} {n c:Nat} {L:List α}
theorem SlG.ext (h:SlG w A n c L) (e:Ext w w'):SlG w' A n c L:=⟨h.len,h.le,h.cap,h.rd.ext e,fun R hR=>RowT.ext _ _ _ (h.ok R hR) e⟩
theorem SlG.at (h:SlG w A n c L) (hn:0 < n):∃ b o,A=some ⟨b,o,none⟩∧w.rangeAt b o (gcs L)∧b < w.heap.size :=
 h.rd.at (by
  intro e
  have:=congrArg List.length e
  rw [aH,h.len] at this
  have:=Nat.mul_pos hn (RowT.pos (α:=α))
  simp at *;omega)
theorem SlG.nil (w:World):SlG w none 0 0 ([]:List α):=⟨rfl,Nat.le_refl _,Nat.zero_le _,.nil,fun R hR=>by cases hR⟩
theorem SlG.nth (h:SlG w A n c L) {k:Nat} (hk:k < n):RowT.ok (aM L k) w:=h.ok _ (jS (by rw [h.len];exact hk))
theorem cP {b o k:Nat} (h:w.rangeAt b o (gcs L)) (hk:k < L.length):w.rangeAt b (o+k * RowT.sz α) (RowT.enc (aM L k)):=by
 have h1:=aY (k:=RowT.sz α) (cB (k:=k * RowT.sz α) h)
 rwa [aGz hk] at h1
theorem SlG.upto (h:SlG w A n c L) {k c':Nat} (hk:k≤n) (hc:k≤c') (hc':c'≤9223372036854775807):SlG w A k c' (L.take k):=by
 refine ⟨by rw [List.length_take,h.len];omega,hc,hc',?_,fun R hR=>h.ok R (List.mem_of_mem_take hR)⟩
 rw [← gS];exact h.rd.take _
theorem SlG.cut (h:SlG w A n c L) {k:Nat} (hk:k≤n) (hkc:k < c):SlG w (A.map (·.add (k * RowT.sz α))) (n - k) (c - k) (L.drop k):=by
 refine ⟨by rw [List.length_drop,h.len],by have:=h.le;omega,by have:=h.cap;omega,?_,fun R hR=>h.ok R (List.mem_of_mem_drop hR)⟩
 have:=h.rd.cut (n:=n) (k:=k) (c:=c) (size:=RowT.sz α) (by rw [aH,h.len]) hk h.le
 rwa [if_neg (by omega),eF] at this
def OwnG (w:World) (base:Nat) (e:TypeId) (A:Option Addr) (n c:Nat) (L:List α):Prop:=w.ownsRow base e (RowT.sz α) (.slice A n c) n (gcs L)
section
variable {base:Nat} {e:TypeId}
theorem OwnG.len (h:OwnG w base e A n c L):L.length=n:=by
 have:=h.1;rw [aH] at this;exact Nat.eq_of_mul_eq_mul_right RowT.pos this
theorem OwnG.sl (h:OwnG w base e A n c L) (ok:∀ R,R ∈ L→RowT.ok R w):SlG w A n c L:=by
 obtain ⟨h1,h2⟩:=dO h
 exact ⟨h.len,h1,h2,Rd.of_own h,ok⟩
theorem OwnG.nil (w:World) (base:Nat) (e:TypeId):OwnG w base e none 0 0 ([]:List α):=World.ownsRow_nil w base e _
theorem OwnG.ext (h:OwnG w base e A n c L) (he:Ext w w'):OwnG w' base e A n c L:=aU h he
theorem OwnG.mono {base':Nat} (h:OwnG w base e A n c L) (hb:base'≤base):OwnG w base' e A n c L:=bC h hb
end
theorem aIU {sz:Nat} (hsz:RowT.sz α=sz) {b o:Nat}:∀ (n:Nat),(∀ j,j < n→∃ y:α,w.rangeAt b (o+j * sz) (RowT.enc y)∧RowT.ok y w)→∃ L:List α,L.length=n∧w.rangeAt b o (gcs L)∧∀ R,R ∈ L→RowT.ok R w:=by
 intro n
 subst hsz
 induction n with
 | zero=>intro _;exact ⟨[],rfl,fun j v hv=>by simp [gcs] at hv,fun R hR=>by cases hR⟩
 | succ n ih =>
  intro h
  obtain ⟨L,hL,hr,hok⟩:=ih (fun j hj=>h j (by omega))
  obtain ⟨y,hy,hyo⟩:=h n (by omega)
  refine ⟨L ++ [y],by simp [hL],?_,?_⟩
  ·rw [bD, fO]
   refine mP hr ?_
   rw [aH,hL];exact hy
  intro R hR
  rcases List.mem_append.1 hR with hR | hR
  ·exact hok R hR
  rw [List.mem_singleton.1 hR];exact hyo
end
def Grw (w w':World):Prop:=Ext w w'∧w.drawn≤w'.drawn
theorem Grw.refl (w:World):Grw w w:=⟨Ext.refl w,Nat.le_refl _⟩
theorem Grw.ext {w w':World} (h:Grw w w'):Ext w w':=h.1
theorem Grw.trans {a b c:World} (h:Grw a b) (k:Grw b c):Grw a c:=⟨h.1.trans k.1,Nat.le_trans h.2 k.2⟩
theorem Grw.drew {a b:World} (h:Grw a b):Grw a b.drew:=⟨h.1.drew',by have:=h.2;show a.drawn≤b.drawn+1;omega⟩
theorem Grw.drewN {a b:World} (h:Grw a b) (n:Nat):Grw a (b.drewN n):=⟨⟨h.1.os,h.1.tape,h.1.output,h.1.size,h.1.block⟩,by have:=h.2;show a.drawn≤b.drawn+n;omega⟩
theorem Grw.alloc {a b:World} (h:Grw a b) (o:Obj):Grw a (b.alloc o):=⟨h.1.alloc' o,h.2⟩
theorem Grw.set {a b:World} (h:Grw a b) {p:Addr} (hp:a.heap.size≤p.block) (u:Value):Grw a (b.setCell p u):=⟨h.1.setCell hp u,h.2⟩
theorem Grw.grow {a b:World} (h:Grw a b):∃ q os,b=Sort.grow (a.drewN q) os:=by
 obtain ⟨⟨h1,h2,h3,h4,h5⟩,h6⟩:=h
 refine ⟨b.drawn - a.drawn,b.heap.extract a.heap.size b.heap.size,?_⟩
 obtain ⟨bh,bt,bd,bo,bu⟩:=b
 obtain ⟨ah,at',ad,ao,au⟩:=a
 simp only at h1 h2 h3 h4 h5 h6
 subst h1;subst h2;subst h3
 simp only [Sort.grow,World.drewN,World.mk.injEq,true_and,and_true]
 refine ⟨?_,by omega⟩
 apply Array.ext_getElem?
 intro i
 by_cases hi:i < ah.size
 ·rw [Array.getElem?_append_left hi,h5 i hi]
 rw [Array.getElem?_append_right (by omega)]
 simp [Array.getElem?_extract]
 by_cases hb:i < bh.size
 ·rw [if_pos (by omega),show ah.size+(i - ah.size)=i from by omega]
 rw [if_neg (by omega)];simp;omega
end
section
open Go.RowKit
attribute [local go_sem ↓] Go.wp_at_zero Go.wp_at_succ
structure SlZ (w:World) (A:Option Addr) (n c:Nat) (l:List Int):Prop where
 len:l.length=n
 le:n≤c
 cap:c≤9223372036854775807
 rd:Rd w A (ics l)
def pR (l:List Int) (k:Nat):Int:=l.getD k 0
section
variable {w w':World} {A:Option Addr} {n c:Nat} {l:List Int}
theorem SlZ.ext (h:SlZ w A n c l) (e:Ext w w'):SlZ w' A n c l:=⟨h.len,h.le,h.cap,h.rd.ext e⟩
theorem SlZ.nil (w:World):SlZ w none 0 0 []:=⟨rfl,Nat.le_refl _,Nat.zero_le _,.nil⟩
theorem SlZ.at (h:SlZ w A n c l) (hn:0 < n):∃ b o,A=some ⟨b,o,none⟩∧w.rangeAt b o (ics l)∧b < w.heap.size :=
 h.rd.at (by intro e;have:=congrArg List.length e;rw [aCU,h.len] at this;simp at this;omega)
theorem aJf {b o k:Nat} (h:w.rangeAt b o (ics l)) (hk:k < l.length):w.cell? ⟨b,o+k,none⟩=some (.int .i64 (pR l k)):=by
 refine h k _ ?_
 simp [ics,iv,pR,List.getD,hk]
end
abbrev dY (N Z:Int) (A1:Option Addr) (n1 c1:Nat) (A2:Option Addr) (n2 c2:Nat) (A3:Option Addr) (n3 c3:Nat):Array Value:=#[.int .i64 N,.int .i64 Z,.slice A1 n1 c1,.slice A2 n2 c2,.slice A3 n3 c3]
def sN (z:Int):Bool:=decide (0≤z∧z≤1099511627776)
def xY (N Z:Int) (n1 n2 n3:Nat):Prop:=1≤N∧N≤7∧1≤n1∧n1≤10∧N≤(n1:Int)∧1≤n2∧n2≤16∧n3=n2∧0≤Z∧Z≤1099511627776
instance (N Z:Int) (n1 n2 n3:Nat):Decidable (xY N Z n1 n2 n3):=by unfold xY;infer_instance
def jF (N Z:Int) (n1 n2 n3:Nat) (l:List Int):Bool:=decide (xY N Z n1 n2 n3) && decide (∀ k,k < l.length→sN (pR l k)=true)
theorem jE {N Z:Int} {n1 n2 n3:Nat} {l:List Int} (h:¬ xY N Z n1 n2 n3):jF N Z n1 n2 n3 l=false:=by
 unfold jF;rw [decide_eq_false h,Bool.false_and]
theorem aHg {N Z:Int} {n1 n2 n3:Nat} {l:List Int} {k:Nat} (hk:k < l.length) (h:sN (pR l k)=false):jF N Z n1 n2 n3 l=false:=by
 unfold jF;rw [decide_eq_false (p:=∀ k,k < l.length→sN (pR l k)=true) (fun hh=>by rw [hh k hk] at h;cases h),Bool.and_false]
theorem aFs {N Z:Int} {n1 n2 n3:Nat} {l:List Int} (h:xY N Z n1 n2 n3) (h2:∀ k,k < l.length→sN (pR l k)=true):jF N Z n1 n2 n3 l=true:=by
 unfold jF;rw [decide_eq_true h,decide_eq_true h2];rfl
def lZ (b:Bool):Int:=if b then 0 else 1
theorem vV (z:Int) (h:0≤z∧z≤1099511627776) (w:World):Calls Tryz.prog 144 #[.int .i64 z] w fun e w'=>e=.returned (.bool true)∧w=w':=by
 obtain ⟨h1,h2⟩:=h
 go_enter Tryz.func144,Tryz.ntmps144
 go_wp2_with fail
 go_ret
 exact ⟨rfl,rfl⟩
theorem yH (z:Int) (h:z < 0 ∨ 1099511627776 < z) (w:World):Calls Tryz.prog 144 #[.int .i64 z] w fun e w'=>e=.returned (.bool false)∧w=w':=by
 by_cases h1:0≤z
 ·have h2 : decide (z ≤ 1099511627776) = false := decide_eq_false (by omega)
  go_enter Tryz.func144,Tryz.ntmps144
  go_wp2_with fail
  go_ret
  exact ⟨rfl,rfl⟩
 have h2:decide (0≤z)=false:=decide_eq_false h1
 go_enter Tryz.func144,Tryz.ntmps144
 go_wp2_with fail
 go_ret
 exact ⟨rfl,rfl⟩
theorem aDp (z:Int) (w:World):Calls Tryz.prog 144 #[.int .i64 z] w fun e w'=>e=.returned (.bool (sN z))∧w=w':=by
 by_cases h:0≤z∧z≤1099511627776
 ·rw [show sN z=true from decide_eq_true h];exact vV z h w
 rw [show sN z=false from decide_eq_false h];exact yH z (by omega) w
theorem tD (N Z:Int) (A1:Option Addr) (n1 c1:Nat) (A2:Option Addr) (n2 c2:Nat) (A3:Option Addr) (n3 c3:Nat) (l:List Int) (w:World) (hS:SlZ w A3 n3 c3 l) (hm1:n1≤9223372036854775807) (hm2:n2≤9223372036854775807) :
  Calls Tryz.prog 88 #[.agg (dY N Z A1 n1 c1 A2 n2 c2 A3 n3 c3)] w fun e w'=>e=.returned (.int .i64 (lZ (jF N Z n1 n2 n3 l)))∧Ext w w':=by
 have hlen:=hS.len
 have hle:=hS.le
 have hcap:=hS.cap
 have HE:=zh ((Ext.refl w).alloc' (.cells (dY N Z A1 n1 c1 A2 n2 c2 A3 n3 c3) 40))
 have HB:=zh (Blk.new w 40 (dY N Z A1 n1 c1 A2 n2 c2 A3 n3 c3))
 have HS:=zh hS
 have HLEN:=zh hlen
 clear hS hlen
 by_cases t0:1≤N
 ·have d0 : decide (N < 1) = false := decide_eq_false (by omega)
  by_cases t1:N≤7
  ·have d1 : decide (7 < N) = false := decide_eq_false (by omega)
   by_cases t2:(1:Int)≤(n1:Int)
   ·have d2 : decide ((n1 : Int) < 1) = false := decide_eq_false (by omega)
    by_cases t3:(n1:Int)≤10
    ·have d3 : decide ((10 : Int) < (n1 : Int)) = false := decide_eq_false (by omega)
     by_cases t4:N≤(n1:Int)
     ·have d4 : decide ((n1 : Int) < N) = false := decide_eq_false (by omega)
      by_cases t5:(1:Int)≤(n2:Int)
      ·have d5 : decide ((n2 : Int) < 1) = false := decide_eq_false (by omega)
       by_cases t6:(n2:Int)≤16
       ·have d6 : decide ((16 : Int) < (n2 : Int)) = false := decide_eq_false (by omega)
        by_cases t7:n3=n2
        ·subst t7
         by_cases t8:0≤Z∧Z≤1099511627776
         ·have HH := zh (show xY N Z n1 n3 n3 from ⟨t0, t1, by omega, by omega, t4, by omega, by omega, rfl, t8.1, t8.2⟩)
          have HM:=zh (vV Z t8)
          obtain ⟨b,o,rfl,hr,hb⟩:=HS.out.at (by omega)
          have HR:=zh hr
          have HBL:=zh hb
          clear hr hb t8
          go_enter Tryz.func88,Tryz.ntmps88
          go_wp2_with fail
          go_quiet (fail)
          go_wp2_with (go_at_call 144;(with_reducible refine (HM.out _).mono ?_);rintro e wv ⟨rfl,rfl⟩)
          go_loopw [59] (fun i wr=>∃ q:Nat,q≤n3∧i=.int .i64 (q:Int)∧Hid (∀ j,j < q→sN (pR l j)=true)∧Ext (w.alloc (.cells (dY N Z A1 n1 c1 A2 n3 c2 (some ⟨b,o,none⟩) n3 c3) 40)) wr) (fun i _=>n3 - (intOf i).toNat)
          case atStart=>exact ⟨0,Nat.zero_le _,rfl,zh (fun j hj=>by omega),eU _ _⟩
          case round =>
           obtain ⟨q,hq,rfl,HP,hX⟩:=hrel
           have HX:=zh hX
           have hra:=bK HR.out ((HE.out.trans hX).block b HBL.out)
           clear hX
           by_cases hlt:q < n3
           ·have hid := aJf hra (k := q) (by rw [HLEN.out]; exact hlt)
            have HQ:=zh (fun (hx:sN (pR l q)=true)=>show ∀ j,j < q+1→sN (pR l j)=true from fun j hj=>by
             rcases Nat.lt_or_ge j q with h | h
             ·exact HP.out j h
             obtain rfl:j=q:=by omega
             exact hx)
            have HN:=zh (fun (hx:sN (pR l q)=false)=>show lZ (jF N Z n1 n3 n3 l)=1 by rw [aHg (by rw [HLEN.out];exact hlt) hx];rfl)
            have HA:=zh (aDp (pR l q))
            have i0:(0:Int)≤(q:Int):=by omega
            have i1:(q:Int) < (n3:Int):=by omega
            clear hra
            rcases hx:sN (pR l q) with _ | _
            ·have HXX := zh (HN.out hx)
             rw [hx] at HA
             generalize pR l q=z at *
             clear hx HN HQ
             go_wp2_with fail
             refine (HA.out _).mono ?_
             rintro e wv ⟨rfl,rfl⟩
             go_wp2_with fail
             go_ret
             exact ⟨by rw [HXX.out];rfl,HE.out.trans HX.out⟩
            have HXX:=zh (HQ.out hx)
            rw [hx] at HA
            generalize pR l q=z at hid HA
            clear hx HN HQ
            go_wp2_with fail
            refine (HA.out _).mono ?_
            rintro e wv ⟨rfl,rfl⟩
            go_wp2_with fail
            go_roundw
            case rel=>exact ⟨q+1,by omega,by go_num,HXX,HX.out⟩
            case measure=>simp [intOf];omega
           obtain rfl:q=n3:=by omega
           have HF:=zh (show lZ (jF N Z n1 q q l)=0 by rw [aFs HH.out (fun k hk=>HP.out k (by rw [HLEN.out] at hk;exact hk))];rfl)
           go_wp2_with fail
           go_ret
           exact ⟨by rw [HF.out];rfl,HE.out.trans HX.out⟩
         have HM:=zh (yH Z (by omega))
         have HF:=zh (show lZ (jF N Z n1 n3 n3 l)=1 by rw [jE (fun h=>t8 ⟨h.2.2.2.2.2.2.2.2.1,h.2.2.2.2.2.2.2.2.2⟩)];rfl)
         clear HS
         go_enter Tryz.func88,Tryz.ntmps88
         go_wp2_with fail
         go_quiet (fail)
         go_wp2_with (go_at_call 144;(with_reducible refine (HM.out _).mono ?_);rintro e wv ⟨rfl,rfl⟩)
         go_ret
         exact ⟨by rw [HF.out];rfl,HE.out.trans (eU _ _)⟩
        have d7:((n3:Int) != (n2:Int))=true:=by simp;omega
        have d8:¬ (n3:Int)=(n2:Int):=by omega
        have HF:=zh (show lZ (jF N Z n1 n2 n3 l)=1 by rw [jE (fun h=>t7 h.2.2.2.2.2.2.2.1)];rfl)
        clear HS
        go_enter Tryz.func88,Tryz.ntmps88
        go_wp2_with fail
        go_quiet (fail)
        go_wp2_with fail
        go_ret
        exact ⟨by rw [HF.out];rfl,HE.out.trans (eU _ _)⟩
       have e6:(16:Int) < (n2:Int):=by omega
       have HF:=zh (show lZ (jF N Z n1 n2 n3 l)=1 by rw [jE (fun h=>t6 (by have:=h.2.2.2.2.2.2.1;omega))];rfl)
       clear HS
       go_enter Tryz.func88,Tryz.ntmps88
       go_wp2_with fail
       go_quiet (fail)
       go_wp2_with fail
       go_ret
       exact ⟨by rw [HF.out];rfl,HE.out.trans (eU _ _)⟩
      have e5:(n2:Int) < 1:=by omega
      have HF:=zh (show lZ (jF N Z n1 n2 n3 l)=1 by rw [jE (fun h=>t5 (by have:=h.2.2.2.2.2.1;omega))];rfl)
      clear HS
      go_enter Tryz.func88,Tryz.ntmps88
      go_wp2_with fail
      go_quiet (fail)
      go_wp2_with fail
      go_ret
      exact ⟨by rw [HF.out];rfl,HE.out.trans (eU _ _)⟩
     have e4:(n1:Int) < N:=by omega
     have HF:=zh (show lZ (jF N Z n1 n2 n3 l)=1 by rw [jE (fun h=>t4 (by have:=h.2.2.2.2.1;omega))];rfl)
     clear HS
     go_enter Tryz.func88,Tryz.ntmps88
     go_wp2_with fail
     go_quiet (fail)
     go_wp2_with fail
     go_ret
     exact ⟨by rw [HF.out];rfl,HE.out.trans (eU _ _)⟩
    have e3:(10:Int) < (n1:Int):=by omega
    have HF:=zh (show lZ (jF N Z n1 n2 n3 l)=1 by rw [jE (fun h=>t3 (by have:=h.2.2.2.1;omega))];rfl)
    clear HS
    go_enter Tryz.func88,Tryz.ntmps88
    go_wp2_with fail
    go_quiet (fail)
    go_wp2_with fail
    go_ret
    exact ⟨by rw [HF.out];rfl,HE.out.trans (eU _ _)⟩
   have e2:(n1:Int) < 1:=by omega
   have HF:=zh (show lZ (jF N Z n1 n2 n3 l)=1 by rw [jE (fun h=>t2 (by have:=h.2.2.1;omega))];rfl)
   clear HS
   go_enter Tryz.func88,Tryz.ntmps88
   go_wp2_with fail
   go_quiet (fail)
   go_wp2_with fail
   go_ret
   exact ⟨by rw [HF.out];rfl,HE.out.trans (eU _ _)⟩
  have e1:7 < N:=by omega
  have HF:=zh (show lZ (jF N Z n1 n2 n3 l)=1 by rw [jE (fun h=>t1 (by have:=h.2.1;omega))];rfl)
  clear HS
  go_enter Tryz.func88,Tryz.ntmps88
  go_wp2_with fail
  go_quiet (fail)
  go_wp2_with fail
  go_ret
  exact ⟨by rw [HF.out];rfl,HE.out.trans (eU _ _)⟩
 have e0:N < 1:=by omega
 have HF:=zh (show lZ (jF N Z n1 n2 n3 l)=1 by rw [jE (fun h=>t0 (by have:=h.1;omega))];rfl)
 clear HS
 go_enter Tryz.func88,Tryz.ntmps88
 go_wp2_with fail
 go_quiet (fail)
 go_wp2_with fail
 go_ret
 exact ⟨by rw [HF.out];rfl,HE.out.trans (eU _ _)⟩
end
end Go.Proofs.YtohmmcahpakokaaGreat
