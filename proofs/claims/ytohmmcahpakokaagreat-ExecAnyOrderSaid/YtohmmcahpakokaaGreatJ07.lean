import Derived.Test.YtohmmcahpakokaaGreatJ06
set_option maxRecDepth 100000
set_option maxHeartbeats 8000000
set_option linter.unusedVariables false
set_option linter.unusedSimpArgs false
namespace Go.Proofs.YtohmmcahpakokaaGreat
section
open Go.RowKit
attribute [local go_sem ↓] Go.wp_at_zero Go.wp_at_succ
theorem aKg (w:World):(Instr.makeSlice 45 (.int .i64 0) (.int .i64 144)).run Tryz.prog w=.ok (.slice (some ⟨w.heap.size,0,none⟩) 0 144) (w.alloc (.cells (madeCells (Value.int .u8 0).cells 144) 5)):=by
 obtain ⟨i,hi,hz,hs,hby⟩:=bI.get
 have h:=run_make (P:=Tryz.prog) w 45 5 i (.int .u8 0) bI.ut hi hz .i64 .i64 0 144 (by omega) (by omega) (by rw [hby];omega) (by omega)
 simpa [hs] using h
theorem rF (ns:List UInt64) (k:Nat) (hk:k < ns.length):(ns.take (k+1)).flatMap nmb=(ns.take k).flatMap nmb ++ nmb (ns.getD k 0):=by
 have e:ns[k]=ns.getD k 0:=by simp [hk]
 rw [List.take_succ_eq_append_getElem hk,List.flatMap_append,e];simp
theorem aDh (A:Option Addr) (n c:Nat) (ns:List UInt64) (w:World) (h:SlN w A n c ns) (hm:n≤1000000) :
  Calls Tryz.prog 256 #[.slice A n c] w fun e w'=>e=.returned (.agg (nmc (dM 34 (ns.flatMap nmb))))∧Ext w w':=by
 have hmk:=aKg
 have hlen:=h.len
 go_enter Tryz.func256,Tryz.ntmps256
 go_wp2_with fail
 go_loopw [3,9] (fun o i wr=>∃ (k:Nat) (A':Option Addr) (c':Nat),k≤n∧i=.int .i64 (k:Int)∧o=.slice A' (8 * k) c'∧OwnB wr (w.heap.size+1) 5 A' (8 * k) c' ((ns.take k).flatMap nmb)∧Below (w.heap.size+1) (w.alloc (.cells zcs.toArray 30)) wr∧w.heap.size+1≤wr.heap.size) (fun _ i _=>n - (intOf i).toNat)
 case atStart=>exact ⟨0,_,_,by omega,rfl,rfl,OwnB.made _ _ _ 144 _ (by simp) (Nat.le_refl _) (by omega) (size_madeCells _ _),Below.alloc (Below.refl _ _) (by simp) _,by simp⟩
 case round =>
  obtain ⟨k,A',c',hk,rfl,rfl,hO,hB,hsz⟩:=hrel
  by_cases hlt:k < n
  ·have hrk := h.ext (((Ext.refl w).alloc' _).trans (by simpa [Ext] using hB))
   obtain ⟨b,o,rfl,hra,hbl⟩:=hrk.at (by omega)
   have hnm:=aAe hra (k:=k) (by omega)
   have HF:=zh (rF ns k (by omega))
   generalize ns.getD k 0=x at *
   generalize (ns.take k).flatMap nmb=l at *
   go_wp2_with (first | (with_reducible refine bE rfl (.tmp 11) rfl b (o+k * 8) rfl x hnm ?_) | (refine lS rfl (.tmp 5) (.tmp 12) rfl wr.heap.size x rfl rfl rfl ?_) | (at_builtin;go_must (refine bZ bI rfl (.tmp 13) (.tmp 14) rfl (w.heap.size+1) _ _ _ l rfl (hO.alloc _) _ _ _ (nmb x) rfl ?r1 ?b1 ?c1 (w.alloc (.cells zcs.toArray 30)) ?w1 ?_)))
   case r1=>exact SlB.blkN (Blk.new wr _ (nmc x))
   case b1=>omega
   case c1=>simp;omega
   case w1=>exact Below.alloc hB hsz _
   intro A1 c1 w1 ho1 hw1 hs1
   go_wp2_with fail
   go_roundw
   case rel=>exact ⟨k+1,A1,c1,by omega,by go_num,by go_num,by rw [HF.out];exact ho1,hw1,by omega⟩
   case measure=>simp [intOf];omega
  obtain rfl:k=n:=by omega
  have HF:=zh (show (ns.take k).flatMap nmb=ns.flatMap nmb by rw [List.take_of_length_le (by omega)])
  rw [HF.out] at hO
  clear HF
  go_wp2_with fail
  refine (gX 34 _ _ _ _ _ hO.sl (by omega)).mono ?_
  rintro e w3 ⟨rfl,he3⟩
  have hE3:Below (w.heap.size+1) (w.alloc (.cells zcs.toArray 30)) w3:=Below.trans hB (he3.mono hsz)
  have hb0:Blk w3 w.heap.size 30 zcs.toArray:=(Blk.new w _ _).below hE3 (by omega)
  go_wp2_with (with_reducible refine aW rfl _ _ rfl w.heap.size 0 _ rfl rfl (dZ hb0) ?_)
  refine bodyPost_ret (v:=.agg (nmc (dM 34 (ns.flatMap nmb)))) (eL rfl _ _ w.heap.size _ rfl (blkN hb0 _)) rfl ⟨rfl,Below.setCells' (((Ext.refl w).alloc' _).trans (by simpa [Ext] using hE3)) (Nat.le_refl _) _ _⟩
theorem aBu (A:Option Addr) (n c:Nat) (ns:List UInt64) (w:World) (h:SlN w A n c ns) (hm:n≤1000000) :
  Calls Tryz.prog 222 #[.slice A n c] w fun e w'=>e=.returned (.agg (nmc (dM 34 (ns.flatMap nmb))))∧Ext w w':=by
 have hlen:=h.len
 go_enter Tryz.func222,Tryz.ntmps222
 go_wp2_with fail
 go_loopw [3,4] (fun o i wr=>∃ (k:Nat) (A':Option Addr) (c':Nat),k≤n∧i=.int .i64 (k:Int)∧o=.slice A' (8 * k) c'∧OwnB wr (w.heap.size+1) 5 A' (8 * k) c' ((ns.take k).flatMap nmb)∧Below (w.heap.size+1) (w.alloc (.cells zcs.toArray 30)) wr∧w.heap.size+1≤wr.heap.size) (fun _ i _=>n - (intOf i).toNat)
 case atStart=>exact ⟨0,_,_,by omega,rfl,rfl,OwnB.nil _ _ _,Below.refl _ _,by simp⟩
 case round =>
  obtain ⟨k,A',c',hk,rfl,rfl,hO,hB,hsz⟩:=hrel
  by_cases hlt:k < n
  ·have hrk := h.ext (((Ext.refl w).alloc' _).trans (by simpa [Ext] using hB))
   obtain ⟨b,o,rfl,hra,hbl⟩:=hrk.at (by omega)
   have hnm:=aAe hra (k:=k) (by omega)
   have HF:=zh (rF ns k (by omega))
   generalize ns.getD k 0=x at *
   generalize (ns.take k).flatMap nmb=l at *
   go_wp2_with (at_builtin;go_must (refine bZ bI rfl (.tmp 11) (.tmp 15) rfl (w.heap.size+1) _ _ _ l rfl hO _ _ _ (nmb x) rfl ?r1 ?b1 hsz (w.alloc (.cells zcs.toArray 30)) hB ?_))
   case r1=>exact ⟨aG x,Nat.le_refl _,by omega,.inr ⟨b,o+k * 8,rfl,hnm⟩⟩
   case b1=>omega
   intro A1 c1 w1 ho1 hw1 hs1
   go_wp2_with fail
   go_roundw
   case rel=>exact ⟨k+1,A1,c1,by omega,by go_num,by go_num,by rw [HF.out];exact ho1,hw1,by omega⟩
   case measure=>simp [intOf];omega
  obtain rfl:k=n:=by omega
  have HF:=zh (show (ns.take k).flatMap nmb=ns.flatMap nmb by rw [List.take_of_length_le (by omega)])
  rw [HF.out] at hO
  clear HF
  go_wp2_with fail
  refine (dH 34 _ _ _ _ _ hO.sl (by omega)).mono ?_
  rintro e w3 ⟨rfl,he3⟩
  have hE3:Below (w.heap.size+1) (w.alloc (.cells zcs.toArray 30)) w3:=Below.trans hB (he3.mono hsz)
  have hb0:Blk w3 w.heap.size 30 zcs.toArray:=(Blk.new w _ _).below hE3 (by omega)
  go_wp2_with (with_reducible refine aW rfl _ _ rfl w.heap.size 0 _ rfl rfl (dZ hb0) ?_)
  refine bodyPost_ret (v:=.agg (nmc (dM 34 (ns.flatMap nmb)))) (eL rfl _ _ w.heap.size _ rfl (blkN hb0 _)) rfl ⟨rfl,Below.setCells' (((Ext.refl w).alloc' _).trans (by simpa [Ext] using hE3)) (Nat.le_refl _) _ _⟩
def oD (seed:UInt64) (c:Nat):UInt64:=dM 32 (nmb seed ++ [toB (c:Int)])
def zX (seed:UInt64) (c:Nat):UInt64:=cE (oD seed c) (c:Int) 0 15
def uH (seed:UInt64):UInt64:=dM 34 (((List.range 18).map (zX seed)).flatMap nmb)
def dig (m:UInt64) (c:Nat):Int:=(oT m).getD c 0
def oF (seed m:UInt64) (c:Nat):UInt64:=cE (oD seed c) (c:Int) 0 (dig m c).toNat
def fI (seed m:UInt64):List UInt64:=(List.range 18).map (oF seed m)
def gC (l:List UInt64) (k:Nat):UInt64:=l.getD k 0
theorem pV {w:World} {ns:List UInt64} {b o k:Nat} (h:w.rangeAt b o (ncs ns)) (hk:k < ns.length):w.rangeAt b (o+k * 8) (bcs (nmb (gC ns k))):=aAe h hk
def zV (m:UInt64) (sig:List UInt64) (c:Nat):UInt64:=cE (gC sig c) (c:Int) (dig m c) (15 - dig m c).toNat
def cS (m:UInt64) (sig:List UInt64):UInt64:=dM 34 (((List.range 18).map (zV m sig)).flatMap nmb)
theorem aKe (F:Nat→UInt64) (w:World):(Instr.makeSlice 37 (.int .i64 18) (.int .i64 18)).run Tryz.prog w=.ok (.slice (some ⟨w.heap.size,0,none⟩) 18 18) (w.alloc (.cells (ncs (mB F 18 0)).toArray 30)):=by
 obtain ⟨i,hi,hz,hs,hby⟩:=dC.get
 have h:=run_make (P:=Tryz.prog) w 37 30 i (.agg zcs.toArray) dC.ut hi hz .i64 .i64 18 18 (by omega) (by omega) (by rw [hby];omega) (by omega)
 rw [hs,show (18:Int).toNat * 8=18 * 8 from rfl,uV] at h
 simpa [mB] using h
theorem dP {w:World} {g:Nat} {t:TypeId} {n:UInt64} (h:Blk w g t (nmc n)):w.rangeAt g 0 (bcs (nmb n)):=by have:=aD h;rwa [bF] at this
theorem qV (seed:UInt64) (k:Nat) (w:World):Calls Tryz.prog 199 #[.agg (nmc seed),.int .i64 (k:Int)] w fun e w'=>e=.returned (.agg (nmc (oD seed k)))∧Ext w w':=zP seed k w
theorem aHy (seed:UInt64) (k:Nat) (w:World):Calls Tryz.prog 198 #[.agg (nmc (oD seed k)),.int .i64 (k:Int),.int .i64 0,.int .i64 15] w fun e w'=>e=.returned (.agg (nmc (zX seed k)))∧Ext w w' :=
 pL _ k 0 15 w (by omega) (by omega) (by omega) (by omega)
theorem Rd.newN (w:World) (t:TypeId) (n:UInt64) (g:Nat) (hg:w.heap.size=g):Rd (w.alloc (.cells (nmc n) t)) (some ⟨g,0,none⟩) (ncs [n]):=by
 subst hg;have:=Rd.of_blk (Blk.new w t (nmc n));rw [bF] at this;simpa [ncs] using this
theorem qW (seed:UInt64) (w:World) :
  Calls Tryz.prog 196 #[.agg (nmc seed)] w fun e w'=>e=.returned (.agg (nmc (uH seed)))∧Ext w w':=by
 go_enter Tryz.func196,Tryz.ntmps196
 go_wp2_with fail
 go_loopw [3,4] (fun o i wr=>∃ (k:Nat) (A:Option Addr) (c:Nat),k≤18∧i=.int .i64 (k:Int)∧o=.slice A k c∧wr.ownsRow (w.heap.size+2) 30 8 (.slice A k c) k (ncs ((List.range k).map (zX seed)))∧Below (w.heap.size+2) ((w.alloc (.cells (nmc seed) 30)).alloc (.cells zcs.toArray 30)) wr∧w.heap.size+2≤wr.heap.size) (fun _ i _=>18 - (intOf i).toNat)
 case atStart=>exact ⟨0,_,_,by omega,rfl,rfl,World.ownsRow_nil _ _ _ _,Below.refl _ _,by simp⟩
 case round =>
  obtain ⟨k,A,c,hk,rfl,rfl,hO,hB,hsz⟩:=hrel
  have hS:Blk wr w.heap.size 30 (nmc seed):=((Blk.new w _ _).alloc _).below hB (by omega)
  have hZ:Blk wr (w.heap.size+1) 30 zcs.toArray:=(Blk.newAt _ _ _ _ (by simp)).below hB (by omega)
  by_cases hlt:k < 18
  ·have hrs := dP hS
   have HR:=zh (show (List.range (k+1)).map (zX seed)=(List.range k).map (zX seed) ++ [zX seed k] by rw [List.range_succ,List.map_append];rfl)
   go_wp2_with (with_reducible refine bE rfl (.tmp 1) rfl w.heap.size 0 rfl seed hrs ?_)
   refine (qV seed k _).mono ?_
   rintro e w1 ⟨rfl,he1⟩
   go_wp2_with fail
   refine (aHy _ _ _).mono ?_
   rintro e w2 ⟨rfl,he2⟩
   have hE2:=Ext.trans he1 he2
   have hO2:=bA hO hE2
   have hB2:=Below.trans hB (hE2.mono hsz)
   have hsz2:w.heap.size+2≤w2.heap.size:=Nat.le_trans hsz hE2.size
   go_wp2_with (at_builtin;go_must (refine fR dC rfl (.tmp 9) (.tmp 15) rfl (w.heap.size+2) _ _ _ _ rfl (hO2.alloc _) _ _ _ (ncs [zX seed k]) rfl (Rd.newN _ _ _ _ rfl) (by rw [cZ];rfl) (nF _) ?b1 ?c1 ?d1 ((w.alloc (.cells (nmc seed) 30)).alloc (.cells zcs.toArray 30)) ?w1 ?_))
   case b1=>omega
   case c1=>omega
   case d1=>simp;omega
   case w1=>exact Below.alloc hB2 hsz2 _
   intro A1 c1 w3 ho3 hw3 hs3
   go_wp2_with fail
   go_roundw
   case rel=>exact ⟨k+1,A1,c1,by omega,by go_num,by go_num,by rw [HR.out,eY];exact ho3,hw3,by omega⟩
   case measure=>simp [intOf];omega
  obtain rfl:k=18:=by omega
  go_wp2_with fail
  refine (aBu _ _ _ _ _ (SlN.of_own hO) (by omega)).mono ?_
  rintro e w3 ⟨rfl,he3⟩
  have hb0:=hZ.ext he3
  go_wp2_with (with_reducible refine aW rfl _ _ rfl (w.heap.size+1) 0 _ rfl rfl (dZ hb0) ?_)
  refine bodyPost_ret (v:=.agg (nmc (uH seed))) (eL rfl _ _ (w.heap.size+1) _ rfl (blkN hb0 _)) rfl ⟨rfl,Below.setCells' (Below.trans ((((Ext.refl w).alloc' _).alloc' _).trans (by simpa [Ext] using hB)) (he3.mono (by omega))) (by omega) _ _⟩
theorem aKl (l:List UInt8):∀ z ∈ dg l,0≤z∧z≤15:=by
 intro z hz
 simp only [dg,List.mem_flatMap] at hz
 obtain ⟨c,_,hc⟩:=hz
 have:=c.toNat_lt
 simp at hc
 omega
theorem aHu (m:UInt64):∀ z ∈ oT m,0≤z∧z≤15:=by
 intro z hz
 unfold oT at hz
 rw [List.mem_append] at hz
 rcases hz with h | h
 ·exact aKl _ z h
 have hd:=aAA (nmb m)
 rw [aG] at hd
 simp at h
 omega
theorem aDE (m:UInt64) (c:Nat) (hc:c < 18):0≤dig m c∧dig m c≤15:=by
 have hl:=iU m
 refine aHu m _ ?_
 unfold dig
 have:(oT m).getD c 0=(oT m)[c]'(by omega):=by simp [hl,hc]
 rw [this]
 exact List.getElem_mem _
theorem qC {w:World} {b o:Nat} {m:UInt64} (h:w.rangeAt b o (ics (oT m))) (k:Nat) (hk:k < 18):w.cell? ⟨b,o+k,none⟩=some (.int .i64 (dig m k)):=by
 have hl:=iU m
 refine h k _ ?_
 simp [ics,iv,dig,hl,hk]
theorem aCr (seed m:UInt64) (k:Nat) (hk:k < 18) (w:World):Calls Tryz.prog 198 #[.agg (nmc (oD seed k)),.int .i64 (k:Int),.int .i64 0,.int .i64 (dig m k)] w fun e w'=>e=.returned (.agg (nmc (oF seed m k)))∧Ext w w':=by
 have hb:=aDE m k hk
 have:=pL (oD seed k) k 0 (dig m k) w (by omega) (by omega) (by omega) (by omega)
 rwa [Int.sub_zero] at this
theorem aHK (m:UInt64) (sig:List UInt64) (k:Nat) (hk:k < 18) (w:World):Calls Tryz.prog 255 #[.agg (nmc (gC sig k)),.int .i64 (k:Int),.int .i64 (dig m k),.int .i64 15] w fun e w'=>e=.returned (.agg (nmc (zV m sig k)))∧Ext w w':=by
 have hb:=aDE m k hk
 exact aGe _ k (dig m k) 15 w (by omega) (by omega) (by omega) (by omega)
theorem mM (seed m:UInt64) (w:World) :
  Calls Tryz.prog 139 #[.agg (nmc seed),.agg (nmc m)] w fun e w'=>∃ A c,e=.returned (.slice A 18 c)∧SlN w' A 18 c (fI seed m)∧Ext w w':=by
 go_enter Tryz.func139,Tryz.ntmps139
 go_wp2_with (with_reducible refine bE rfl (.tmp 3) rfl (w.heap.size+1) 0 rfl m ?h1 ?_)
 case h1=>exact dP (Blk.newAt _ _ _ _ (by simp))
 go_wp2_with fail
 refine (nQ m _).mono ?_
 rintro e w0 ⟨b,cd,rfl,hra,hbg,he0⟩
 go_wp2_with fail
 have hS0:Blk w0 w.heap.size 30 (nmc seed):=((Blk.new w _ _).alloc _).ext he0
 have hE0:Ext w w0:=(((Ext.refl w).alloc' _).alloc' _).trans he0
 have hbl:=jK hra (by intro h;have:=congrArg List.length h;simp [ics,iU] at this)
 go_loopw [6,7] (fun v i wr=>∃ (k:Nat) (A:Option Addr) (c:Nat),k≤18∧i=.int .i64 (k:Int)∧v=.slice A k c∧wr.ownsRow w0.heap.size 30 8 (.slice A k c) k (ncs ((List.range k).map (oF seed m)))∧Ext w0 wr) (fun _ i _=>18 - (intOf i).toNat)
 case atStart=>exact ⟨0,_,_,by omega,rfl,rfl,World.ownsRow_nil _ _ _ _,Ext.refl _⟩
 case round =>
  obtain ⟨k,A,c,hk,rfl,rfl,hO,hB⟩:=hrel
  by_cases hlt:k < 18
  ·have hS := hS0.ext hB
   have hrs:=dP hS
   have hcd:=qC (aX hra (hB.block b hbl)) k hlt
   rw [Nat.zero_add] at hcd
   have HR:=zh (show (List.range (k+1)).map (oF seed m)=(List.range k).map (oF seed m) ++ [oF seed m k] by rw [List.range_succ,List.map_append];rfl)
   have hu:=Tryz.underlying30
   have hi:=sU seed
   have hk8:(k:Int) < 18:=by omega
   go_wp2_with fail
   have SS:∀ w',Ext w0 w'→(∀ i,i < 8→w'.cell? ⟨w.heap.size,i,none⟩=some (.int .u8 (nb8 seed i)))∧w'.cell? ⟨b,k,none⟩=some (.int .i64 (dig m k)):=fun w' hx=>⟨fK (hS0.ext hx),(hx.cell (p:=⟨b,k,none⟩) hbl).trans (by have:=qC hra k hlt;rwa [Nat.zero_add] at this)⟩
   have HSS:=zh SS
   clear SS
   have hszr:=hB.size
   have hX0:Ext wr wr.drew:=(Ext.refl wr).drew'
   have hG:∀ (w2:World) (o:Obj),w0.heap.size≤w2.heap.size→w0.heap.size≤(w2.alloc o).heap.size:=fun w2 o h=>by simp;omega
   have HG:=zh hG
   clear hG
   go_region_held3 (fun w'=>(∀ i,i < 8→w'.cell? ⟨w.heap.size,i,none⟩=some (.int .u8 (nb8 seed i)))∧w'.cell? ⟨b,k,none⟩=some (.int .i64 (dig m k))) (first | exact HSS.out _ (hB.trans hX0) | exact HSS.out _ (hB.trans hX1) | exact HSS.out _ (hB.trans hX2) | exact HSS.out _ ((hB.trans hX2).alloc' _) | exact HSS.out _ hw3) (first | (go_at_call 199;refine (qV seed k _).mono ?_;rintro e w1 ⟨rfl,he1⟩;have hX1:=hX0.trans he1) | (go_at_call 198;refine (aCr seed m k hlt _).mono ?_;rintro e w2 ⟨rfl,he2⟩;have hX2:=hX1.trans he2;have hO2:=bA hO hX2;have hsz2:=Nat.le_trans hszr hX2.size) | (refine tJ dC rfl (.tmp 14) (.tmp 24) rfl w0.heap.size A k c (ncs ((List.range k).map (oF seed m))) (by rfl) (hO2.alloc _) (some ⟨w2.heap.size,0,none⟩) 1 1 (ncs [oF seed m k]) (by rfl) (Rd.newN _ _ _ _ rfl) (by rw [cZ];rfl) (nF _) (by omega) (by omega) (HG.out _ _ hsz2) w0 (Below.alloc (Below.trans hB (hX2.mono hszr)) hsz2 _) ?_;intro A1 c1 w3 ho3 hw3 hs3))
   go_wp2_with fail
   go_roundw
   case rel=>exact ⟨k+1,A1,c1,by omega,by go_num,by go_num,by rw [HR.out,eY];exact ho3,hw3⟩
   case measure=>simp [intOf];omega
  obtain rfl:k=18:=by omega
  go_wp2_with fail
  go_ret
  exact ⟨A,c,rfl,SlN.of_own hO,hE0.trans hB⟩
theorem aJo {fn:Func} {p q:Tmp} (hres:fn.results=#[.cell p 30,.tmp q]) (tmps:Array Value) (w1:World) (g:Nat) (r:UInt64) (v:Value) (hp:tmps.getD p undef=.pointer (some ⟨g,0,none⟩)) (hq:tmps.getD q undef=v) (hb:Blk w1 g 30 (nmc r)) :
  (results fn tmps).run Tryz.prog w1=.ok (.tuple #[.agg (nmc r),v]) w1:=by
 have hp':tmps[p]?.getD undef=.pointer (some ⟨g,0,none⟩):=by simpa using hp
 have hq':tmps[q]?.getD undef=v:=by simpa using hq
 simp [results,hres,hp',hq',asAddr,run_loadVar_row w1 g 30 30 (nmc r) (0,0) _ hb Tryz.underlying30 rfl (eI r)]
theorem rT (m:UInt64) (A:Option Addr) (c:Nat) (sig:List UInt64) (w:World) (h:SlN w A 18 c sig) :
  Calls Tryz.prog 237 #[.agg (nmc m),.slice A 18 c] w fun e w'=>e=.returned (.tuple #[.agg (nmc (cS m sig)),.bool true])∧Ext w w':=by
 have hmk:=aKe (zV m sig)
 obtain ⟨b1,o1,rfl,hr1,hb1⟩:=h.at (by omega)
 have hlen:=h.len
 go_enter Tryz.func237,Tryz.ntmps237
 go_wp2_with (with_reducible refine bE rfl (.tmp 2) rfl w.heap.size 0 rfl m ?h1 ?_)
 case h1=>exact dP (((Blk.new w _ _).alloc _).alloc _)
 go_wp2_with fail
 refine (aDD m _).mono ?_
 rintro e w0 ⟨b,cd,rfl,hra,hbg,he0⟩
 go_wp2_with fail
 have hZ0:Blk w0 (w.heap.size+1) 30 zcs.toArray:=((Blk.newAt _ _ _ _ (by simp)).alloc _).ext he0
 have hT0:Blk w0 (w.heap.size+2) 30 (ncs (mB (zV m sig) 18 0)).toArray:=(Blk.newAt _ _ _ _ (by simp)).ext he0
 have hE0:Ext w w0:=((((Ext.refl w).alloc' _).alloc' _).alloc' _).trans he0
 have hbw:b ≠ w.heap.size+2:=by simp at hbg;omega
 go_loopw [17] (fun i wr=>∃ (k:Nat),k≤18∧i=.int .i64 (k:Int)∧Blk wr (w.heap.size+1) 30 zcs.toArray∧Blk wr (w.heap.size+2) 30 (ncs (mB (zV m sig) 18 k)).toArray∧wr.rangeAt b 0 (ics (oT m))∧Ext w wr) (fun i _=>18 - (intOf i).toNat)
 case atStart=>exact ⟨0,by omega,rfl,hZ0,hT0,hra,hE0⟩
 case round =>
  obtain ⟨k,hk,rfl,hZ,hT,hra,hE⟩:=hrel
  by_cases hlt:k < 18
  ·have hcd := qC hra k hlt
   rw [Nat.zero_add] at hcd
   have hrs:=pV (aX hr1 (hE.block b1 hb1)) (k:=k) (by omega)
   go_wp2_with (with_reducible refine bE rfl (.tmp 26) rfl b1 (o1+k * 8) rfl (gC sig k) hrs ?_)
   refine (aHK m sig k hlt _).mono ?_
   rintro e w2 ⟨rfl,hE2⟩
   have hT2:=hT.ext hE2
   have hF:=zh (aBc (zV m sig) 18 k hlt)
   have hth:w2.there (w.heap.size+2) (k * 8) 8:=xM hT2 (by rw [List.size_toArray,cZ,jW _ _ _ hk];omega)
   have hra2:=aX hra (hE2.block b (jK hra (by intro h;have:=congrArg List.length h;simp [ics,iU] at this)))
   go_wp2_with (with_reducible refine aW rfl _ _ rfl (w.heap.size+2) (k * 8) _ rfl rfl hth ?_)
   go_roundw
   case rel=>exact ⟨k+1,by omega,by go_num,(hZ.ext hE2).setCells_far (by omega) _ _,by rw [← hF.out];exact aHA hT2 (by rw [jW _ _ _ hk];exact hlt) _,World.rangeAt_setCells_apart hra2 _ _ _ (.inl hbw),Below.setCells' (Ext.trans hE hE2) (by omega) _ _⟩
   case measure=>simp [intOf];omega
  obtain rfl:k=18:=by omega
  rw [xN] at hT
  have hsl:SlN wr (some ⟨w.heap.size+2,0,none⟩) 18 18 ((List.range 18).map (zV m sig)):=SlN.of_blk hT (by simp) (by omega)
  go_wp2_with fail
  refine (aDh _ _ _ _ _ hsl (by omega)).mono ?_
  rintro e w3 ⟨rfl,he3⟩
  have hb0:=hZ.ext he3
  go_wp2_with (with_reducible refine aW rfl _ _ rfl (w.heap.size+1) 0 _ rfl rfl (dZ hb0) ?_)
  refine bodyPost_ret (v:=.tuple #[.agg (nmc (cS m sig)),.bool true]) (aJo rfl _ _ (w.heap.size+1) _ _ rfl rfl (blkN hb0 _)) rfl ⟨rfl,Below.setCells' (Ext.trans hE he3) (by omega) _ _⟩
end
end Go.Proofs.YtohmmcahpakokaaGreat
