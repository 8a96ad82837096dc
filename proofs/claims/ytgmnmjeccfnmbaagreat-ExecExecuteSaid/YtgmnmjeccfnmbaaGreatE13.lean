import Derived.Test.YtgmnmjeccfnmbaaGreatE12
set_option maxRecDepth 100000
set_option maxHeartbeats 8000000
set_option linter.unusedVariables false
set_option linter.unusedSimpArgs false
namespace Go.Proofs.YtgmnmjeccfnmbaaGreat
open Go.Proofs.Tryz
section
open Go.RowKit
attribute [local go_sem ↓] Go.wp_at_zero Go.wp_at_succ
def eM:SgR:=⟨mE,none,0,0,[]⟩
abbrev sg0:Array Value:=#[.int .i64 0,.int .i64 0,.int .i64 0,.int .i64 0,.int .i64 0,.int .i64 0,.int .u8 0,.int .u8 0,.int .u8 0,.int .u8 0,.int .u8 0,.int .u8 0,.int .u8 0,.int .u8 0,.int .u8 0,.int .u8 0,.int .u8 0,.int .u8 0,.int .u8 0,.int .u8 0,.int .u8 0,.int .u8 0,.slice none 0 0]
theorem aLT:sg0=sgA eM:=by
 unfold sgA eM mE;simp only [bJ 0 aa,bJ 1 aa,bJ 2 aa,bJ 3 aa,bJ 4 aa,bJ 5 aa,bJ 6 aa,bJ 7 aa]
section
variable {o:Oper} {a:Act} {w:World} {ops:Array Oper} {rest:List Oper} {Q:Exit→Act→World→Prop}
theorem wD (hgd:o.guard=none) (x y:Operand) (ho:o.op=.store 126 x y) (g:Nat) (S:SgR) (hx:a.eval x=.pointer (some ⟨g,0,none⟩)) (hy:a.eval y=.agg (sgA S)) (ht:w.there g 0 23)
  (h:wpList prog ops Q rest (a.put o.dst undef) (w.setCells g 0 (sgA S).toList)):wpList prog ops Q (o :: rest) a w :=
 wpList_store_mid hgd 126 x y ho g 0 (sgA S) hx hy ht (by kernel_rfl) (aBg S) h
theorem eW (hgd:o.guard=none) (x y:Operand) (ho:o.op=.store 126 x y) (g:Nat) (hx:a.eval x=.pointer (some ⟨g,0,none⟩)) (hy:a.eval y=.agg sg0) (ht:w.there g 0 23)
  (h:wpList prog ops Q rest (a.put o.dst undef) (w.setCells g 0 (sgA eM).toList)):wpList prog ops Q (o :: rest) a w:=by
 refine wD hgd x y ho g eM hx (by rw [hy,aLT]) ht h
end
theorem oA {o:Oper} {a:Act} {ops:Array Oper} {S:World→Prop} (hw:Region.wanted o (yielded ops a.tmps)=true) (x:Operand) (ho:o.op=.load 124 x) (b of:Nat) (hx:a.eval x=.pointer (some ⟨b,of,none⟩)) (R:VtR) (hS:∀ w,S w→w.rangeAt b of (vtL R)):YieldsIf prog ops S o (.agg (vtA R)) a:=by
 have:=yieldsIf_load_mid (P:=prog) (S:=S) hw 124 x ho b of hx (vtL R) _ hS underlying124 rfl (by rw [qC];kernel_rfl)
 rw [aFJ] at this
 exact this
theorem aNT (A:Option Addr) (n c:Nat) (l:List UInt8) (w:World) (h:SlB w A n c l) (hn:n≤140737488351232):Calls prog 202 #[.slice A n c,.int .u64 0,.int .i64 0] w fun e w'=>∃ A' c',e=.returned (.slice A' n c')∧OwnB w' w.heap.size 5 A' n c' l∧Ext w w':=by
 have:=pA A n c l 0 0 aa w h hn
 refine this.mono ?_
 rintro e w' ⟨A',c',he,ho,hx⟩
 exact ⟨A',c',he,by simpa [cU] using ho,hx⟩
def sdC (l:List UInt8):Int:=if l.length < 393 then 2 else if 393 < l.length then 3 else vdC (l.take 23)
def uZ (w:World) (l:List UInt8) (e:Ending) (w':World):Prop:=∃ S:SgR,e=.returned (.tuple #[.agg (sgA S),.int .i64 (sdC l)])∧S.ok w'∧Ext w w'∧(sdC l=0→S.v=cZ (l.take 23)∧eS S.v=true∧S.n=370∧S.sig=l.drop 23)∧(sdC l ≠ 0→S=eM)∧OwnB w' w.heap.size 5 S.A S.n S.c S.sig
theorem dB:mE.wf:=⟨oE (by decide) (by decide),oE (by decide) (by decide),oE (by decide) (by decide),oE (by decide) (by decide),oE (by decide) (by decide),oE (by decide) (by decide)⟩
theorem mF (w:World):eM.ok w:=⟨dB,SlB.nil w⟩
theorem aCK (A:Option Addr) (n c:Nat) (l:List UInt8) (w:World) (hS:SlB w A n c l) (hn:n < 393):Calls prog 190 #[.slice A n c] w (uZ w l):=by
 have hcap:=hS.cap
 have hle:=hS.le
 have HC:=zh (show sdC l=2 from se)
 have HE:=zh ((Ext.refl w).alloc' (.cells sg0 126))
 have HB:=zh (Blk.new w 126 sg0)
 have ht:(w.alloc (.cells sg0 126)).there w.heap.size 0 23:=aI HB.out
 have hst:=aN (ds:=sgA eM) HB.out rfl
 have i1:((n:Int) < 393):=aa
 clear hS
 go_enter func190,ntmps190
 go_wp2_with (first | (with_reducible refine eW rfl (.tmp 2) (.tmp 10) rfl w.heap.size rfl rfl ht ?_))
 exact wo
theorem aEF (A:Option Addr) (n c:Nat) (l:List UInt8) (w:World) (hS:SlB w A n c l) (hn:393 < n):Calls prog 190 #[.slice A n c] w (uZ w l):=by
 have hcap:=hS.cap
 have hle:=hS.le
 have HC:=zh (show sdC l=3 from pz)
 have HE:=zh ((Ext.refl w).alloc' (.cells sg0 126))
 have HB:=zh (Blk.new w 126 sg0)
 have ht:(w.alloc (.cells sg0 126)).there w.heap.size 0 23:=aI HB.out
 have hst:=aN (ds:=sgA eM) HB.out rfl
 have i1:(¬ (n:Int) < 393):=aa
 have i2:(393:Int) < (n:Int):=aa
 clear hS
 go_enter func190,ntmps190
 go_wp2_with (first | (with_reducible refine eW rfl (.tmp 2) (.tmp 15) rfl w.heap.size rfl rfl ht ?_))
 exact wq
theorem aGO (A:Option Addr) (c:Nat) (l:List UInt8) (w:World) (hS:SlB w A 393 c l):Calls prog 190 #[.slice A 393 c] w (uZ w l):=by
 have hl:=hS.len
 have hcap:=hS.cap
 have hle:=hS.le
 obtain ⟨b,o,rfl,hr,hb⟩:=hS.at aa
 have HC:=zh (show sdC l=vdC (l.take 23) from ru)
 have HE:=zh ((Ext.refl w).alloc' (.cells sg0 126))
 have HB:=zh (Blk.new w 126 sg0)
 have HS:=zh hS
 have HL:=zh hl
 have e1:(bcs l).take 23=bcs (l.take 23):=mj
 have e2:(bcs l).drop 23=bcs (l.drop 23):=mj
 have HA:=zh (fun (W:World) (h:Ext w W)=>show SlB W (some ⟨b,o,none⟩) 23 c (l.take 23) from oH nw ko aa aa)
 have HD:=zh (fun (W:World) (h:Ext w W)=>show SlB W (some ⟨b,o+23,none⟩) 370 (c - 23) (l.drop 23) from oH nu (by rw [List.length_drop];omega) aa aa)
 have hck:¬ c=23:=aa
 clear hS hr hl e1 e2
 go_enter func190,ntmps190
 go_wp2_with fail
 refine zcl (aCp _ c (l.take 23) _ (HA.out _ HE.out)) fun w1 he1=>?_
 have HX1:=zh (HE.out.trans he1)
 have HB1:=zh (HB.out.ext he1)
 have HWF:=zh (show (vdV (l.take 23)).wf from sd)
 have HV:=zh (show (vdC (l.take 23)=0∧vdV (l.take 23)=cZ (l.take 23)∧eS (vdV (l.take 23))=true) ∨ vdC (l.take 23)=11 from by
  exact BP)
 obtain ⟨v,hv⟩:=gx (vdV (l.take 23))
 obtain ⟨z,hz⟩:=gx (vdC (l.take 23))
 rw [hv,hz] at HV
 rw [hv] at HWF
 rw [hz] at HC
 rw [hv,hz]
 clear hv hz he1
 have HX2:=zh (HX1.out.alloc' (.cells (vtA v) 124))
 have HB2:=zh (HB1.out.alloc (.cells (vtA v) 124))
 have HV2:=zh (Blk.new w1 124 (vtA v))
 have HG:=zh HB1.out.lt
 have hth:(w1.alloc (.cells (vtA v) 124)).there w.heap.size 0 23:=aI HB2.out
 rcases HV.out with ⟨rfl,hd,hvd⟩ | rfl
 ·have HF := zh (And.intro hd hvd)
  clear hd hvd
  go_wp2_with (first | (with_reducible refine kM rfl (.tmp 4) (.tmp 20) rfl _ rfl v rfl rfl ?_))
  generalize w1.alloc (.cells (vtA v) 124)=W2 at HX2 HB2 HV2 hth ⊢
  have HN:=zh (show w1.heap.size ≠ w.heap.size from by have:=HG.out;omega)
  refine wp_region_held_drew (S:=fun W=>W.rangeAt w1.heap.size 0 (vtL v)) ab (aC HV2.out.drew) (fun aA=>?_)
  refine zu 0 (v:=.agg (vtA v)) aA ?_ (hy:=j5)
  refine zzr [1,2] ?_
  refine za 3 (fun K hK=>?_)
  refine Eq.mpr (if_pos dp) ?_
  go_simp
  go_at_call 202
  refine (aNT _ 370 (c - 23) (l.drop 23) _ (HD.out _ HX2.out.drew') aa).mono ?_
  rintro e w3 ⟨A3,c3,rfl,hO3,he3⟩
  refine hK.out _ _ (aC (HV2.out.drew.ext he3)) (fun aA=>?_)
  clear hK K
  try simp only [bB]
  refine zt 4 aA ?_
  refine za 5 (fun K hK=>?_)
  refine Eq.mpr (if_pos dp) ?_
  refine wp_store_mid 126 (.tmp 2) (.tmp 30) rfl w.heap.size 0 (sgA ⟨v,A3,370,c3,l.drop 23⟩) rfl ?hy (show w3.there w.heap.size 0 23 from aI (HB2.out.drew.ext he3)) ab (aBg _) ?_
  case hy=>rfl
  refine hK.out _ _ (World.rangeAt_setCells_apart (aC (HV2.out.drew.ext he3)) _ _ _ (.inl HN.out)) (fun aA=>?_)
  clear hK K
  try simp only [bB]
  refine zt 6 aA ?_
  refine wpd ?_
  have hst:=aN (ds:=sgA ⟨v,A3,370,c3,l.drop 23⟩) (HB2.out.drew.ext he3) rfl
  have hx3:Ext w w3:=Ext.trans HX2.out.drew' he3
  have hown:OwnB (w3.setCells w.heap.size 0 (sgA ⟨v,A3,370,c3,l.drop 23⟩).toList) w.heap.size 5 A3 370 c3 (l.drop 23) :=
   World.ownsRow.kept (bA hO3 (Nat.le_of_lt (show w.heap.size < W2.heap.size from HB2.out.lt))) (aB w3 w.heap.size _ 0) (.inr (Ne.symm (aL hO3 (HB2.out.drew.ext he3) ae)))
  exact uy
 have ht:=hth
 have hst:=aN (ds:=sgA eM) HB2.out rfl
 go_wp2_with (first | (with_reducible refine kM rfl (.tmp 4) (.tmp 20) rfl _ rfl v rfl rfl ?_) | (with_reducible refine eW rfl (.tmp 2) (.tmp 24) rfl w.heap.size rfl rfl ht ?_))
 exact Az
theorem aAx (A:Option Addr) (n c:Nat) (l:List UInt8) (w:World) (hS:SlB w A n c l):Calls prog 190 #[.slice A n c] w (uZ w l):=by
 rcases Nat.lt_trichotomy n 393 with h | h | h
 ·exact aCK A n c l w hS h
 ·subst h;exact aGO A c l w hS
 exact aEF A n c l w hS h
theorem aHi (x y:UInt8) (l:List UInt8):aZ (x :: y :: l) 0 2=x.toNat * 256+y.toNat:=by
 simp [aZ,bT]
theorem aGJ {pub:UInt64} {T:TxR} (h:T.sig.length < 2):vSg pub T=false:=by
 unfold vSg
 cases hv:gS pub 1 (cG T.ac T.sq T.L) T.sig with
 | false=>simp
 | true=>have:=aCr hv;omega
theorem vB (pub:UInt64) (T:TxR) (w:World) (hT:T.ok w):Calls prog 35 #[.agg (nmc pub),.agg (tA T)] w fun e w'=>e=.returned (.bool (vSg pub T))∧Ext w w':=by
 have hE:=((Ext.refl w).alloc' (.cells (nmc pub) 50)).alloc' (.cells (tA T) 36)
 obtain ⟨W0,hW0⟩:=gx ((w.alloc (.cells (nmc pub) 50)).alloc (.cells (tA T) 36))
 have HB0:=zh ((Blk.new w 50 (nmc pub)).alloc (.cells (tA T) 36))
 have HB1:=zh (show Blk ((w.alloc (.cells (nmc pub) 50)).alloc (.cells (tA T) 36)) (w.heap.size+1) 36 (tA T) from Blk.newAt _ _ _ _ dr)
 have HE:=zh hE
 have HT:=zh (hT.ext hE)
 rw [hW0] at HB0 HB1 HE HT
 have HSS:=zh (fun (W:World) (h:Ext W0 W)=>(⟨dM (HB0.out.ext h),kY (HB1.out.ext h)⟩:(∀ i,i < 8→W.cell? ⟨w.heap.size,i,none⟩=some (.int .u8 (nb8 pub i)))∧W.cell? ⟨w.heap.size+1,0,none⟩=some (.int .i64 T.ac)∧W.cell? ⟨w.heap.size+1,1,none⟩=some (.int .i64 T.sq)∧W.cell? ⟨w.heap.size+1,2,none⟩=some (.slice T.A T.n T.c)∧W.cell? ⟨w.heap.size+1,3,none⟩=some (.slice T.S T.m T.d)))
 have HV:=zh (fun (W:World) (h:Ext W0 W)=>eE T.ac T.sq T.A T.n T.c T.L W (HT.out.ext h).ops)
 obtain ⟨nm,hnm⟩:=gx (cG T.ac T.sq T.L)
 have HNM:=zh (fun (W:World) (h:Ext W0 W)=>show Calls prog 36 #[.agg (txA T.ac T.sq T.A T.n T.c)] W (fun e w'=>e=.returned (.agg (nmc nm))∧Ext W w') from by rw [← hnm];exact jP T.ac T.sq T.A T.n T.c T.L W (HT.out.ext h).ops)
 have HVF:=zh (fun (W:World) (h:Ext W0 W)=>pQ pub nm 1 T.S T.m T.d T.sig W (HT.out.ext h).sig)
 have HVS:=zh (show vSg pub T=(vTx T.ac T.sq T.L && (gS pub 1 nm T.sig && decide ((aZ T.sig 0 2:Int)=T.sq))) from by unfold vSg;rw [hnm])
 have HSH:=zh (@aGJ pub T)
 have HLEN:=zh hT.sig.len
 have hX:=(Ext.refl W0).drew'
 obtain ⟨q,q0,q1,q2,q3⟩:=HSS.out W0.drew hX
 have hmle:=HT.out.sig.le
 have hmcp:=HT.out.sig.cap
 clear hE hT hnm q
 cases hv:vTx T.ac T.sq T.L with
 | false =>
  rw [hv] at HV HVS
  have HVS:=zh (show vSg pub T=false from HVS.out)
  clear hv
  exact ue
 | true =>
  rw [hv] at HV HVS
  have HV:=zh (show ∀ (W:World) (h:Ext W0 W),Calls prog 33 #[.agg (txA T.ac T.sq T.A T.n T.c)] W (fun e w'=>e=.returned (.bool true)∧Ext W w') from HV.out)
  clear hv
  by_cases h2:T.m < 2
  ·have HVS := zh (show vSg pub T = false from HSH.out (by rw [HLEN.out]; exact h2))
   have d1:(T.m:Int) < 2:=aa
   have d2:decide ((T.m:Int) < 2)=true:=decide_eq_true d1
   exact ue
  have d1:¬ (T.m:Int) < 2:=aa
  have d2:decide ((T.m:Int) < 2)=false:=decide_eq_false d1
  obtain ⟨x,y,r,hl⟩:∃ x y r,T.sig=x :: y :: r:=by
   have:=HLEN.out
   match hh:T.sig,this with
   | [],h=>simp at h;omega
   | [_],h=>simp at h;omega
   | x :: y :: r,_=>exact ⟨x,y,r,rfl⟩
  obtain ⟨b,o,hA,hra,hbl⟩:=HT.out.sig.at aa
  have g0:=hra 0 (bv x) so
  have g1:=hra 1 (bv y) so
  rw [Nat.add_zero] at g0
  have HG:=zh (fun (W:World) (h:Ext W0 W)=>(⟨by have:=(aY hra (h.block b hbl)) 0 (bv x) so;rwa [Nat.add_zero] at this,(aY hra (h.block b hbl)) 1 (bv y) so⟩:W.cell? ⟨b,o,none⟩=some (.int .u8 (x.toNat:Int))∧W.cell? ⟨b,o+1,none⟩=some (.int .u8 (y.toNat:Int))))
  have hx8:=x.toNat_lt
  have hy8:=y.toNat_lt
  have e1:IntKind.i64.wrap ((x.toNat:Int) * 256)=(x.toNat:Int) * 256:=dt
  have e2:IntKind.i64.wrap ((x.toNat:Int) * 256+(y.toNat:Int))=(x.toNat:Int) * 256+(y.toNat:Int):=dt
  have HNA:=zh (show (aZ T.sig 0 2:Int)=(x.toNat:Int) * 256+(y.toNat:Int) by rw [hl,aHi];omega)
  rw [HNA.out] at HVS
  have i2:(1:Int) < (T.m:Int):=aa
  have i3:(0:Int) < (T.m:Int):=aa
  have i4:0 < T.m:=aa
  have HAe:=zh hA
  rw [hA] at HSS HVF
  have HK1:=zh (fun (W:World) (h:Ext W0 W)=>(⟨(HSS.out W h).2,HG.out W h⟩:(W.cell? ⟨w.heap.size+1,0,none⟩=some (.int .i64 T.ac)∧W.cell? ⟨w.heap.size+1,1,none⟩=some (.int .i64 T.sq)∧W.cell? ⟨w.heap.size+1,2,none⟩=some (.slice T.A T.n T.c)∧W.cell? ⟨w.heap.size+1,3,none⟩=some (.slice (some ⟨b,o,none⟩) T.m T.d))∧(W.cell? ⟨b,o,none⟩=some (.int .u8 (x.toNat:Int))∧W.cell? ⟨b,o+1,none⟩=some (.int .u8 (y.toNat:Int)))))
  clear g0 g1 hra hbl hl q0 q1 q2 q3
  obtain ⟨q,q0,q1,q2,q3⟩:=HSS.out W0.drew hX
  clear q
  by_cases hsq:(x.toNat:Int) * 256+(y.toNat:Int)=T.sq
  ·have d3 : ((x.toNat : Int) * 256 + (y.toNat : Int) != T.sq) = false := by simp [hsq]
   have HVS:=zh (show vSg pub T=gS pub 1 nm T.sig by rw [HVS.out,decide_eq_true hsq,Bool.and_true,Bool.true_and])
   have d4:((x.toNat:Int) * 256+(y.toNat:Int) == T.sq)=true:=by simp [hsq]
   have d5:decide ((x.toNat:Int) * 256+(y.toNat:Int)=T.sq)=true:=decide_eq_true hsq
   obtain ⟨vr,hvr⟩:=gx (gS pub 1 nm T.sig)
   rw [hvr] at HVF HVS
   clear hvr hsq
   go_enter func35,ntmps35
   go_wp2_with fail
   clear hW0 q0 q1 q2 q3
   go_region_held3 (fun w'=>(w'.cell? ⟨w.heap.size+1,0,none⟩=some (.int .i64 T.ac)∧w'.cell? ⟨w.heap.size+1,1,none⟩=some (.int .i64 T.sq)∧w'.cell? ⟨w.heap.size+1,2,none⟩=some (.slice T.A T.n T.c)∧w'.cell? ⟨w.heap.size+1,3,none⟩=some (.slice (some ⟨b,o,none⟩) T.m T.d))∧(w'.cell? ⟨b,o,none⟩=some (.int .u8 (x.toNat:Int))∧w'.cell? ⟨b,o+1,none⟩=some (.int .u8 (y.toNat:Int)))) (first | (with_reducible exact HK1.out _ hX) | fail "KEEP") (first | (go_at_call 33;(with_reducible refine zcl (HV.out _ hX) fun wa he=>?_);have hX:=hX.trans he;clear he) | fail "ARM")
   have hXk:=hX
   go_wp2_with fail
   clear hX
   have hX:=hXk.drew'
   go_region_held3 (fun w'=>(∀ i,i < 8→w'.cell? ⟨w.heap.size,i,none⟩=some (.int .u8 (nb8 pub i)))∧w'.cell? ⟨w.heap.size+1,0,none⟩=some (.int .i64 T.ac)∧w'.cell? ⟨w.heap.size+1,1,none⟩=some (.int .i64 T.sq)∧w'.cell? ⟨w.heap.size+1,2,none⟩=some (.slice T.A T.n T.c)∧w'.cell? ⟨w.heap.size+1,3,none⟩=some (.slice (some ⟨b,o,none⟩) T.m T.d)) (first | (with_reducible exact HSS.out _ hX) | fail "KEEP") (first | (go_at_call 36;(with_reducible refine zcl (HNM.out _ hX) fun wb he=>?_);have hX:=hX.trans he;clear he) | (go_at_call 88;(with_reducible refine zcl (HVF.out _ hX) fun wc he=>?_);have hX:=hX.trans he;clear he) | fail "ARM")
   all_goals (
    have HXF:=zh (HE.out.trans hX)
    clear hX hXk
    go_wp2_with fail
    go_ret
    exact ⟨kh,HXF.out⟩)
  have d3:((x.toNat:Int) * 256+(y.toNat:Int) != T.sq)=true:=by simp [hsq]
  have d4:decide ((x.toNat:Int) * 256+(y.toNat:Int)=T.sq)=false:=decide_eq_false hsq
  have HVS:=zh (show vSg pub T=false by rw [HVS.out,d4,Bool.and_false,Bool.and_false])
  clear hsq
  go_enter func35,ntmps35
  go_wp2_with fail
  clear hW0 q0 q1 q2 q3
  go_region_held3 (fun w'=>(w'.cell? ⟨w.heap.size+1,0,none⟩=some (.int .i64 T.ac)∧w'.cell? ⟨w.heap.size+1,1,none⟩=some (.int .i64 T.sq)∧w'.cell? ⟨w.heap.size+1,2,none⟩=some (.slice T.A T.n T.c)∧w'.cell? ⟨w.heap.size+1,3,none⟩=some (.slice (some ⟨b,o,none⟩) T.m T.d))∧(w'.cell? ⟨b,o,none⟩=some (.int .u8 (x.toNat:Int))∧w'.cell? ⟨b,o+1,none⟩=some (.int .u8 (y.toNat:Int)))) (first | (with_reducible exact HK1.out _ hX) | fail "KEEP") (first | (go_at_call 33;(with_reducible refine zcl (HV.out _ hX) fun wa he=>?_);have hX:=hX.trans he;clear he) | fail "ARM")
  have HXF:=zh (HE.out.trans hX)
  clear hX
  go_wp2_with fail
  go_ret
  exact ⟨kh,HXF.out⟩
theorem uO (x:UInt64) (w:World):Calls prog 161 #[.agg (nmc x)] w fun e w'=>e=.returned (.int .u64 (un x))∧Ext w w':=by
 have hl:=aK x
 obtain ⟨W0,hW0⟩:=gx (w.alloc (.cells (nmc x) 50))
 have HB:=zh (show Blk W0 w.heap.size 50 (nmc x) from by rw [← hW0];exact Blk.new _ _ _)
 have HE:=zh (show Ext w W0 from by rw [← hW0];exact (Ext.refl w).alloc' _)
 go_enter func161,ntmps161
 go_wp2_with fail
 clear hW0
 go_loopw [3,4] (fun v i wr=>∃ k:Nat,k≤8∧i=.int .i64 (k:Int)∧v=.int .u64 (bT ((nmb x).take k))∧W0=wr) (fun _ i _=>8 - (intOf i).toNat)
 case atStart=>exact ⟨0,aa,rfl,rfl,rfl⟩
 case round =>
  obtain ⟨k,hk,rfl,rfl,rfl⟩:=hrel
  by_cases hlt:k < 8
  ·have hix:W0.cell? ⟨w.heap.size,k,none⟩=some (.int .u8 (((nmb x).getD k 0).toNat:Int)):=by
    rw [HB.out.cell k]
    have hl:=aK x
    simp [nmc,bcs,bv,hl,hlt]
   have i1:(k:Int) < 8:=aa
   have hb:=kF ((nmb x).take k)
   rw [List.length_take,hl,Nat.min_eq_left aa] at hb
   have hb7:bT ((nmb x).take k) < 72057594037927936:=Nat.lt_of_lt_of_le hb (Nat.pow_le_pow_right (n:=256) (j:=7) aa aa)
   have hor:=vR _ ((nmb x).getD k 0) hb7
   have HS:=zh (show bT ((nmb x).take (k+1))=bT ((nmb x).take k) * 256+((nmb x).getD k 0).toNat by rw [oG _ _ aa,gB])
   clear hb hb7 hl
   generalize bT ((nmb x).take k)=a at *
   generalize (nmb x).getD k 0=c at *
   go_wp2_with fail
   go_roundw
   case rel=>exact ⟨k+1,aa,ar,lh,by first | rfl | trivial⟩
   case measure=>simp [intOf];omega
  have HS:=zh (show (bT ((nmb x).take k):Int)=un x by rw [List.take_of_length_le aa,mU];rfl)
  have i1:¬ (k:Int) < 8:=aa
  clear hl
  generalize bT ((nmb x).take k)=a at *
  go_wp2_with fail
  go_ret
  exact ⟨m8,HE.out⟩
theorem gG (x y:UInt64) (w:World):Calls prog 104 #[.agg (nmc x),.agg (nmc y)] w fun e w'=>e=.returned (.bool (decide (un x < un y)))∧Ext w w':=by
 have hE:=((Ext.refl w).alloc' (.cells (nmc x) 50)).alloc' (.cells (nmc y) 50)
 have HB1:=zh ((Blk.new w 50 (nmc x)).alloc (.cells (nmc y) 50))
 have HB2:=zh (show Blk ((w.alloc (.cells (nmc x) 50)).alloc (.cells (nmc y) 50)) (w.heap.size+1) 50 (nmc y) from Blk.newAt _ _ _ _ dr)
 have HE:=zh hE
 obtain ⟨W0,hW0⟩:=gx ((w.alloc (.cells (nmc x) 50)).alloc (.cells (nmc y) 50))
 rw [hW0] at HB1 HB2 HE
 have HC:=zh (fun (W:World) (h:Ext W0 W)=>And.intro (dM (HB1.out.ext h)) (dM (HB2.out.ext h)))
 clear hE
 go_enter func104,ntmps104
 go_wp2_with fail
 refine eV (S:=fun W=>Ext W0 W) ab ab ((Ext.refl W0).drew') ?_
 (refine zzx 0 ?_ (hy:=de))
 (refine cO (i:=1) (oi:=⟨some 6,.call { callee:=.value (.func 161),args:=#[.tmp 5],argTypes:=#[50] },165,"ref.go:30",#[⟨0,.data⟩],none⟩) (v:=?_) rfl ab ab (vU dp (fun W aP K hK=>?hy1_1)) ?_;case hy1_1=>(go_simp;go_at_call 161;(with_reducible refine zcl (uO x W) fun w1 he1=>?_);exact hK.out _ (aP.trans he1)))
 try simp only [bB]
 (refine zzx 2 ?_ (hy:=de))
 (refine cO (i:=3) (oi:=⟨some 8,.call { callee:=.value (.func 161),args:=#[.tmp 7],argTypes:=#[50] },165,"ref.go:30",#[⟨2,.data⟩,⟨1,.chain⟩],none⟩) (v:=?_) rfl ab ab (vU dp (fun W aP K hK=>?hy1_3)) ?_;case hy1_3=>(go_simp;go_at_call 161;(with_reducible refine zcl (uO y W) fun w1 he1=>?_);exact hK.out _ (aP.trans he1)))
 exact xl
theorem aDb (a b:VtR) (w:World):Calls prog 158 #[.agg (vtA a),.agg (vtA b)] w fun e w'=>e=.returned (.bool (tM a b))∧Ext w w':=by
 have hE:=((Ext.refl w).alloc' (.cells (vtA a) 124)).alloc' (.cells (vtA b) 124)
 have HB1:=zh ((Blk.new w 124 (vtA a)).alloc (.cells (vtA b) 124))
 have HB2:=zh (show Blk ((w.alloc (.cells (vtA a) 124)).alloc (.cells (vtA b) 124)) (w.heap.size+1) 124 (vtA b) from Blk.newAt _ _ _ _ dr)
 have HE:=zh hE
 obtain ⟨W0,hW0⟩:=gx ((w.alloc (.cells (vtA a) 124)).alloc (.cells (vtA b) 124))
 rw [hW0] at HB1 HB2 HE
 have hsz:W0.heap.size=w.heap.size+2:=by rw [← hW0];simp
 have HSZ:=zh hsz
 have g1:w.heap.size < W0.heap.size:=aa
 have g2:w.heap.size+1 < W0.heap.size:=aa
 obtain ⟨a0,a1,a2,a3,a4,a5,a6,a7⟩:=dI HB1.out
 obtain ⟨b0,b1,b2,b3,b4,b5,b6,b7⟩:=dI HB2.out
 have p1:=aAp HB1.out
 have p2:=aAp HB2.out
 have hq:=fun W=>rO a.pa b.pa W
 have hqi:=fun W=>yJ a.pa b.pa W
 clear hE a6 a7 b6 b7 hsz
 by_cases hpa:a.pa=b.pa
 ·rw [decide_eq_true hpa] at hq hqi
  rw [Bool.not_true] at hq
  have HPA:=zh hpa
  clear hpa
  go_enter func158,ntmps158
  go_wp2_with (first | (with_reducible refine aM rfl (.tmp 8) rfl w.heap.size 6 rfl a.pa p1 ?_) | (with_reducible refine aM rfl (.tmp 10) rfl (w.heap.size+1) 6 rfl b.pa p2 ?_) | (with_reducible refine kL rfl (.tmp 5) (.tmp 28) rfl _ rfl a rfl rfl ?_) | (with_reducible refine kL rfl (.tmp 6) (.tmp 39) rfl _ rfl b rfl rfl ?_))
  have HX:=zh (((Blk.new W0 220 (x5A a))).alloc (.cells (x5A b) 220))
  have HY:=zh (show Blk ((W0.alloc (.cells (x5A a) 220)).alloc (.cells (x5A b) 220)) (W0.heap.size+1) 220 (x5A b) from Blk.newAt _ _ _ _ dr)
  have HE1:=zh (((Ext.refl W0).alloc' (.cells (x5A a) 220)).alloc' (.cells (x5A b) 220))
  clear p1 p2 hq hqi a0 a1 a2 a3 a4 a5 b0 b1 b2 b3 b4 b5 g1 g2
  generalize (W0.alloc (.cells (x5A a) 220)).alloc (.cells (x5A b) 220)=W1 at HX HY HE1 ⊢
  go_loopw [7] (fun i wr=>∃ k:Nat,k≤5∧i=.int .i64 (k:Int)∧Hid (∀ j,j < k→x5n a j=x5n b j)∧Hid (Ext W1 wr)) (fun i _=>5 - (intOf i).toNat)
  case atStart=>exact ⟨0,aa,rfl,zh (fun j hj=>aa),zh (Ext.refl _)⟩
  case round =>
   obtain ⟨k,hk,rfl,HP,HZ⟩:=hrel
   by_cases hlt:k < 5
   ·exact tz
   obtain rfl:k=5:=aa
   have HE2:=zh (HE1.out.trans HZ.out)
   have HW:=zh (HE.out.trans HE2.out)
   have p1:=aAo (HB1.out.ext HE2.out)
   have p2:=aAo (HB2.out.ext HE2.out)
   obtain ⟨a0,a1,a2,a3,a4,a5,a6,a7⟩:=dI (HB1.out.ext HE2.out)
   obtain ⟨b0,b1,b2,b3,b4,b5,b6,b7⟩:=dI (HB2.out.ext HE2.out)
   clear a0 a1 a2 a3 a4 a6 a7 b0 b1 b2 b3 b4 b6 b7
   have hq:=fun W=>rO a.va b.va W
   have hqi:=fun W=>yJ a.va b.va W
   by_cases hva:a.va=b.va
   ·exact As
   have HV:=zh (aGg HPA.out HP.out hva)
   rw [decide_eq_false hva] at hq hqi
   rw [Bool.not_false] at hq
   clear hva
   go_wp2_with (first | (with_reducible refine aM rfl (.tmp 58) rfl w.heap.size 14 rfl a.va p1 ?_) | (with_reducible refine aM rfl (.tmp 60) rfl (w.heap.size+1) 14 rfl b.va p2 ?_) | (with_reducible refine aM rfl (.tmp 63) rfl w.heap.size 14 rfl a.va p1 ?_) | (with_reducible refine aM rfl (.tmp 65) rfl (w.heap.size+1) 14 rfl b.va p2 ?_))
   refine zcl (gG a.va b.va wr) fun w1 he1=>?_
   exact BU
 have HV:=zh (aGi hpa)
 rw [decide_eq_false hpa] at hq hqi
 rw [Bool.not_false] at hq
 clear hpa
 go_enter func158,ntmps158
 go_wp2_with (first | (with_reducible refine aM rfl (.tmp 8) rfl w.heap.size 6 rfl a.pa p1 ?_) | (with_reducible refine aM rfl (.tmp 10) rfl (w.heap.size+1) 6 rfl b.pa p2 ?_) | (with_reducible refine aM rfl (.tmp 13) rfl w.heap.size 6 rfl a.pa p1 ?_) | (with_reducible refine aM rfl (.tmp 15) rfl (w.heap.size+1) 6 rfl b.pa p2 ?_))
 refine zcl (gG a.pa b.pa W0) fun w1 he1=>?_
 exact Cj
theorem xY {w:World} {A:Option Addr} {n c:Nat} {C:List DeR} (h:SlG w A n c C) {k:Nat} (hk:k < n):∃ b o,A=some ⟨b,o,none⟩∧w.cell? ⟨b,o+k * 11+10,none⟩=some (.int .i64 (aS C k).a):=by
 obtain ⟨b,o,rfl,hr,-⟩:=h.at aa
 have h1:w.rangeAt b (o+k * 11) (RowT.enc (aS C k)):=cN hr (by rw [h.len];exact hk)
 exact ⟨b,o,rfl,h1 10 _ rfl⟩
theorem jJ (s:StR) (c:CeR) (w:World) (h:s.ok w) (hc:ceW c):Calls prog 54 #[.agg (ssA s),.agg (ceA c)] w fun e w'=>e=.returned (.int .i64 (cX s.C c))∧Ext w w':=by
 obtain ⟨W,hW⟩:=gx ((w.alloc (.cells (ssA s) 30)).alloc (.cells (ceA c) 61))
 have HB:=zh (show Blk W w.heap.size 30 (ssA s) from cg)
 have HC:=zh (show Blk W (w.heap.size+1) 61 (ceA c) from ag)
 have HE:=zh (show Ext w W from ai)
 have q0:=HB.out.cell 0
 have q1:=HB.out.cell 1
 have q2:=HB.out.cell 2
 have q3:=HB.out.cell 3
 have q4:=HB.out.cell 4
 have r1:W.rangeAt (w.heap.size+1) 0 (RowT.enc c):=aC HC.out
 have HS:=zh h
 have hl1:=h.s1.len
 have hle:=h.s1.le
 have hcap:=h.s1.cap
 have HCW:=zh hc
 obtain ⟨v1,hv1⟩:=gx (Value.agg (ceA c))
 have HV1:=zh hv1
 have HL:=zh hl1
 rcases kD (fun x:DeR=>decide (x.c=c)) s.C with hno | ⟨k,hk,h1,h2⟩
 ·have HF := zh (yC s c W (h.ext HE.out) hc (-1) (.inl ⟨rfl, hno⟩))
  have HG:=zh (kN (vW hno))
  rw [hv1] at HF
  clear hno h hc hv1 hl1
  go_enter func54,ntmps54
  go_wp2_with (first | (with_reducible refine aD ceP rfl (.tmp 3) rfl (w.heap.size+1) 0 rfl c v1 HV1.out r1 ?_) | fail "A")
  refine zcl HF.out fun w5 he5=>?_
  have HX:=zh (HE.out.trans he5)
  clear hW he5 r1 q0 q1 q2 q3 q4
  go_wp2_with fail
  go_ret
  exact ⟨kz,HX.out⟩
 have HF:=zh (yC s c W (h.ext HE.out) hc (k:Int) (.inr ⟨k,rfl,hk,h1,h2⟩))
 have HG:=zh (kN (sJ hk h1 h2))
 have hk':k < s.n1:=aa
 rw [hv1] at HF
 clear h1 h2 h hc hv1 hl1 hk
 go_enter func54,ntmps54
 go_wp2_with (first | (with_reducible refine aD ceP rfl (.tmp 3) rfl (w.heap.size+1) 0 rfl c v1 HV1.out r1 ?_) | fail "A")
 refine zcl HF.out fun w5 he5=>?_
 have HX:=zh (HE.out.trans he5)
 clear hW
 have p0:w5.cell? ⟨w.heap.size,0,none⟩=some (.slice s.A1 s.n1 s.c1):=(HB.out.ext he5).cell 0
 obtain ⟨b,o,hA,hcell⟩:=xY (HS.out.ext HX.out).s1 hk'
 rw [hA] at p0
 have i0:(0:Int)≤(k:Int):=aa
 have i1:(k:Int) < (s.n1:Int):=aa
 clear he5 r1 q0 q1 q2 q3 q4 hA
 go_wp2_with fail
 go_ret
 exact ⟨kz,HX.out⟩
theorem aIW {L:List UInt64} {x:UInt64}:(∃ k,k < L.length∧aS L k=x) ↔ x ∈ L:=by
 constructor
 ·rintro ⟨k,hk,rfl⟩;exact lF hk
 intro h
 obtain ⟨k,hk,rfl⟩:=List.getElem_of_mem h
 exact ⟨k,hk,(cH hk).symm⟩
def aMI (L:List UInt64) (x:UInt64) (w:World) (e:Ending) (w':World):Prop:=∃ r:Int,e=.returned (.int .i64 r)∧(decide (r ≥ 0)=decide (x ∈ L))∧Ext w w'
theorem aHu (A:Option Addr) (n c:Nat) (L:List UInt64) (x:UInt64) (w:World) (h:SlG w A n c L):Calls prog 170 #[.slice A n c,.agg (nmc x)] w (aMI L x w):=by
 have HS:=zh (h.ext ((Ext.refl w).alloc' (.cells (nmc x) 50)))
 have HB:=zh (Blk.new w 50 (nmc x))
 have HE:=zh ((Ext.refl w).alloc' (.cells (nmc x) 50))
 have hle:=h.le
 have hcap:=h.cap
 have HL:=zh h.len
 obtain ⟨W,hW⟩:=gx (w.alloc (.cells (nmc x) 50))
 rw [hW] at HS HB HE
 clear h
 go_enter func170,ntmps170
 go_wp2_with fail
 clear hW
 go_loopw [8] (fun vi wr=>∃ k:Nat,vi=.int .i64 (k:Int)∧k≤n∧Hid (∀ j,j < k→aS L j ≠ x)∧Hid (Ext W wr)) (fun i _=>n - (intOf i).toNat)
 case atStart=>exact ⟨0,rfl,Nat.zero_le _,zh (fun j hj=>absurd hj (Nat.not_lt_zero _)),zh (Ext.refl W)⟩
 case round =>
  obtain ⟨k,rfl,hk,HN,HX⟩:=hrel
  by_cases hlt:k < n
  ·have i0 : (0 : Int) ≤ (k : Int) := aa
   have i1:(k:Int) < (n:Int):=aa
   have HS2:=zh (HS.out.ext HX.out)
   obtain ⟨b,o,rfl,hrow,-⟩:=HS2.out.at aa
   have hr:wr.rangeAt b (o+k * 8) (RowT.enc (aS L k)):=cN hrow (by rw [HL.out];exact hlt)
   have HR:=zh hr
   have HB2:=zh (HB.out.ext HX.out)
   by_cases he:x=aS L k
   ·have HM := zh (aIW.1 ⟨k, by rw [HL.out]; exact hlt, he.symm⟩)
    obtain ⟨b,hb⟩:=gx (decide (x=aS L k))
    have HD:=zh hb
    obtain rfl:true=b:=by rw [← hb,decide_eq_true he]
    clear hb he hr hrow
    go_wp2_with fail
    refine wp_region_held_drew (S:=fun V=>Blk V w.heap.size 50 (nmc x)∧V.rangeAt b (o+k * 8) (RowT.enc (aS L k))) ab (⟨HB2.out.drew,HR.out⟩) (fun aA=>?_)
    refine zu 0 (v:=.agg (nmc x)) aA ?_ (hy:=io)
    refine zzr [1,2,3] ?_
    refine zu 4 (v:=.agg (nmc (aS L k))) aA ?_ (hy:=lm)
    refine zu 5 (v:=.bool true) aA ?_ (hy:=iu)
    refine wpd ?_
    clear aA
    go_wp2_with fail
    go_ret
    exact ⟨_,rfl,by rw [decide_eq_true HM.out,decide_eq_true aa],HE.out.trans (HX.out.trans ((Ext.refl wr).drew'))⟩
   have HN2:=zh (show ∀ j,j < k+1→aS L j ≠ x from fun j hj e=>by
    by_cases e2:j=k
    ·rw [e2] at e;exact he e.symm
    exact HN.out j aa e)
   obtain ⟨b,hb⟩:=gx (decide (x=aS L k))
   have HD:=zh hb
   obtain rfl:false=b:=by rw [← hb,decide_eq_false he]
   clear hb he hr hrow
   go_wp2_with fail
   refine wp_region_held_drew (S:=fun V=>Blk V w.heap.size 50 (nmc x)∧V.rangeAt b (o+k * 8) (RowT.enc (aS L k))) ab (⟨HB2.out.drew,HR.out⟩) (fun aA=>?_)
   refine zu 0 (v:=.agg (nmc x)) aA ?_ (hy:=io)
   refine zzr [1,2,3] ?_
   refine zu 4 (v:=.agg (nmc (aS L k))) aA ?_ (hy:=lm)
   refine zu 5 (v:=.bool false) aA ?_ (hy:=iu)
   refine wpd ?_
   clear aA
   have HX2:=zh (HX.out.trans ((Ext.refl wr).drew'))
   go_wp2_with fail
   go_roundw
   case rel=>exact ⟨k+1,ar,hlt,HN2,HX2⟩
   case measure=>simp [intOf];omega
  have i1:¬ (k:Int) < (n:Int):=aa
  have HM:=zh (show ¬ x ∈ L from fun h=>by
   obtain ⟨j,hj,e⟩:=aIW.2 h
   exact HN.out j (by rw [HL.out] at hj;omega) e)
  go_wp2_with fail
  go_ret
  exact ⟨-1,rfl,by rw [decide_eq_false HM.out];rfl,HE.out.trans HX.out⟩
theorem aHv (A:Option Addr) (n c:Nat) (L:List UInt64) (x:UInt64) (w:World) (h:SlG w A n c L):Calls prog 114 #[.slice A n c,.agg (nmc x)] w fun e w'=>e=.returned (.bool (decide (x ∈ L)))∧Ext w w':=by
 have HE:=zh ((Ext.refl w).alloc' (.cells (nmc x) 50))
 have HS:=zh (h.ext HE.out)
 have r0:(w.alloc (.cells (nmc x) 50)).rangeAt w.heap.size 0 (RowT.enc x):=bS (Blk.new w 50 (nmc x))
 clear h
 go_enter func114,ntmps114
 go_wp2_with (first | (with_reducible refine aD nmP rfl (.tmp 3) rfl w.heap.size 0 rfl x _ rfl r0 ?_) | fail "A")
 refine (aHu A n c L x _ HS.out).mono ?_
 rintro e w5 ⟨r,rfl,hr,he5⟩
 have HR:=zh hr
 have HX:=zh (HE.out.trans he5)
 clear hr he5 r0
 go_wp2_with fail
 go_ret
 exact ⟨by rw [← HR.out];rfl,HX.out⟩
theorem gU (s:StR) (x:UInt64) (w:World) (h:s.ok w):Calls prog 50 #[.agg (ssA s),.agg (nmc x)] w fun e w'=>e=.returned (.bool (decide (x ∈ s.P)))∧Ext w w':=by
 obtain ⟨W,hW⟩:=gx ((w.alloc (.cells (ssA s) 30)).alloc (.cells (nmc x) 50))
 have HB:=zh (show Blk W w.heap.size 30 (ssA s) from cg)
 have HC:=zh (show Blk W (w.heap.size+1) 50 (nmc x) from ag)
 have HE:=zh (show Ext w W from ai)
 have q3:W.cell? ⟨w.heap.size,3,none⟩=some (.slice s.A4 s.n4 s.c4):=HB.out.cell 3
 have r1:W.rangeAt (w.heap.size+1) 0 (RowT.enc x):=bS HC.out
 have HS:=zh (h.ext HE.out).s4
 clear h
 go_enter func50,ntmps50
 go_wp2_with (first | (with_reducible refine aD nmP rfl (.tmp 3) rfl (w.heap.size+1) 0 rfl x _ rfl r1 ?_) | fail "A")
 refine zcl (aHv s.A4 s.n4 s.c4 s.P x _ HS.out) fun w5 he5=>?_
 have HX:=zh (HE.out.trans he5)
 clear he5 q3 r1 hW
 go_wp2_with fail
 go_ret
 exact ⟨rfl,HX.out⟩
def lkO:Option LkR→LkR
 | none=>⟨0,0,0,0,0⟩
 | some l=>l
theorem aBL {K:List LkR} {n:UInt64} (h:∀ k,k < K.length→decide ((aS K k).nm=n)=false):fdK K n=none:=by
 unfold fdK
 rw [List.find?_eq_none]
 intro l hl
 obtain ⟨k,hk,rfl⟩:=List.getElem_of_mem hl
 rw [cH hk,h k hk];decide
theorem vV:∀ {K:List LkR} {n:UInt64} {k:Nat},k < K.length→decide ((aS K k).nm=n)=true→(∀ j,j < k→decide ((aS K j).nm=n)=false)→fdK K n=some (aS K k)
 | [],n,k,hk,_,_=>by simp at hk
 | d :: r,n,0,_,h1,_=>by unfold fdK;rw [List.find?_cons,show decide (d.nm=n)=true from h1];rfl
 | d :: r,n,k+1,hk,h1,h2=>by
  have h0:=h2 0 (by omega)
  unfold fdK
  rw [List.find?_cons,show decide (d.nm=n)=false from h0]
  exact vV (K:=r) (by simpa using hk) h1 (fun j hj=>h2 (j+1) (by omega))
theorem aGj:lkA (⟨0,0,0,0,0⟩:LkR)=lk0:=by unfold lkA lk0;simp only [bJ 0 (by omega),bJ 1 (by omega),bJ 2 (by omega),bJ 3 (by omega),bJ 4 (by omega),bJ 5 (by omega),bJ 6 (by omega),bJ 7 (by omega)]
end
end Go.Proofs.YtgmnmjeccfnmbaaGreat
