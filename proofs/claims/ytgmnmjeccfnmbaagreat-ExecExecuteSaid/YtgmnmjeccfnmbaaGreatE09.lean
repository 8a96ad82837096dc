import Derived.Test.YtgmnmjeccfnmbaaGreatE08
set_option maxRecDepth 100000
set_option maxHeartbeats 8000000
set_option linter.unusedVariables false
set_option linter.unusedSimpArgs false
namespace Go.Proofs.YtgmnmjeccfnmbaaGreat
open Go.Proofs.Tryz
section
open Go.RowKit
attribute [local go_sem ↓] Go.wp_at_zero Go.wp_at_succ
def cG (ac sq:Int) (L:List OpR):UInt64:=if vTx ac sq L=true then dY 80 (nT ac sq L) else 0
theorem fV (ac sq:Int) (A:Option Addr) (n c:Nat) (L:List OpR) (w:World) (hS:SlO w A n c L) :
  Calls prog 31 #[.agg (txA ac sq A n c)] w fun e w'=>e=.returned (.agg (nmc (cG ac sq L)))∧Ext w w':=by
 have hE:=((Ext.refl w).alloc' (.cells (txA ac sq A n c) 33)).alloc' (.cells zcs.toArray 50)
 have HB1:=zh ((Blk.new w 33 (txA ac sq A n c)).alloc (.cells zcs.toArray 50))
 have HB2:=zh (show Blk ((w.alloc (.cells (txA ac sq A n c) 33)).alloc (.cells zcs.toArray 50)) (w.heap.size+1) 50 zcs.toArray from Blk.newAt _ _ _ _ dr)
 have HE:=zh hE
 have HS:=zh (hS.ext hE)
 have HV:=zh (fI ac sq A n c L _ HS.out)
 cases hv:vTx ac sq L with
 | false =>
  have HN:=zh (show cG ac sq L=0 by unfold cG;rw [if_neg (by rw [hv];decide)])
  rw [hv] at HV
  have HV:=zh (show Calls prog 49 #[.agg (txA ac sq A n c)] _ (fun e w'=>e=.returned (.int .i64 1)∧Ext _ w') from HV.out)
  clear hS hE hv
  go_enter func31,ntmps31
  exact vg
 | true =>
  have HN:=zh (show cG ac sq L=dY 80 (nT ac sq L) by unfold cG;rw [if_pos hv])
  have HEN:=zh (fun (W:World) (h:Ext ((w.alloc (.cells (txA ac sq A n c) 33)).alloc (.cells zcs.toArray 50)) W)=>aFq ac sq A n c L W (HS.out.ext h) hv)
  rw [hv] at HV
  have HV:=zh (show Calls prog 49 #[.agg (txA ac sq A n c)] _ (fun e w'=>e=.returned (.int .i64 0)∧Ext _ w') from HV.out)
  clear hS hE hv
  go_enter func31,ntmps31
  go_wp2_with fail
  refine zcl HV.out fun w1 he1=>?_
  have HX1:=zh he1
  obtain ⟨q0,q1,q2⟩:=gT (HB1.out.ext he1)
  clear he1
  go_wp2_with fail
  refine (HEN.out _ HX1.out).mono ?_
  rintro e w2 ⟨A2,n2,c2,rfl,hO2,hn2,he2⟩
  have HX2:=zh (HX1.out.trans he2)
  have HS2:=zh hO2.sl
  clear hO2 he2 q0 q1 q2
  go_wp2_with fail
  refine zcl (iC 80 A2 n2 c2 _ _ HS2.out aa) fun w3 he3=>?_
  exact Aw
theorem jP (ac sq:Int) (A:Option Addr) (n c:Nat) (L:List OpR) (w:World) (hS:SlO w A n c L) :
  Calls prog 36 #[.agg (txA ac sq A n c)] w fun e w'=>e=.returned (.agg (nmc (cG ac sq L)))∧Ext w w':=by
 have hE:=((Ext.refl w).alloc' (.cells (txA ac sq A n c) 33)).alloc' (.cells zcs.toArray 50)
 have HB1:=zh ((Blk.new w 33 (txA ac sq A n c)).alloc (.cells zcs.toArray 50))
 have HB2:=zh (show Blk ((w.alloc (.cells (txA ac sq A n c) 33)).alloc (.cells zcs.toArray 50)) (w.heap.size+1) 50 zcs.toArray from Blk.newAt _ _ _ _ dr)
 have HE:=zh hE
 have HS:=zh (hS.ext hE)
 have HV:=zh (eE ac sq A n c L _ HS.out)
 cases hv:vTx ac sq L with
 | false =>
  have HN:=zh (show cG ac sq L=0 by unfold cG;rw [if_neg (by rw [hv];decide)])
  rw [hv] at HV
  have HV:=zh (show Calls prog 33 #[.agg (txA ac sq A n c)] _ (fun e w'=>e=.returned (.bool false)∧Ext _ w') from HV.out)
  clear hS hE hv
  go_enter func36,ntmps36
  exact vg
 | true =>
  have HN:=zh (show cG ac sq L=dY 80 (nT ac sq L) by unfold cG;rw [if_pos hv])
  have HEN:=zh (fun (W:World) (h:Ext ((w.alloc (.cells (txA ac sq A n c) 33)).alloc (.cells zcs.toArray 50)) W)=>wV ac sq A n c L W (HS.out.ext h) hv)
  rw [hv] at HV
  have HV:=zh (show Calls prog 33 #[.agg (txA ac sq A n c)] _ (fun e w'=>e=.returned (.bool true)∧Ext _ w') from HV.out)
  clear hS hE hv
  go_enter func36,ntmps36
  go_wp2_with fail
  refine zcl HV.out fun w1 he1=>?_
  have HX1:=zh he1
  obtain ⟨q0,q1,q2⟩:=gT (HB1.out.ext he1)
  clear he1
  go_wp2_with fail
  refine (HEN.out _ HX1.out).mono ?_
  rintro e w2 ⟨A2,n2,c2,rfl,hO2,hn2,he2⟩
  have HX2:=zh (HX1.out.trans he2)
  have HS2:=zh hO2
  clear hO2 he2 q0 q1 q2
  go_wp2_with fail
  refine zcl (dA 80 A2 n2 c2 _ _ HS2.out aa) fun w3 he3=>?_
  exact Aw
def bI (ac sq:Int) (L:List OpR) (op:Int):UInt64:=if vTx ac sq L=true∧0≤op∧op < (L.length:Int)∧(bR L op.toNat).k=2 then dY 81 (nmb (cG ac sq L) ++ [toB op]) else 0
theorem sF (ac sq:Int) (A:Option Addr) (n c:Nat) (L:List OpR) (op:Int) (w:World) (hS:SlO w A n c L) :
  Calls prog 72 #[.agg (txA ac sq A n c),.int .i64 op] w fun e w'=>e=.returned (.agg (nmc (bI ac sq L op)))∧Ext w w':=by
 have hle:=hS.le
 have hcap:=hS.cap
 have hlen:=hS.len
 have hE:=((Ext.refl w).alloc' (.cells (txA ac sq A n c) 33)).alloc' (.cells zcs.toArray 50)
 have HB1:=zh ((Blk.new w 33 (txA ac sq A n c)).alloc (.cells zcs.toArray 50))
 have HB2:=zh (show Blk ((w.alloc (.cells (txA ac sq A n c) 33)).alloc (.cells zcs.toArray 50)) (w.heap.size+1) 50 zcs.toArray from Blk.newAt _ _ _ _ dr)
 have HE:=zh hE
 have HS:=zh (hS.ext hE)
 have HV:=zh (fI ac sq A n c L _ HS.out)
 by_cases hall:vTx ac sq L=true∧0≤op∧op < (L.length:Int)∧(bR L op.toNat).k=2
 ·obtain ⟨hv, h0, h1, h2⟩ := hall
  have HN:=zh (show bI ac sq L op=dY 81 (nmb (cG ac sq L) ++ [toB op]) by unfold bI;rw [if_pos ⟨hv,h0,h1,h2⟩])
  rw [hlen] at h1
  rw [hv] at HV
  have HV:=zh (show Calls prog 49 #[.agg (txA ac sq A n c)] _ (fun e w'=>e=.returned (.int .i64 0)∧Ext _ w') from HV.out)
  obtain ⟨b,o,rfl,hr0,hb0⟩:=HS.out.at aa
  obtain ⟨j,rfl⟩:∃ j:Nat,op=(j:Int):=⟨op.toNat,aa⟩
  rw [Int.toNat_natCast] at h2
  have HR:=zh (fun (W:World) (h:Ext ((w.alloc (.cells (txA ac sq (some ⟨b,o,none⟩) n c) 33)).alloc (.cells zcs.toArray 50)) W)=>show W.cell? ⟨b,o+j * 23,none⟩=some (.int .i64 2) from by
   have:=sA (aY hr0 (h.block b hb0)) (k:=j) ku 0 _ rfl
   rw [h2] at this;exact this)
  have d1:decide ((j:Int) < 0)=false:=decide_eq_false aa
  have d2:decide ((n:Int)≤(j:Int))=false:=decide_eq_false aa
  have d3:(j:Int) < (n:Int):=aa
  have HNM:=zh (fun (W:World) (h:Ext ((w.alloc (.cells (txA ac sq (some ⟨b,o,none⟩) n c) 33)).alloc (.cells zcs.toArray 50)) W)=>fV ac sq (some ⟨b,o,none⟩) n c L W (HS.out.ext h))
  clear hS hE hv h0 h1 h2 hr0 hb0 hlen
  go_enter func72,ntmps72
  go_wp2_with fail
  refine zcl HV.out fun w1 he1=>?_
  have HX1:=zh he1
  obtain ⟨q0,q1,q2⟩:=gT (HB1.out.ext he1)
  have q3:=HR.out _ he1
  clear he1 HV
  go_wp2_with fail
  refine zcl (HNM.out _ HX1.out) fun w2 he2=>?_
  obtain ⟨N,hN⟩:=gx (cG ac sq L)
  rw [hN] at HN ⊢
  have HX2:=zh (HX1.out.trans he2)
  clear he2 q0 q1 q2 q3 hN
  have e3:=((Ext.refl w2).alloc' (.cells (nmc N) 50)).alloc' (.cells #[.int .u8 ((j:Int) % 256)] 5)
  have HSA:=zh (SlB.blkN ((Blk.new w2 50 (nmc N)).alloc (.cells #[.int .u8 ((j:Int) % 256)] 5)))
  have HSB:=zh (SlB.new1 (w2.alloc (.cells (nmc N) 50)) 5 ((j:Int) % 256) (toB (j:Int)) (w2.heap.size+1) dr (bM _))
  go_wp2_with (first | (with_reducible refine nP rfl (.tmp 5) (.tmp 31) rfl w2.heap.size N rfl rfl rfl ?_) | (at_builtin;go_must (refine rD bU rfl (.tmp 32) (.tmp 35) rfl _ 8 8 (nmb N) rfl HSA.out aa _ 1 1 [toB (j:Int)] rfl HSB.out aa aa aa ?_;intro A5 c5 w5 hO5 he5)))
  have HX5:=zh (HX2.out.trans (e3.trans he5))
  have HS5:=zh hO5.sl
  clear hO5 he5 e3
  refine zcl (iC 81 A5 _ c5 _ _ HS5.out aa) fun w6 he6=>?_
  have hb:=HB2.out.ext (HX5.out.trans he6)
  have hst:=bF hb (dY 81 (nmb N ++ [toB (j:Int)]))
  go_wp2_with fail
  exact bodyPost_ret (v:=.agg (nmc (dY 81 (nmb N ++ [toB (j:Int)])))) (eQ rfl _ _ (w.heap.size+1) _ rfl (blkN hb _)) rfl ⟨eu,Below.setCells' (HE.out.trans (HX5.out.trans he6)) aa _ _⟩
 have HN:=zh (show bI ac sq L op=0 by unfold bI;rw [if_neg hall])
 cases hv:vTx ac sq L with
 | false =>
  rw [hv] at HV
  have HV:=zh (show Calls prog 49 #[.agg (txA ac sq A n c)] _ (fun e w'=>e=.returned (.int .i64 1)∧Ext _ w') from HV.out)
  clear hS hE hv hall
  exact vw
 | true =>
  rw [hv] at HV
  have HV:=zh (show Calls prog 49 #[.agg (txA ac sq A n c)] _ (fun e w'=>e=.returned (.int .i64 0)∧Ext _ w') from HV.out)
  have hc:op < 0 ∨ (decide (op < 0)=false∧(n:Int)≤op) ∨ (∃ j:Nat,op=(j:Int)∧j < n∧(bR L j).k ≠ 2):=by
   exact Bw
  clear hall hv hE
  rcases hc with h0 | ⟨d1,h1⟩ | ⟨j,rfl,hj,h2⟩
  ·clear hS
   exact vw
  ·clear hS
   go_enter func72,ntmps72
   go_wp2_with fail
   refine zcl HV.out fun w1 he1=>?_
   obtain ⟨q0,q1,q2⟩:=gT (HB1.out.ext he1)
   exact Au
  obtain ⟨b,o,rfl,hr0,hb0⟩:=HS.out.at aa
  have d1:decide ((j:Int) < 0)=false:=decide_eq_false aa
  have d2:decide ((n:Int)≤(j:Int))=false:=decide_eq_false aa
  have d3:(j:Int) < (n:Int):=aa
  have j0:(0:Int)≤(j:Int):=aa
  have HR:=zh (fun (W:World) (h:Ext ((w.alloc (.cells (txA ac sq (some ⟨b,o,none⟩) n c) 33)).alloc (.cells zcs.toArray 50)) W)=>show W.cell? ⟨b,o+j * 23,none⟩=some (.int .i64 (bR L j).k) from sA (aY hr0 (h.block b hb0)) (k:=j) ku 0 _ rfl)
  obtain ⟨x,hx⟩:=gx ((bR L j).k)
  rw [hx] at HR h2
  have y1:(x != 2)=true:=gj
  have y2:(x == 2)=false:=gj
  have y3:decide (x=2)=false:=gj
  clear hS hr0 hb0 hx h2 hj hlen
  go_enter func72,ntmps72
  go_wp2_with fail
  refine zcl HV.out fun w1 he1=>?_
  obtain ⟨q0,q1,q2⟩:=gT (HB1.out.ext he1)
  have q3:=HR.out _ he1
  exact Au
theorem nR (ac sq:Int) (A:Option Addr) (n c:Nat) (L:List OpR) (op:Int) (w:World) (hS:SlO w A n c L) :
  Calls prog 100 #[.agg (txA ac sq A n c),.int .i64 op] w fun e w'=>e=.returned (.agg (nmc (bI ac sq L op)))∧Ext w w':=by
 have hle:=hS.le
 have hcap:=hS.cap
 have hlen:=hS.len
 have hE:=((Ext.refl w).alloc' (.cells (txA ac sq A n c) 33)).alloc' (.cells zcs.toArray 50)
 have HB1:=zh ((Blk.new w 33 (txA ac sq A n c)).alloc (.cells zcs.toArray 50))
 have HB2:=zh (show Blk ((w.alloc (.cells (txA ac sq A n c) 33)).alloc (.cells zcs.toArray 50)) (w.heap.size+1) 50 zcs.toArray from Blk.newAt _ _ _ _ dr)
 have HE:=zh hE
 have HS:=zh (hS.ext hE)
 have HV:=zh (eE ac sq A n c L _ HS.out)
 by_cases hall:vTx ac sq L=true∧0≤op∧op < (L.length:Int)∧(bR L op.toNat).k=2
 ·obtain ⟨hv, h0, h1, h2⟩ := hall
  have HN:=zh (show bI ac sq L op=dY 81 (nmb (cG ac sq L) ++ [toB op]) by unfold bI;rw [if_pos ⟨hv,h0,h1,h2⟩])
  rw [hlen] at h1
  rw [hv] at HV
  have HV:=zh (show Calls prog 33 #[.agg (txA ac sq A n c)] _ (fun e w'=>e=.returned (.bool true)∧Ext _ w') from HV.out)
  obtain ⟨b,o,rfl,hr0,hb0⟩:=HS.out.at aa
  obtain ⟨j,rfl⟩:∃ j:Nat,op=(j:Int):=⟨op.toNat,aa⟩
  rw [Int.toNat_natCast] at h2
  have HR:=zh (fun (W:World) (h:Ext ((w.alloc (.cells (txA ac sq (some ⟨b,o,none⟩) n c) 33)).alloc (.cells zcs.toArray 50)) W)=>show W.cell? ⟨b,o+j * 23,none⟩=some (.int .i64 2) from by
   have:=sA (aY hr0 (h.block b hb0)) (k:=j) ku 0 _ rfl
   rw [h2] at this;exact this)
  have d1:decide ((j:Int) < 0)=false:=decide_eq_false aa
  have d2:decide ((n:Int)≤(j:Int))=false:=decide_eq_false aa
  have d3:(j:Int) < (n:Int):=aa
  have HNM:=zh (fun (W:World) (h:Ext ((w.alloc (.cells (txA ac sq (some ⟨b,o,none⟩) n c) 33)).alloc (.cells zcs.toArray 50)) W)=>jP ac sq (some ⟨b,o,none⟩) n c L W (HS.out.ext h))
  clear hS hE hv h0 h1 h2 hr0 hb0 hlen
  go_enter func100,ntmps100
  go_wp2_with fail
  refine zcl HV.out fun w1 he1=>?_
  have HX1:=zh he1
  obtain ⟨q0,q1,q2⟩:=gT (HB1.out.ext he1)
  have q3:=HR.out _ he1
  clear he1 HV
  go_wp2_with fail
  refine zcl (HNM.out _ HX1.out) fun w2 he2=>?_
  have HX2:=zh (HX1.out.trans he2)
  clear he2 q0 q1 q2 q3
  go_wp2_with fail
  refine (pE none 0 0 [] (cG ac sq L) w2 (SlB.nil _) aa).mono ?_
  rintro e w3 ⟨A3,c3,rfl,hO3,he3⟩
  have HX3:=zh (HX2.out.trans he3)
  have HS3:=zh (show SlB w3 A3 8 c3 (nmb (cG ac sq L)) from by simpa using hO3.sl)
  clear hO3 he3
  go_wp2_with fail
  refine (cF A3 8 c3 _ (j:Int) w3 HS3.out aa).mono ?_
  rintro e w4 ⟨A4,c4,rfl,hO4,he4⟩
  have HX4:=zh (HX3.out.trans he4)
  have HS4:=zh hO4.sl
  clear hO4 he4
  go_wp2_with fail
  refine zcl (dA 81 A4 _ c4 _ _ HS4.out aa) fun w5 he5=>?_
  have hb:=HB2.out.ext (HX4.out.trans he5)
  have hst:=bF hb (dY 81 (nmb (cG ac sq L) ++ [toB (j:Int)]))
  go_wp2_with fail
  exact bodyPost_ret (v:=.agg (nmc (dY 81 (nmb (cG ac sq L) ++ [toB (j:Int)])))) (eQ rfl _ _ (w.heap.size+1) _ rfl (blkN hb _)) rfl ⟨eu,Below.setCells' (HE.out.trans (HX4.out.trans he5)) aa _ _⟩
 have HN:=zh (show bI ac sq L op=0 by unfold bI;rw [if_neg hall])
 cases hv:vTx ac sq L with
 | false =>
  rw [hv] at HV
  have HV:=zh (show Calls prog 33 #[.agg (txA ac sq A n c)] _ (fun e w'=>e=.returned (.bool false)∧Ext _ w') from HV.out)
  clear hS hE hv hall
  exact vt
 | true =>
  rw [hv] at HV
  have HV:=zh (show Calls prog 33 #[.agg (txA ac sq A n c)] _ (fun e w'=>e=.returned (.bool true)∧Ext _ w') from HV.out)
  have hc:op < 0 ∨ (decide (op < 0)=false∧(n:Int)≤op) ∨ (∃ j:Nat,op=(j:Int)∧j < n∧(bR L j).k ≠ 2):=by
   exact Bw
  clear hall hv hE
  rcases hc with h0 | ⟨d1,h1⟩ | ⟨j,rfl,hj,h2⟩
  ·clear hS
   exact vt
  ·clear hS
   go_enter func100,ntmps100
   go_wp2_with fail
   refine zcl HV.out fun w1 he1=>?_
   obtain ⟨q0,q1,q2⟩:=gT (HB1.out.ext he1)
   exact Av
  obtain ⟨b,o,rfl,hr0,hb0⟩:=HS.out.at aa
  have d1:decide ((j:Int) < 0)=false:=decide_eq_false aa
  have d2:decide ((n:Int)≤(j:Int))=false:=decide_eq_false aa
  have d3:(j:Int) < (n:Int):=aa
  have j0:(0:Int)≤(j:Int):=aa
  have HR:=zh (fun (W:World) (h:Ext ((w.alloc (.cells (txA ac sq (some ⟨b,o,none⟩) n c) 33)).alloc (.cells zcs.toArray 50)) W)=>show W.cell? ⟨b,o+j * 23,none⟩=some (.int .i64 (bR L j).k) from sA (aY hr0 (h.block b hb0)) (k:=j) ku 0 _ rfl)
  obtain ⟨x,hx⟩:=gx ((bR L j).k)
  rw [hx] at HR h2
  have y1:(x != 2)=true:=gj
  have y2:(x == 2)=false:=gj
  have y3:decide (x=2)=false:=gj
  clear hS hr0 hb0 hx h2 hj hlen
  go_enter func100,ntmps100
  go_wp2_with fail
  refine zcl HV.out fun w1 he1=>?_
  obtain ⟨q0,q1,q2⟩:=gT (HB1.out.ext he1)
  have q3:=HR.out _ he1
  exact Av
theorem aLf (k:Int) (w:World):Calls prog 235 #[.int .i64 k] w fun e w'=>e=.returned (.bool (inI k 1 4))∧w=w':=by
 by_cases h1:k ≥ 1 <;> by_cases h2:k≤4
 all_goals (
  have HV:=zh (show inI k 1 4=_ from fq)
  go_enter func235,ntmps235
  go_wp2_with fail
  go_ret
  exact ⟨bg,rfl⟩)
theorem iR (v:VtR) (w:World):Calls prog 212 #[.agg (vtA v)] w fun e w'=>e=.returned (.bool (eS v))∧Ext w w':=by
 obtain ⟨z,hz⟩:=gx (decide (v.va=0))
 have HV:=zh (aLl v hz)
 have HE:=zh ((Ext.refl w).alloc' (.cells (vtA v) 124))
 obtain ⟨a0,a1,a2,a3,a4,a5,a6,a7⟩:=dI (Blk.new w 124 (vtA v))
 have HB0:=zh (Blk.new w 124 (vtA v))
 have HA:=zh (fun W=>aLf v.k W)
 obtain ⟨g,hg⟩:=gx (inI v.k 1 4)
 rw [hg] at HA
 have HG:=zh hg
 have q7:=fun W=>cE v.va 0 W
 rw [dN,hz] at q7
 clear hz hg
 go_enter func212,ntmps212
 by_cases c0:v.k < 1
 ·exact yk
 by_cases c1:v.k > 7
 ·exact yk
 by_cases c2:v.si < 0
 ·exact yk
 by_cases c3:v.si ≥ 10
 ·exact yk
 rcases cs (bits .andNot .i64 v.su 1023) 0 with ⟨f0,f1,f2,f3⟩ | ⟨f0,f1,f2,f3⟩
 rotate_left
 ·exact yk
 by_cases c6:v.k≤4
 case' pos =>
  obtain rfl:g=true:=by rw [← HG.out];exact decide_eq_true ⟨aa,c6⟩
  by_cases c7:v.sl < 0
  ·exact yk
  by_cases c8:v.sl ≥ 10
  ·exact yk
 case' neg =>
  obtain rfl:g=false:=by rw [← HG.out];exact decide_eq_false (fun h=>c6 h.2)
  rcases cs v.sl 0 with ⟨l0,l1,l2,l3⟩ | ⟨l0,l1,l2,l3⟩
  rotate_left
  ·exact yk
 all_goals (
  go_upto_region 5 with (go_at_call 235;(with_reducible refine (HA.out _).mono ?_);rintro e wv ⟨rfl,rfl⟩)
  rcases cs v.ch 1 with ⟨d0,d1,d2,d3⟩ | ⟨d0,d1,d2,d3⟩ <;> cases z
  all_goals (
   go_quiet ((fail))
   have HB1:=zh (show Blk ((w.alloc (.cells (vtA v) 124)).drewN nq) w.heap.size 124 (vtA v) from HB0.out)
   have HE1:=zh (below_drewN HE.out nq)
   clear a0 a1 a2 a3 a4 a5 a6 a7 HB0 HE q7
   generalize (w.alloc (.cells (vtA v) 124)).drewN nq=W1 at HB1 HE1 ⊢
   obtain ⟨a0,a1,a2,a3,a4,a5,a6,a7⟩:=dI HB1.out)
  rotate_left
  iterate 2
   ·go_wp2_with fail
    go_ret
    exact ⟨vG HV.out (by simp [d0]),HE1.out⟩
  all_goals (
   have HC:=zh d0
   rcases (by omega:v.k=3 ∨ v.k=4 ∨ (v.k ≠ 3∧v.k ≠ 4)) with e | e | ⟨e,e'⟩
   ·rw [e] at a0
    by_cases r0:v.ro ≥ 1 <;> by_cases r9:v.ro≤12 <;> rcases cs v.ch 0 with ⟨x0,x1,x2,x3⟩ | ⟨x0,x1,x2,x3⟩ <;> rcases cs v.ro 1 with ⟨y0,y1,y2,y3⟩ | ⟨y0,y1,y2,y3⟩ <;> rcases cs v.su 0 with ⟨s0,s1,s2,s3⟩ | ⟨s0,s1,s2,s3⟩ <;> first | (exfalso;omega) | (go_wp2_with fail;go_ret;exact ⟨by first | exact vF HV.out dv | exact vY HV.out dv ly,HE1.out⟩)
   ·rw [e] at a0
    by_cases r0:v.ro ≥ 1 <;> by_cases r9:v.ro≤12 <;> by_cases x0:v.ch ≥ 0 <;> by_cases x2:v.ch≤2 <;> first | (exfalso;omega) | (go_wp2_with fail;go_ret;exact ⟨by first | exact vF HV.out dv | exact vY HV.out dv ly,HE1.out⟩)
   have y3:(v.k == 3)=false:=beq_eq_false_iff_ne.2 e
   have y4:(v.k == 4)=false:=beq_eq_false_iff_ne.2 e'
   have z3:=decide_eq_false e
   have z4:=decide_eq_false e'
   rcases cs v.ro 0 with ⟨y0,y1,y2,y3⟩ | ⟨y0,y1,y2,y3⟩ <;> rcases cs v.su 0 with ⟨s0,s1,s2,s3⟩ | ⟨s0,s1,s2,s3⟩ <;> first | (exfalso;omega) | (go_wp2_with fail;go_ret;exact ⟨by first | exact vF HV.out dv | exact vY HV.out dv ly,HE1.out⟩)))
theorem aNn (w:World):(Instr.makeSlice 34 (.int .i64 0) (.int .i64 23)).run prog w=.ok (.slice (some ⟨w.heap.size,0,none⟩) 0 23) (w.alloc (.cells (madeCells (Value.int .u8 0).cells 23) 5)):=by
 obtain ⟨i,hi,hz,hs,hby⟩:=bU.get
 have h:=run_make (P:=prog) w 34 5 i (.int .u8 0) bU.ut hi hz .i64 .i64 0 23 aa aa f7 aa
 simpa [hs] using h
theorem aNS (A:Option Addr) (n c:Nat) (l:List UInt8) (z:Int) (w:World) (h:SlB w A n c l) (hn:n≤140737488351232):Calls prog 202 #[.slice A n c,.int .u64 (un (uI z)),.int .i64 2] w fun e w'=>∃ A' c',e=.returned (.slice A' (n+2) c')∧OwnB w' w.heap.size 5 A' (n+2) c' (l ++ beI 2 z)∧Ext w w' :=
 eO A n c l z 2 (by omega) w h hn
theorem aIk (w:World) (t:TypeId) (x y z u v:Int) (a b c d e:UInt8) (hx:x=(a.toNat:Int)) (hy:y=(b.toNat:Int)) (hz:z=(c.toNat:Int)) (hu:u=(d.toNat:Int)) (hv:v=(e.toNat:Int)) (g:Nat) (hg:w.heap.size=g):SlB (w.alloc (.cells #[.int .u8 x,.int .u8 y,.int .u8 z,.int .u8 u,.int .u8 v] t)) (some ⟨g,0,none⟩) 5 5 [a,b,c,d,e] :=
 SlB.new hg [a,b,c,d,e] (by rw [hx,hy,hz,hu,hv];rfl) (by simp)
theorem oH {w:World} {b o:Nat} {l:List UInt8} (h:w.rangeAt b o (bcs l)) {n c:Nat} (hl:l.length=n) (hc:n≤c) (hm:c≤9223372036854775807):SlB w (some ⟨b,o,none⟩) n c l:=⟨hl,hc,hm,.inr ⟨b,o,rfl,h⟩⟩
theorem aCo (v:VtR) (h:eS v=true) (w:World):Calls prog 250 #[.agg (vtA v)] w fun e w'=>∃ A' c',e=.returned (.tuple #[.slice A' 23 c',.bool true])∧OwnB w' w.heap.size 5 A' 23 c' (mR v)∧Ext w w':=by
 have HE:=zh ((Ext.refl w).alloc' (.cells (vtA v) 124))
 have HB:=zh (Blk.new w 124 (vtA v))
 obtain ⟨W0,hW0⟩:=gx (w.alloc (.cells (vtA v) 124))
 rw [hW0] at HE HB
 have hr:W0.rangeAt w.heap.size 0 (vtL v):=aC HB.out
 have HV:=zh (fun (W:World)=>gR v W)
 rw [h] at HV
 have hmk:=aNn
 have u_su:=pP v.su
 clear h
 go_enter func250,ntmps250
 go_wp2_with (first | (with_reducible refine fM rfl (.tmp 1) rfl w.heap.size 0 rfl v hr ?_))
 refine zcl (HV.out _) fun w1 he1=>?_
 have HX:=zh (HE.out.trans he1)
 have HB1:=zh (HB.out.ext he1)
 obtain ⟨a0,a1,a2,a3,a4,a5,a6,a7⟩:=dI HB1.out
 have glt:w.heap.size < w1.heap.size:=by have:=HB1.out.lt;omega
 clear he1 hr hW0 a6 a7
 go_wp2_with (at_builtin;go_must (refine cB bU rfl (.tmp 9) (.tmp 25) rfl w1.heap.size _ _ _ [] rfl ((OwnB.made w1 w1.heap.size _ 23 w1.heap.size rfl (Nat.le_refl _) aa (size_madeCells _ _)).alloc _) _ _ _ [toB v.k,toB v.sl,toB v.ro,toB v.ch,toB v.si] rfl ?r1 aa ?b1 w1 ?w1 ?_))
 case r1=>exact aIk _ _ _ _ _ _ _ _ _ _ _ _ dy dy dy dy dy _ dr
 case b1=>simp;omega
 case w1=>exact Below.alloc (Below.alloc (Below.refl _ _) (Nat.le_refl _) _) dr _
 intro A1 c1 w2 ho2 hw2 hs2
 have HX2:=zh (Below.mono hw2 (Nat.le_refl _):Ext w1 w2)
 have HB2:=zh (HB1.out.ext HX2.out)
 have HO2:=zh ho2
 obtain ⟨a0,a1,a2,a3,a4,a5,a6,a7⟩:=dI HB2.out
 clear ho2 hw2 hs2 hmk a0 a1 a2 a3 a4 a6 a7
 go_wp2_with fail
 refine (aNS A1 5 c1 _ v.su w2 HO2.out.sl aa).mono ?_
 rintro e w3 ⟨A3,c3,rfl,hO3,he3⟩
 have HX3:=zh (Ext.trans HX2.out he3)
 have HB3:=zh (HB1.out.ext HX3.out)
 have HO3:=zh hO3
 have HS3:=zh he3.size
 clear hO3 he3 a5 u_su
 go_wp2_with (at_builtin;go_must (refine cB bU rfl (.tmp 32) (.tmp 34) rfl w2.heap.size _ _ _ _ rfl HO3.out _ 8 8 (nmb v.pa) rfl (oH (aAp HB3.out) (aK _) aa aa) aa HS3.out w3 ((Below.refl _ _)) ?_))
 intro A4 c4 w4 ho4 hw4 hs4
 have HX4:=zh (Below.trans (Below.mono HX3.out (Nat.le_refl _)) (Below.mono hw4 HX2.out.size):Ext w1 w4)
 have HB4:=zh (HB1.out.ext HX4.out)
 have HO4:=zh ho4
 have HS4:=zh (show w2.heap.size≤w4.heap.size from Nat.le_trans HS3.out hs4)
 clear ho4 hw4 hs4
 go_wp2_with (at_builtin;go_must (refine cB bU rfl (.tmp 36) (.tmp 38) rfl w2.heap.size _ _ _ _ rfl HO4.out _ 8 8 (nmb v.va) rfl (oH (aAo HB4.out) (aK _) aa aa) aa HS4.out w4 ((Below.refl _ _)) ?_))
 intro A5 c5 w5 ho5 hw5 hs5
 have HF:=zh (show OwnB w5 w.heap.size 5 A5 23 c5 (mR v) from by
  have h1:OwnB w5 w.heap.size 5 A5 23 c5 _:=bA (base':=w.heap.size) ho5 (by have:=HX.out.size;have:=HX2.out.size;omega)
  have e:mR v=[toB v.k,toB v.sl,toB v.ro,toB v.ch,toB v.si] ++ beI 2 v.su ++ nmb v.pa ++ nmb v.va:=by simp [mR]
  rw [e]
  exact h1)
 have HG:=zh (HX.out.trans (Below.trans (Below.mono HX4.out (Nat.le_refl _)) (Below.mono hw5 HX2.out.size):Ext w1 w5))
 clear ho5 hw5 hs5
 go_wp2_with fail
 go_ret2
 exact ⟨A5,c5,rfl,HF.out,HG.out⟩
theorem aOc (x y:UInt8):bits .or .i64 ((x.toNat:Int) * 256) (y.toNat:Int)=((x.toNat * 256+y.toNat:Nat):Int):=by
 have h1:=x.toNat_lt
 have h2:=y.toNat_lt
 have f:∀ n:Nat,n < 9223372036854775808→(BitVec.ofInt 64 (n:Int)).toNat=n:=fun n hn=>by rw [BitVec.toNat_ofInt];omega
 have ho:x.toNat * 256 ||| y.toNat=x.toNat * 256+y.toNat:=by
  rw [show x.toNat * 256=x.toNat <<< 8 from by rw [Nat.shiftLeft_eq],← Nat.shiftLeft_add_eq_or_of_lt aa]
 show IntKind.i64.wrap ((BitVec.ofInt 64 ((x.toNat:Int) * 256) ||| BitVec.ofInt 64 (y.toNat:Int)).toNat:Int)=_
 have e:(x.toNat:Int) * 256=((x.toNat * 256:Nat):Int):=aa
 rw [e,BitVec.toNat_or,f _ aa,f _ aa,ho,IntKind.wrap_i64]
 omega
theorem aNh {l:List UInt8} (h:l.length=23):aZ l 5 2=(byt l 5).toNat * 256+(byt l 6).toNat:=by
 have hb:∀ a b:UInt8,bT [a,b]=a.toNat * 256+b.toNat:=fun a b=>by simp [bT]
 have e:(l.drop 5).take 2=[byt l 5,byt l 6]:=by
  apply List.ext_getElem
  ·rw [List.length_take,List.length_drop];simp;omega
  intro i h1 h2
  have hi:i < 2:=by simpa using h2
  unfold byt
  rcases (by omega:i=0 ∨ i=1) with rfl | rfl <;> simp [List.getD_eq_getElem?_getD,List.getElem?_eq_getElem,h]
 unfold aZ
 rw [e,hb]
abbrev b7 (W:World) (b o:Nat) (l:List UInt8):Prop:=b5 W b o l∧W.cell? ⟨b,o+5,none⟩=some (.int .u8 ((byt l 5).toNat:Int))∧W.cell? ⟨b,o+6,none⟩=some (.int .u8 ((byt l 6).toNat:Int))
theorem aND {w:World} {b o:Nat} {l:List UInt8} (h:w.rangeAt b o (bcs l)) (hl:l.length=23):b7 w b o l:=⟨aLG h hl,qZ h (i:=5) (by omega),qZ h (i:=6) (by omega)⟩
theorem aEQ (A:Option Addr) (c:Nat) (l:List UInt8) (w:World) (hS:SlB w A 23 c l):Calls prog 211 #[.slice A 23 c] w fun e w'=>e=.returned (.tuple #[.agg (vtA (vdV l)),.int .i64 (vdC l)])∧Ext w w':=by
 have hl:=hS.len
 have hcap:=hS.cap
 have hle:=hS.le
 obtain ⟨b,o,rfl,hr,hb⟩:=hS.at aa
 have HE:=zh ((Ext.refl w).alloc' (.cells (vtZ 0 0 0 0 0 0) 124))
 have HB:=zh (Blk.new w 124 (vtZ 0 0 0 0 0 0))
 have HR:=zh (fun (W:World) (h:Ext w W)=>aY hr (h.block b hb))
 have HL:=zh hl
 have hwr:IntKind.i64.wrap (((byt l 5).toNat:Int) * 256)=((byt l 5).toNat:Int) * 256:=by
  have:=(byt l 5).toNat_lt
  rw [IntKind.wrap_i64];omega
 have hor:bits .or .i64 (((byt l 5).toNat:Int) * 256) ((byt l 6).toNat:Int)=((aZ l 5 2:Nat):Int):=by rw [aNh hl];exact aOc _ _
 have hck:¬ c=7:=aa
 have i15:(15:Int)≤(c:Int):=aa
 have i23:(23:Int)≤(c:Int):=aa
 have hck2:¬ c=15:=aa
 clear hS hr hl
 go_enter func211,ntmps211
 go_upto_region 5 with (fail)
 obtain ⟨W1,hW1⟩:=gx (w.alloc (.cells (vtZ 0 0 0 0 0 0) 124))
 rw [hW1] at HE HB
 have HSS:=zh (fun (W:World) (h:Ext W1 W)=>aND (HR.out W (HE.out.trans h)) HL.out)
 have i0:(0:Int) < 23:=aa
 rw [hW1]
 refine wp_region_held_drew (S:=fun W=>Ext W1 W) ab ((Ext.refl W1).drew') (fun aA=>?_)
 refine zz0 [0,1,2,3,4,5,6,7,8,9,10,11,12,13,14,15,16,17,18,19,20,21,22,23,24,25,26,27,28,29,30] ?_;repeat first | refine zz1 ?_ (hy:=by intro W aP;obtain ⟨⟨s0,s1,s2,s3,s4⟩,s5,s6⟩:=HSS.out W aP;go_simp <;> with_reducible rfl) | refine zz2 ?_ | refine zz9 ?_
 refine za 31 (fun K hK=>?_)
 refine Eq.mpr (if_pos dp) ?_
 go_simp
 refine hK.out _ _ kr (fun aA=>?_)
 clear hK K
 try simp only [bB]
 refine za 32 (fun K hK=>?_)
 refine Eq.mpr (if_pos dp) ?_
 refine wp_store_mid 124 (.tmp 4) (.tmp 43) rfl W1.heap.size 0 (vtZ ((byt l 0).toNat:Int) ((byt l 1).toNat:Int) ((byt l 2).toNat:Int) ((byt l 3).toNat:Int) ((byt l 4).toNat:Int) ((aZ l 5 2:Nat):Int)) rfl ?hy (show ((W1.alloc (.cells (vtZ 0 0 0 0 0 0) 124)).drew).there W1.heap.size 0 22 from aI (Blk.drew (Blk.new W1 124 (vtZ 0 0 0 0 0 0)))) ab (aFH _ _ _ _ _ _) ?_
 case hy=>rfl
 refine hK.out _ _ (Below.setCells' (((Ext.refl W1).alloc' (.cells (vtZ 0 0 0 0 0 0) 124)).drew') (Nat.le_refl _) _ _) (fun aA=>?_)
 clear hK K
 try simp only [bB]
 refine wpd ?_
 have HE2:=zh (show Ext W1 (((W1.alloc (.cells (vtZ 0 0 0 0 0 0) 124)).drew).setCells W1.heap.size 0 (vtZ ((byt l 0).toNat:Int) ((byt l 1).toNat:Int) ((byt l 2).toNat:Int) ((byt l 3).toNat:Int) ((byt l 4).toNat:Int) ((aZ l 5 2:Nat):Int)).toList) from Below.setCells' (((Ext.refl W1).alloc' (.cells (vtZ 0 0 0 0 0 0) 124)).drew') (Nat.le_refl _) _ _)
 have HB2:=zh (show Blk (((W1.alloc (.cells (vtZ 0 0 0 0 0 0) 124)).drew).setCells W1.heap.size 0 (vtZ ((byt l 0).toNat:Int) ((byt l 1).toNat:Int) ((byt l 2).toNat:Int) ((byt l 3).toNat:Int) ((byt l 4).toNat:Int) ((aZ l 5 2:Nat):Int)).toList) W1.heap.size 124 (vtZ ((byt l 0).toNat:Int) ((byt l 1).toNat:Int) ((byt l 2).toNat:Int) ((byt l 3).toNat:Int) ((byt l 4).toNat:Int) ((aZ l 5 2:Nat):Int)) from aN (Blk.drew (Blk.new W1 124 (vtZ 0 0 0 0 0 0))) rfl)
 generalize (((W1.alloc (.cells (vtZ 0 0 0 0 0 0) 124)).drew).setCells W1.heap.size 0 (vtZ ((byt l 0).toNat:Int) ((byt l 1).toNat:Int) ((byt l 2).toNat:Int) ((byt l 3).toNat:Int) ((byt l 4).toNat:Int) ((aZ l 5 2:Nat):Int)).toList)=W2 at HE2 HB2 ⊢
 rw [aAU] at HB2
 have HSRC:=zh (fun (W:World) (hW:Below W1.heap.size W1 W) (k m:Nat)=>show ∀ j v,(bcs ((l.drop k).take m))[j]?=some v→W.cell? ((⟨b,o+k,none⟩:Addr).add j)=some v from by
  exact BE)
 obtain ⟨n1,hn1⟩:=gx (qN ((l.drop 7).take 8))
 obtain ⟨n2,hn2⟩:=gx (qN ((l.drop 15).take 8))
 have N1:=zh (show bcs ((l.drop 7).take 8)=bcs (nmb n1) by rw [← hn1,lG _ et])
 have N2:=zh (show bcs ((l.drop 15).take 8)=bcs (nmb n2) by rw [← hn2,lG _ et])
 have HD:=zh (show cZ l=⟨((byt l 0).toNat:Int),((byt l 1).toNat:Int),((byt l 2).toNat:Int),((byt l 3).toNat:Int),((byt l 4).toNat:Int),((aZ l 5 2:Nat):Int),n1,n2⟩ by unfold cZ;rw [hn1,hn2])
 clear hn1 hn2 HSS hor hwr
 have HL8:=zh (fun (n:UInt64)=>show (bcs (nmb n)).length=8 by rw [aT,aK])
 go_wp2_with fail
 have HZ:=zh (show Below W1.heap.size W1 W2.drew from HE2.out.drew')
 refine wp_region_held_drew (S:=fun W=>Below W1.heap.size W1 W) ab (HE2.out.drew') (fun aA=>?_)
 refine zzr [0,1,2,3] ?_
 refine za 4 (fun K hK=>?_)
 refine step_copy_splice rfl (.tmp 45) (.tmp 47) 34 34 rfl 5 underlying34 ab (some ⟨W1.heap.size,6,none⟩) (some ⟨b,o+7,none⟩) 8 8 8 (c - 7) rfl rfl W1.heap.size 6 _ 124 HB2.out.drew (bcs (nmb n1)) (HL8.out _) (fun _=>⟨rfl,_,rfl,qs⟩) iw (dU _) W1.heap.size W1 HZ.out (Nat.le_refl _) ?_
 intro w1 hb1 he1
 refine hK.out _ _ (he1) (fun aA=>?_)
 clear hK K
 try simp only [bB]
 refine wpd ?_
 have HB3:=zh (show Blk w1 W1.heap.size 124 (vtA ⟨_,_,_,_,_,_,n1,0⟩) from by have:=hb1.out;rwa [wG] at this)
 have HE3:=zh he1
 clear hb1 he1 HB2 HE2 HZ
 go_wp2_with fail
 have HZ:=zh (show Below W1.heap.size W1 w1.drew from HE3.out.drew)
 refine wp_region_held_drew (S:=fun W=>Below W1.heap.size W1 W) ab (HE3.out.drew) (fun aA=>?_)
 refine zzr [0,1,2,3] ?_
 refine za 4 (fun K hK=>?_)
 refine step_copy_splice rfl (.tmp 50) (.tmp 52) 34 34 rfl 5 underlying34 ab (some ⟨W1.heap.size,14,none⟩) (some ⟨b,o+15,none⟩) 8 8 8 (c - 15) rfl rfl W1.heap.size 14 _ 124 HB3.out.drew (bcs (nmb n2)) (HL8.out _) (fun _=>⟨rfl,_,rfl,qr⟩) iw (dU _) W1.heap.size W1 HZ.out (Nat.le_refl _) ?_
 intro w4 hb1 he1
 refine hK.out _ _ (he1) (fun aA=>?_)
 clear hK K
 try simp only [bB]
 refine wpd ?_
 have HB4:=zh (show Blk w4 W1.heap.size 124 (vtA (cZ l)) from ou)
 have HE4:=zh he1
 clear hb1 he1 HB3 HE3 HZ
 have hr4:w4.rangeAt W1.heap.size 0 (vtL (cZ l)):=aC HB4.out
 have HE0:=zh (Below.trans HE.out (Below.mono HE4.out HE.out.size):Ext w w4)
 have hlt:w.heap.size < W1.heap.size:=by rw [← hW1];simp
 have HB0:=zh (show Blk w4 w.heap.size 124 (vtZ 0 0 0 0 0 0) from HB.out.below HE4.out hlt)
 clear HB
 go_wp2_with (first | (with_reducible refine fM rfl (.tmp 4) rfl W1.heap.size 0 rfl (cZ l) hr4 ?_))
 refine zcl (iR (cZ l) w4) fun w5 he5=>?_
 have HX:=zh (Ext.trans HE0.out he5)
 have HB5:=zh (HB0.out.ext he5)
 have hr5:w5.rangeAt W1.heap.size 0 (vtL (cZ l)):=aC (HB4.out.ext he5)
 have ht:w5.there w.heap.size 0 22:=aI HB5.out
 clear he5 hr4
 cases hv:eS (cZ l) with
 | false =>
  have HC:=zh (show vdV l=mE∧vdC l=11 from ja)
  have hst:=aN (ds:=vtA mE) HB5.out rfl
  clear hv
  go_wp2_with (first | (with_reducible refine oC rfl (.tmp 2) (.tmp 57) rfl w.heap.size rfl rfl ht ?_))
  exact AB
 | true =>
  have HC:=zh (show vdV l=cZ l∧vdC l=0 from ja)
  have hst:=aN (ds:=vtA (cZ l)) HB5.out rfl
  clear hv
  go_wp2_with (first | (with_reducible refine fM rfl (.tmp 4) rfl W1.heap.size 0 rfl (cZ l) hr5 ?_) | (with_reducible refine kU rfl (.tmp 2) (.tmp 58) rfl w.heap.size (cZ l) rfl rfl ht ?_))
  exact wu
def jC (w:World) (base:Nat) (e:TypeId) (sz:Nat) (A:Option Addr) (n c m:Nat) (xs:List Value) (en:Ending) (w':World):Prop:=∃ A' c',en=.returned (.slice A' m c')∧w'.ownsRow base e sz (.slice A' m c') m xs∧w.grownBy w' (Value.ownBlock (.slice A n c))
theorem kS {w w1 w2:World} {row:Option Nat} {X:Nat} (h:w.grownBy w1 row) (hX:w.heap.size≤X) (k:w1.grownBy w2 (some X)):w.grownBy w2 row :=
 ⟨k.os.trans h.os,k.tape.trans h.tape,k.output.trans h.output,Nat.le_trans h.size k.size,fun i hi hne=>(k.block i (Nat.lt_of_lt_of_le hi h.size) (fun e=>by injection e with e;omega)).trans (h.block i hi hne)⟩
theorem aHs (base:Nat) (A:Option Addr) (n c:Nat) (L:List DeR) (x:DeR) (vb:Nat) (w:World) (h:w.ownsRow base 92 11 (.slice A n c) n (gcs L)) (hb:Blk w vb 92 (deA x)) (hbase:base≤w.heap.size) (hn:n≤1000000000) :
  Calls prog 76 #[.slice A n c,.int .i64 (n:Int),.slice (some ⟨vb,0,none⟩) 1 1] w (jC w base 92 11 A n c (n+1) (gcs (L ++ [x]))):=by
 obtain ⟨hle,hcap⟩:=eI h
 have HO:=zh h
 have HR:=zh (show Rd w (some ⟨vb,0,none⟩) (RowT.enc x) from by have:=Rd.of_blk hb;rwa [deP.toL] at this)
 have i0:(0:Int)≤(n:Int):=aa
 have i1:(n:Int)≤(c:Int):=aa
 have HB:=zh hbase
 clear h hb hbase
 obtain ⟨q,hq⟩:∃ q:Option Addr,(if c=n then A else A.map (·.add (n * 11)))=q:=⟨_,rfl⟩
 go_enter func76,ntmps76
 go_wp2_with (at_builtin;go_must (refine bK deE rfl (.tmp 23) (.tmp 24) rfl base A n c (gcs L) rfl HO.out (some ⟨vb,0,none⟩) 1 1 (RowT.enc x) rfl HR.out ip (RowT.one x) aa aa HB.out ?_;intro A' c' w' hO hg))
 go_ret
 exact ⟨A',c',rfl,rt,hg⟩
theorem aHq (base:Nat) (A:Option Addr) (n c:Nat) (L:List LkR) (x:LkR) (vb:Nat) (w:World) (h:w.ownsRow base 81 19 (.slice A n c) n (gcs L)) (hb:Blk w vb 81 (lkA x)) (hbase:base≤w.heap.size) (hn:n≤1000000000) :
  Calls prog 130 #[.slice A n c,.int .i64 (n:Int),.slice (some ⟨vb,0,none⟩) 1 1] w (jC w base 81 19 A n c (n+1) (gcs (L ++ [x]))):=by
 obtain ⟨hle,hcap⟩:=eI h
 have HO:=zh h
 have HR:=zh (show Rd w (some ⟨vb,0,none⟩) (RowT.enc x) from by have:=Rd.of_blk hb;rwa [lkP.toL] at this)
 have i0:(0:Int)≤(n:Int):=aa
 have i1:(n:Int)≤(c:Int):=aa
 have HB:=zh hbase
 clear h hb hbase
 obtain ⟨q,hq⟩:∃ q:Option Addr,(if c=n then A else A.map (·.add (n * 19)))=q:=⟨_,rfl⟩
 go_enter func130,ntmps130
 go_wp2_with (at_builtin;go_must (refine bK lkE rfl (.tmp 23) (.tmp 24) rfl base A n c (gcs L) rfl HO.out (some ⟨vb,0,none⟩) 1 1 (RowT.enc x) rfl HR.out ip (RowT.one x) aa aa HB.out ?_;intro A' c' w' hO hg))
 go_ret
 exact ⟨A',c',rfl,rt,hg⟩
theorem aHo (base:Nat) (A:Option Addr) (n c:Nat) (L:List UInt64) (x:UInt64) (vb:Nat) (w:World) (h:w.ownsRow base 50 8 (.slice A n c) n (gcs L)) (hb:Blk w vb 50 (nmc x)) (hbase:base≤w.heap.size) (hn:n≤1000000000) :
  Calls prog 81 #[.slice A n c,.int .i64 (n:Int),.slice (some ⟨vb,0,none⟩) 1 1] w (jC w base 50 8 A n c (n+1) (gcs (L ++ [x]))):=by
 obtain ⟨hle,hcap⟩:=eI h
 have HO:=zh h
 have HR:=zh (show Rd w (some ⟨vb,0,none⟩) (RowT.enc x) from by have:=Rd.of_blk hb;rwa [nmP.toL] at this)
 have i0:(0:Int)≤(n:Int):=aa
 have i1:(n:Int)≤(c:Int):=aa
 have HB:=zh hbase
 clear h hb hbase
 obtain ⟨q,hq⟩:∃ q:Option Addr,(if c=n then A else A.map (·.add (n * 8)))=q:=⟨_,rfl⟩
 go_enter func81,ntmps81
 go_wp2_with (at_builtin;go_must (refine bK cY rfl (.tmp 23) (.tmp 24) rfl base A n c (gcs L) rfl HO.out (some ⟨vb,0,none⟩) 1 1 (RowT.enc x) rfl HR.out ip (RowT.one x) aa aa HB.out ?_;intro A' c' w' hO hg))
 go_ret
 exact ⟨A',c',rfl,rt,hg⟩
theorem aDB (base g n c:Nat) (L:List DeR) (x:DeR) (i vb:Nat) (w:World) (h:w.ownsRow base 92 11 (.slice (some ⟨g,0,none⟩) n c) n (gcs L)) (hb:Blk w vb 92 (deA x)) (hne:vb ≠ g) (hbase:base≤w.heap.size) (hn:n≤1000000000) (hi:i < n) (hroom:n+1≤c) :
  Calls prog 76 #[.slice (some ⟨g,0,none⟩) n c,.int .i64 (i:Int),.slice (some ⟨vb,0,none⟩) 1 1] w (jC w base 92 11 (some ⟨g,0,none⟩) n c (n+1) (gcs (L.take i ++ x :: L.drop i))):=by
 obtain ⟨hle,hcap⟩:=eI h
 have HLEN:=zh (show L.length=n from OwnG.len (e:=92) h)
 obtain ⟨js,hjs,hmore⟩:=xD h (m:=n+1) aa hroom
 have HO:=zh hmore.drew
 have HJ:=zh (show js.length=RowT.sz DeR from f5)
 have HV:=zh hb
 have HNE:=zh hne
 obtain ⟨cur,hcur,hcsz⟩:=aBC h
 have hov:=fun (o2 lb cb:Nat)=>aBi (tR:=4) deE func136 ab ab ab ab hb hcur hne (by rw [hcsz];omega) 0 o2 1 1 lb cb
 have HDL:=zh (show (gcs (L.drop i)).length=Nat.min (n+1 - i) (n - i) * 11 from ib)
 have HSRC:=zh (show ∀ j v,(gcs (L.drop i))[j]?=some v→w.drew.cell? ((⟨g,i * 11,none⟩:Addr).add j)=some v from fun j v hv=>by
  obtain ⟨g',hgg,_,hra⟩:=cM h aa
  obtain rfl:g=g':=ck
  have hd:=bG (k:=i * 11) hra
  rw [Nat.zero_add,show i * 11=i * RowT.sz DeR from rfl,fB] at hd
  rw [Addr.add_mid];exact hd j v hv)
 have HFIT:=zh (show (i+1) * 11+(gcs (L.drop i)).length≤(n+1) * 11 from by
  exact BM)
 have HONE:=zh (bP (L.drop i))
 have HFIT2:=zh (show i * 11+(RowT.enc x).length≤(n+1) * 11 from by rw [RowT.len];show i * 11+11≤_;have:=Nat.mul_le_mul_right 11 (show i+1≤n+1 by omega);omega)
 have HX:=zh (RowT.one x)
 have HXL:=zh (show (RowT.enc x).length=Nat.min 1 (n+1 - i) * 11 from jk)
 have i0:(0:Int)≤(i:Int):=aa
 have i1:(i:Int)≤(c:Int):=aa
 have i2:(i:Int)≤(n:Int):=aa
 have i3:¬ (i:Int)=(n:Int):=aa
 have i4:¬ c=i:=aa
 have i5:¬ (c:Int) < (n:Int)+1:=aa
 have i6:(n:Int)+1≤(c:Int):=aa
 have e1:IntKind.i64.wrap ((i:Int)+1)=(i:Int)+1:=IntWalk.i64_in _ aa
 have e2:(0:Int)≤(i:Int)+1:=aa
 have e3:((i:Int)+1).toNat=i+1:=aa
 have e4:(i:Int)+1≤(n:Int)+1:=aa
 have e5:(i:Int)≤(n:Int)+1:=aa
 have e6:¬ c=i+1:=aa
 have HI:=zh hi
 clear h hb hne hcur hcsz hmore hjs
 go_enter func76,ntmps76
 go_wp2_with fail
 clear hov
 refine wp_region_held_drew (S:=fun W=>True) ab (trivial) (fun aA=>?_)
 refine zzr [0,1,2,3,4,5,6,7] ?_
 refine za 8 (fun K hK=>?_)
 (refine mJ deE rfl (.tmp 73) (.tmp 76) rfl base g ((i+1) * 11) (n+1) c (gcs L ++ js) HO.out ⟨g,i * 11,none⟩ (n - i) (c - (i+1)) (n+1 - i) (c - i) dp dp (gcs (L.drop i)) HDL.out HSRC.out HFIT.out HONE.out ?_;intro w2 hO2 hg2)
 refine hK.out _ _ (trivial) (fun aA=>?_)
 clear hK K
 try simp only [bB]
 refine wpd ?_
 have HO2:=zh hO2
 have HV2:=zh (show w2.rangeAt vb 0 (RowT.enc x) from by
  have:=aC (HV.out.drew.grown hg2 (fun e=>HNE.out sv))
  rwa [deP.toL] at this)
 have HS2:=zh (show ∀ j v,(RowT.enc x)[j]?=some v→w2.cell? ((⟨vb,0,none⟩:Addr).add j)=some v from fun j v hv=>lf)
 have HG2:=zh (show w.grownBy w2 (some g) from Grown.trans (Ext.grown ((Ext.refl w).drew') _) hg2)
 clear hO2 hg2
 go_wp2_with ((with_reducible refine jG deE rfl (.tmp 80) (.tmp 81) rfl base g (i * 11) (n+1) c _ HO2.out ⟨vb,0,none⟩ (n+1 - i) (c - i) 1 1 rfl rfl (RowT.enc x) HXL.out HS2.out HFIT2.out HX.out ?_;intro w3 hO3 hg3))
 have HE:=zh (show w3.ownsRow base 92 11 (.slice (some ⟨g,0,none⟩) (n+1) c) (n+1) (gcs (L.take i ++ x :: L.drop i)) from by
  exact Bk)
 exact yi
theorem aDA (base g n c:Nat) (L:List LkR) (x:LkR) (i vb:Nat) (w:World) (h:w.ownsRow base 81 19 (.slice (some ⟨g,0,none⟩) n c) n (gcs L)) (hb:Blk w vb 81 (lkA x)) (hne:vb ≠ g) (hbase:base≤w.heap.size) (hn:n≤1000000000) (hi:i < n) (hroom:n+1≤c) :
  Calls prog 130 #[.slice (some ⟨g,0,none⟩) n c,.int .i64 (i:Int),.slice (some ⟨vb,0,none⟩) 1 1] w (jC w base 81 19 (some ⟨g,0,none⟩) n c (n+1) (gcs (L.take i ++ x :: L.drop i))):=by
 obtain ⟨hle,hcap⟩:=eI h
 have HLEN:=zh (show L.length=n from OwnG.len (e:=81) h)
 obtain ⟨js,hjs,hmore⟩:=xD h (m:=n+1) aa hroom
 have HO:=zh hmore.drew
 have HJ:=zh (show js.length=RowT.sz LkR from f5)
 have HV:=zh hb
 have HNE:=zh hne
 obtain ⟨cur,hcur,hcsz⟩:=aBC h
 have hov:=fun (o2 lb cb:Nat)=>aBi (tR:=4) lkE func196 ab ab ab ab hb hcur hne (by rw [hcsz];omega) 0 o2 1 1 lb cb
 have HDL:=zh (show (gcs (L.drop i)).length=Nat.min (n+1 - i) (n - i) * 19 from ib)
 have HSRC:=zh (show ∀ j v,(gcs (L.drop i))[j]?=some v→w.drew.cell? ((⟨g,i * 19,none⟩:Addr).add j)=some v from fun j v hv=>by
  obtain ⟨g',hgg,_,hra⟩:=cM h aa
  obtain rfl:g=g':=ck
  have hd:=bG (k:=i * 19) hra
  rw [Nat.zero_add,show i * 19=i * RowT.sz LkR from rfl,fB] at hd
  rw [Addr.add_mid];exact hd j v hv)
 have HFIT:=zh (show (i+1) * 19+(gcs (L.drop i)).length≤(n+1) * 19 from by
  exact BN)
 have HONE:=zh (bP (L.drop i))
 have HFIT2:=zh (show i * 19+(RowT.enc x).length≤(n+1) * 19 from by rw [RowT.len];show i * 19+19≤_;have:=Nat.mul_le_mul_right 19 (show i+1≤n+1 by omega);omega)
 have HX:=zh (RowT.one x)
 have HXL:=zh (show (RowT.enc x).length=Nat.min 1 (n+1 - i) * 19 from jk)
 have i0:(0:Int)≤(i:Int):=aa
 have i1:(i:Int)≤(c:Int):=aa
 have i2:(i:Int)≤(n:Int):=aa
 have i3:¬ (i:Int)=(n:Int):=aa
 have i4:¬ c=i:=aa
 have i5:¬ (c:Int) < (n:Int)+1:=aa
 have i6:(n:Int)+1≤(c:Int):=aa
 have e1:IntKind.i64.wrap ((i:Int)+1)=(i:Int)+1:=IntWalk.i64_in _ aa
 have e2:(0:Int)≤(i:Int)+1:=aa
 have e3:((i:Int)+1).toNat=i+1:=aa
 have e4:(i:Int)+1≤(n:Int)+1:=aa
 have e5:(i:Int)≤(n:Int)+1:=aa
 have e6:¬ c=i+1:=aa
 have HI:=zh hi
 clear h hb hne hcur hcsz hmore hjs
 go_enter func130,ntmps130
 go_wp2_with fail
 clear hov
 refine wp_region_held_drew (S:=fun W=>True) ab (trivial) (fun aA=>?_)
 refine zzr [0,1,2,3,4,5,6,7] ?_
 refine za 8 (fun K hK=>?_)
 (refine mJ lkE rfl (.tmp 73) (.tmp 76) rfl base g ((i+1) * 19) (n+1) c (gcs L ++ js) HO.out ⟨g,i * 19,none⟩ (n - i) (c - (i+1)) (n+1 - i) (c - i) dp dp (gcs (L.drop i)) HDL.out HSRC.out HFIT.out HONE.out ?_;intro w2 hO2 hg2)
 refine hK.out _ _ (trivial) (fun aA=>?_)
 clear hK K
 try simp only [bB]
 refine wpd ?_
 have HO2:=zh hO2
 have HV2:=zh (show w2.rangeAt vb 0 (RowT.enc x) from by
  have:=aC (HV.out.drew.grown hg2 (fun e=>HNE.out sv))
  rwa [lkP.toL] at this)
 have HS2:=zh (show ∀ j v,(RowT.enc x)[j]?=some v→w2.cell? ((⟨vb,0,none⟩:Addr).add j)=some v from fun j v hv=>lf)
 have HG2:=zh (show w.grownBy w2 (some g) from Grown.trans (Ext.grown ((Ext.refl w).drew') _) hg2)
 clear hO2 hg2
 go_wp2_with ((with_reducible refine jG lkE rfl (.tmp 80) (.tmp 81) rfl base g (i * 19) (n+1) c _ HO2.out ⟨vb,0,none⟩ (n+1 - i) (c - i) 1 1 rfl rfl (RowT.enc x) HXL.out HS2.out HFIT2.out HX.out ?_;intro w3 hO3 hg3))
 have HE:=zh (show w3.ownsRow base 81 19 (.slice (some ⟨g,0,none⟩) (n+1) c) (n+1) (gcs (L.take i ++ x :: L.drop i)) from by
  exact Bk)
 exact yi
theorem aDz (base g n c:Nat) (L:List UInt64) (x:UInt64) (i vb:Nat) (w:World) (h:w.ownsRow base 50 8 (.slice (some ⟨g,0,none⟩) n c) n (gcs L)) (hb:Blk w vb 50 (nmc x)) (hne:vb ≠ g) (hbase:base≤w.heap.size) (hn:n≤1000000000) (hi:i < n) (hroom:n+1≤c) :
  Calls prog 81 #[.slice (some ⟨g,0,none⟩) n c,.int .i64 (i:Int),.slice (some ⟨vb,0,none⟩) 1 1] w (jC w base 50 8 (some ⟨g,0,none⟩) n c (n+1) (gcs (L.take i ++ x :: L.drop i))):=by
 obtain ⟨hle,hcap⟩:=eI h
 have HLEN:=zh (show L.length=n from OwnG.len (e:=50) h)
 obtain ⟨js,hjs,hmore⟩:=xD h (m:=n+1) aa hroom
 have HO:=zh hmore.drew
 have HJ:=zh (show js.length=RowT.sz UInt64 from f5)
 have HV:=zh hb
 have HNE:=zh hne
 obtain ⟨cur,hcur,hcsz⟩:=aBC h
 have hov:=fun (o2 lb cb:Nat)=>aBi (tR:=4) cY func139 ab ab ab ab hb hcur hne (by rw [hcsz];omega) 0 o2 1 1 lb cb
 have HDL:=zh (show (gcs (L.drop i)).length=Nat.min (n+1 - i) (n - i) * 8 from ib)
 have HSRC:=zh (show ∀ j v,(gcs (L.drop i))[j]?=some v→w.drew.cell? ((⟨g,i * 8,none⟩:Addr).add j)=some v from fun j v hv=>by
  obtain ⟨g',hgg,_,hra⟩:=cM h aa
  obtain rfl:g=g':=ck
  have hd:=bG (k:=i * 8) hra
  rw [Nat.zero_add,show i * 8=i * RowT.sz UInt64 from rfl,fB] at hd
  rw [Addr.add_mid];exact hd j v hv)
 have HFIT:=zh (show (i+1) * 8+(gcs (L.drop i)).length≤(n+1) * 8 from by
  exact BK)
 have HONE:=zh (bP (L.drop i))
 have HFIT2:=zh (show i * 8+(RowT.enc x).length≤(n+1) * 8 from by rw [RowT.len];show i * 8+8≤_;have:=Nat.mul_le_mul_right 8 (show i+1≤n+1 by omega);omega)
 have HX:=zh (RowT.one x)
 have HXL:=zh (show (RowT.enc x).length=Nat.min 1 (n+1 - i) * 8 from jk)
 have i0:(0:Int)≤(i:Int):=aa
 have i1:(i:Int)≤(c:Int):=aa
 have i2:(i:Int)≤(n:Int):=aa
 have i3:¬ (i:Int)=(n:Int):=aa
 have i4:¬ c=i:=aa
 have i5:¬ (c:Int) < (n:Int)+1:=aa
 have i6:(n:Int)+1≤(c:Int):=aa
 have e1:IntKind.i64.wrap ((i:Int)+1)=(i:Int)+1:=IntWalk.i64_in _ aa
 have e2:(0:Int)≤(i:Int)+1:=aa
 have e3:((i:Int)+1).toNat=i+1:=aa
 have e4:(i:Int)+1≤(n:Int)+1:=aa
 have e5:(i:Int)≤(n:Int)+1:=aa
 have e6:¬ c=i+1:=aa
 have HI:=zh hi
 clear h hb hne hcur hcsz hmore hjs
 go_enter func81,ntmps81
 go_wp2_with fail
 clear hov
 refine wp_region_held_drew (S:=fun W=>True) ab (trivial) (fun aA=>?_)
 refine zzr [0,1,2,3,4,5,6,7] ?_
 refine za 8 (fun K hK=>?_)
 (refine mJ cY rfl (.tmp 73) (.tmp 76) rfl base g ((i+1) * 8) (n+1) c (gcs L ++ js) HO.out ⟨g,i * 8,none⟩ (n - i) (c - (i+1)) (n+1 - i) (c - i) dp dp (gcs (L.drop i)) HDL.out HSRC.out HFIT.out HONE.out ?_;intro w2 hO2 hg2)
 refine hK.out _ _ (trivial) (fun aA=>?_)
 clear hK K
 try simp only [bB]
 refine wpd ?_
 have HO2:=zh hO2
 have HV2:=zh (show w2.rangeAt vb 0 (RowT.enc x) from by
  have:=aC (HV.out.drew.grown hg2 (fun e=>HNE.out sv))
  rwa [nmP.toL] at this)
 have HS2:=zh (show ∀ j v,(RowT.enc x)[j]?=some v→w2.cell? ((⟨vb,0,none⟩:Addr).add j)=some v from fun j v hv=>lf)
 have HG2:=zh (show w.grownBy w2 (some g) from Grown.trans (Ext.grown ((Ext.refl w).drew') _) hg2)
 clear hO2 hg2
 go_wp2_with ((with_reducible refine jG cY rfl (.tmp 80) (.tmp 81) rfl base g (i * 8) (n+1) c _ HO2.out ⟨vb,0,none⟩ (n+1 - i) (c - i) 1 1 rfl rfl (RowT.enc x) HXL.out HS2.out HFIT2.out HX.out ?_;intro w3 hO3 hg3))
 have HE:=zh (show w3.ownsRow base 50 8 (.slice (some ⟨g,0,none⟩) (n+1) c) (n+1) (gcs (L.take i ++ x :: L.drop i)) from by
  exact Bk)
 exact yi
theorem aFh (base g n c:Nat) (L:List DeR) (x:DeR) (i vb:Nat) (w:World) (h:w.ownsRow base 92 11 (.slice (some ⟨g,0,none⟩) n c) n (gcs L)) (hb:Blk w vb 92 (deA x)) (hbase:base≤w.heap.size) (hn:n≤1000000000) (hi:i < n) (hroom:c < n+1) :
  Calls prog 76 #[.slice (some ⟨g,0,none⟩) n c,.int .i64 (i:Int),.slice (some ⟨vb,0,none⟩) 1 1] w (jC w base 92 11 (some ⟨g,0,none⟩) n c (n+1) (gcs (L.take i ++ x :: L.drop i))):=by
 obtain ⟨hle,hcap⟩:=eI h
 obtain rfl:c=n:=aa
 have HLEN:=zh (show L.length=c from OwnG.len (e:=92) h)
 have hgs:=(World.ownsRow.lt h g rfl).2
 obtain ⟨ti,hti,htz,htsz,htby⟩:=Elem.get deE
 have hsrc0:∀ k v,(gcs L)[k]?=some v→w.cell? ⟨g,k,none⟩=some v:=fun k v hv=>by
  exact Cu
 have hold:(Builtin.firstCells ti.size i (.slice (some ⟨g,0,none⟩) i c)).run prog w.drew=.ok (gcs (L.take i)).toArray w.drew:=by
  rw [htsz]
  exact run_firstCells_some w.drew 11 i ⟨g,0,none⟩ i c (gcs (L.take i)) gl (fun j v hj=>by
   exact AX)
 have hrz:=fun ty=>Lib.run_append_grow_zeros w 26 3 ty 92 ti _ .i64 .i64 (Elem.ut deE) underlying3 hti htz (some ⟨g,0,none⟩) i c (gcs (L.take i)) hold (c+1 - i) aa (by rw [htsz];omega) aa aa kt (growslice_fits aa kt)
 have hgc:=grownCap_ge w (i+(c+1 - i)) c 92
 have hgm:=grownCap_le_maxLen w (i+(c+1 - i)) c 92 gm
 rw [show i+(c+1 - i)=c+1 by omega] at hrz hgc hgm
 obtain ⟨G,hG⟩:=gx (grownCap w (c+1) c 92)
 rw [hG] at hrz hgc hgm
 obtain ⟨js,hjs⟩:∃ js:List Value,(Builtin.zeroCells (Value.agg de0).cells (c+1 - i)).toList=js:=⟨_,rfl⟩
 obtain ⟨W1,hW1⟩:=gx (w.drew.alloc (.cells ((gcs (L.take i)).toArray ++ Builtin.zeroCells (Value.agg de0).cells (c+1 - i) ++ Builtin.zeroCells (Value.agg de0).cells (G - (c+1))) 92))
 rw [hW1] at hrz
 have HJL:=zh (show js.length=(L.length+1 - i) * RowT.sz DeR from je)
 have htl:(gcs (L.take i)).length=i * 11:=gl
 have hle3:i * 11+(c+1 - i) * 11=(c+1) * 11:=dx
 have hle4:(c+1) * 11+(G - (c+1)) * 11=G * 11:=dx
 have hzs:∀ k,(Builtin.zeroCells (Value.agg de0).cells k).size=k * 11:=fun k=>p9
 have HO1:=zh (show W1.ownsRow base 92 11 (.slice (some ⟨w.heap.size,0,none⟩) (c+1) G) (c+1) (gcs (L.take i) ++ js) from by
  rw [← hW1]
  refine tJ hbase (Blk.new w.drew 92 _) hgc hgm jd fw ?_
  exact Cf)
 have HX1:=zh (show Ext w W1 from gg)
 have HV:=zh (show W1.rangeAt vb 0 (RowT.enc x) from by have:=aC (hb.ext HX1.out);rwa [deP.toL] at this)
 have HVB:=zh hb.lt
 have HS1:=zh (show ∀ j v,(RowT.enc x)[j]?=some v→W1.cell? ((⟨vb,0,none⟩:Addr).add j)=some v from fun j v hv=>li)
 have HFIT2:=zh (show i * 11+(RowT.enc x).length≤(c+1) * 11 from by rw [RowT.len];show i * 11+11≤_;have:=Nat.mul_le_mul_right 11 (show i+1≤c+1 by omega);omega)
 have HX:=zh (RowT.one x)
 have HXL:=zh (show (RowT.enc x).length=Nat.min 1 (c+1 - i) * 11 from jl)
 have HDL:=zh (show (gcs (L.drop i)).length=Nat.min (c - i) (c - i) * 11 from ic)
 have HFIT:=zh (show (i+1) * 11+(gcs (L.drop i)).length≤(c+1) * 11 from by
  exact BM)
 have HONE:=zh (bP (L.drop i))
 have HSR0:=zh (show ∀ (W:World),W.heap[g]?=w.heap[g]?→∀ j v,(gcs (L.drop i))[j]?=some v→W.cell? ((⟨g,i * 11,none⟩:Addr).add j)=some v from fun W hW j v hv=>by
  rw [Addr.add_mid,World.cell?_of_block (a:=⟨g,i * 11+j,none⟩) hW]
  exact CK)
 have HIC:=zh (qQ L x (i:=i) ef js HJL.out)
 have HGS:=zh hgs
 have HHG:=zh (HX1.out.block g hgs)
 have i0:(0:Int)≤(i:Int):=aa
 have i1:(i:Int)≤(c:Int):=aa
 have i3:¬ (i:Int)=(c:Int):=aa
 have i4:¬ c=i:=aa
 have i6:¬ (c:Int)+1≤(c:Int):=aa
 have e1:IntKind.i64.wrap ((i:Int)+1)=(i:Int)+1:=IntWalk.i64_in _ aa
 have e2:(0:Int)≤(i:Int)+1:=aa
 have e3:((i:Int)+1).toNat=i+1:=aa
 have e4:(i:Int)+1≤(c:Int)+1:=aa
 have e5:(i:Int)≤(c:Int)+1:=aa
 have e7:(c:Int)+1 - (i:Int)=((c+1 - i:Nat):Int):=aa
 have e8:¬ G=i:=aa
 have e9:¬ G=i+1:=aa
 have e10:(i:Int)+1≤(G:Int):=aa
 have e11:(i:Int)≤(G:Int):=aa
 have HI:=zh hi
 clear h hb hsrc0 hold hjs hW1 htl hle3 hle4 hzs hti htz htsz htby hgm
 go_enter func76,ntmps76
 go_upto_region 10 with (at_builtin;refine Lib.wpList_append_run _ rfl _ _ _ _ rfl _ _ rfl rfl _ _ (hrz _) ?_)
 go_upto_region 11 with ((with_reducible refine jG deE rfl (.tmp 43) (.tmp 44) rfl base w.heap.size (i * 11) (c+1) G _ HO1.out ⟨vb,0,none⟩ (c+1 - i) (G - i) 1 1 rfl rfl (RowT.enc x) HXL.out HS1.out HFIT2.out HX.out ?_);intro w2 hO2 hg2)
 have HO2:=zh hO2.drew
 have HHG2:=zh (show w2.heap[g]?=w.heap[g]? from (hg2.block g (Nat.lt_of_lt_of_le HGS.out HX1.out.size) (fun e=>lg)).trans HHG.out)
 have HSRC:=zh (HSR0.out w2.drew HHG2.out)
 have HG2:=zh (show w.grownBy w2.drew (some g) from kS (Ext.grown HX1.out _) (Nat.le_refl _) (Grown.trans hg2 (Ext.grown ((Ext.refl w2).drew') _)))
 clear hO2 hg2
 refine wp_region_held_drew (S:=fun W=>True) ab (trivial) (fun aA=>?_)
 refine zzr [0,1,2,3,4,5,6,7] ?_
 refine za 8 (fun K hK=>?_)
 (refine mJ deE rfl (.tmp 50) (.tmp 53) rfl base w.heap.size ((i+1) * 11) (c+1) G _ HO2.out ⟨g,i * 11,none⟩ (c - i) (G - (i+1)) (c - i) (c - i) dp dp (gcs (L.drop i)) HDL.out HSRC.out HFIT.out HONE.out ?_;intro w3 hO3 hg3)
 refine hK.out _ _ (trivial) (fun aA=>?_)
 clear hK K
 try simp only [bB]
 refine wpd ?_
 have HE:=zh (show w3.ownsRow base 92 11 (.slice (some ⟨w.heap.size,0,none⟩) (c+1) G) (c+1) (gcs (L.take i ++ x :: L.drop i)) from by
  have h1:=HIC.out
  rw [← h1];exact hO3)
 exact xm
theorem aHt (base:Nat) (A:Option Addr) (n c:Nat) (L:List DeR) (x:DeR) (i vb:Nat) (w:World) (h:w.ownsRow base 92 11 (.slice A n c) n (gcs L)) (hb:Blk w vb 92 (deA x)) (hne:Value.ownBlock (.slice A n c) ≠ some vb) (hbase:base≤w.heap.size) (hn:n≤1000000000) (hi:i≤n) :
  Calls prog 76 #[.slice A n c,.int .i64 (i:Int),.slice (some ⟨vb,0,none⟩) 1 1] w (jC w base 92 11 A n c (n+1) (gcs (L.take i ++ x :: L.drop i))):=by
 have hl:L.length=n:=OwnG.len (e:=92) h
 by_cases he:i=n
 ·subst he
  have:=aHs base A i c L x vb w h hb hbase hn
  exact zl
 obtain ⟨g,rfl,-,-⟩:=cM h aa
 by_cases hr:n+1≤c
 ·exact aDB base g n c L x i vb w h hb (fun e=>hne gp) hbase hn aa hr
 exact aFh base g n c L x i vb w h hb hbase hn aa aa
theorem aFg (base g n c:Nat) (L:List LkR) (x:LkR) (i vb:Nat) (w:World) (h:w.ownsRow base 81 19 (.slice (some ⟨g,0,none⟩) n c) n (gcs L)) (hb:Blk w vb 81 (lkA x)) (hbase:base≤w.heap.size) (hn:n≤1000000000) (hi:i < n) (hroom:c < n+1) :
  Calls prog 130 #[.slice (some ⟨g,0,none⟩) n c,.int .i64 (i:Int),.slice (some ⟨vb,0,none⟩) 1 1] w (jC w base 81 19 (some ⟨g,0,none⟩) n c (n+1) (gcs (L.take i ++ x :: L.drop i))):=by
 obtain ⟨hle,hcap⟩:=eI h
 obtain rfl:c=n:=aa
 have HLEN:=zh (show L.length=c from OwnG.len (e:=81) h)
 have hgs:=(World.ownsRow.lt h g rfl).2
 obtain ⟨ti,hti,htz,htsz,htby⟩:=Elem.get lkE
 have hsrc0:∀ k v,(gcs L)[k]?=some v→w.cell? ⟨g,k,none⟩=some v:=fun k v hv=>by
  exact Cu
 have hold:(Builtin.firstCells ti.size i (.slice (some ⟨g,0,none⟩) i c)).run prog w.drew=.ok (gcs (L.take i)).toArray w.drew:=by
  rw [htsz]
  exact run_firstCells_some w.drew 19 i ⟨g,0,none⟩ i c (gcs (L.take i)) gl (fun j v hj=>by
   exact AX)
 have hrz:=fun ty=>Lib.run_append_grow_zeros w 27 3 ty 81 ti _ .i64 .i64 (Elem.ut lkE) underlying3 hti htz (some ⟨g,0,none⟩) i c (gcs (L.take i)) hold (c+1 - i) aa (by rw [htsz];omega) aa aa kt (growslice_fits aa kt)
 have hgc:=grownCap_ge w (i+(c+1 - i)) c 81
 have hgm:=grownCap_le_maxLen w (i+(c+1 - i)) c 81 gm
 rw [show i+(c+1 - i)=c+1 by omega] at hrz hgc hgm
 obtain ⟨G,hG⟩:=gx (grownCap w (c+1) c 81)
 rw [hG] at hrz hgc hgm
 obtain ⟨js,hjs⟩:∃ js:List Value,(Builtin.zeroCells (Value.agg lk0).cells (c+1 - i)).toList=js:=⟨_,rfl⟩
 obtain ⟨W1,hW1⟩:=gx (w.drew.alloc (.cells ((gcs (L.take i)).toArray ++ Builtin.zeroCells (Value.agg lk0).cells (c+1 - i) ++ Builtin.zeroCells (Value.agg lk0).cells (G - (c+1))) 81))
 rw [hW1] at hrz
 have HJL:=zh (show js.length=(L.length+1 - i) * RowT.sz LkR from je)
 have htl:(gcs (L.take i)).length=i * 19:=gl
 have hle3:i * 19+(c+1 - i) * 19=(c+1) * 19:=dx
 have hle4:(c+1) * 19+(G - (c+1)) * 19=G * 19:=dx
 have hzs:∀ k,(Builtin.zeroCells (Value.agg lk0).cells k).size=k * 19:=fun k=>p9
 have HO1:=zh (show W1.ownsRow base 81 19 (.slice (some ⟨w.heap.size,0,none⟩) (c+1) G) (c+1) (gcs (L.take i) ++ js) from by
  rw [← hW1]
  refine tJ hbase (Blk.new w.drew 81 _) hgc hgm jd fw ?_
  exact Cf)
 have HX1:=zh (show Ext w W1 from gg)
 have HV:=zh (show W1.rangeAt vb 0 (RowT.enc x) from by have:=aC (hb.ext HX1.out);rwa [lkP.toL] at this)
 have HVB:=zh hb.lt
 have HS1:=zh (show ∀ j v,(RowT.enc x)[j]?=some v→W1.cell? ((⟨vb,0,none⟩:Addr).add j)=some v from fun j v hv=>li)
 have HFIT2:=zh (show i * 19+(RowT.enc x).length≤(c+1) * 19 from by rw [RowT.len];show i * 19+19≤_;have:=Nat.mul_le_mul_right 19 (show i+1≤c+1 by omega);omega)
 have HX:=zh (RowT.one x)
 have HXL:=zh (show (RowT.enc x).length=Nat.min 1 (c+1 - i) * 19 from jl)
 have HDL:=zh (show (gcs (L.drop i)).length=Nat.min (c - i) (c - i) * 19 from ic)
 have HFIT:=zh (show (i+1) * 19+(gcs (L.drop i)).length≤(c+1) * 19 from by
  exact BN)
 have HONE:=zh (bP (L.drop i))
 have HSR0:=zh (show ∀ (W:World),W.heap[g]?=w.heap[g]?→∀ j v,(gcs (L.drop i))[j]?=some v→W.cell? ((⟨g,i * 19,none⟩:Addr).add j)=some v from fun W hW j v hv=>by
  rw [Addr.add_mid,World.cell?_of_block (a:=⟨g,i * 19+j,none⟩) hW]
  exact CK)
 have HIC:=zh (qQ L x (i:=i) ef js HJL.out)
 have HGS:=zh hgs
 have HHG:=zh (HX1.out.block g hgs)
 have i0:(0:Int)≤(i:Int):=aa
 have i1:(i:Int)≤(c:Int):=aa
 have i3:¬ (i:Int)=(c:Int):=aa
 have i4:¬ c=i:=aa
 have i6:¬ (c:Int)+1≤(c:Int):=aa
 have e1:IntKind.i64.wrap ((i:Int)+1)=(i:Int)+1:=IntWalk.i64_in _ aa
 have e2:(0:Int)≤(i:Int)+1:=aa
 have e3:((i:Int)+1).toNat=i+1:=aa
 have e4:(i:Int)+1≤(c:Int)+1:=aa
 have e5:(i:Int)≤(c:Int)+1:=aa
 have e7:(c:Int)+1 - (i:Int)=((c+1 - i:Nat):Int):=aa
 have e8:¬ G=i:=aa
 have e9:¬ G=i+1:=aa
 have e10:(i:Int)+1≤(G:Int):=aa
 have e11:(i:Int)≤(G:Int):=aa
 have HI:=zh hi
 clear h hb hsrc0 hold hjs hW1 htl hle3 hle4 hzs hti htz htsz htby hgm
 go_enter func130,ntmps130
 go_upto_region 10 with (at_builtin;refine Lib.wpList_append_run _ rfl _ _ _ _ rfl _ _ rfl rfl _ _ (hrz _) ?_)
 go_upto_region 11 with ((with_reducible refine jG lkE rfl (.tmp 43) (.tmp 44) rfl base w.heap.size (i * 19) (c+1) G _ HO1.out ⟨vb,0,none⟩ (c+1 - i) (G - i) 1 1 rfl rfl (RowT.enc x) HXL.out HS1.out HFIT2.out HX.out ?_);intro w2 hO2 hg2)
 have HO2:=zh hO2.drew
 have HHG2:=zh (show w2.heap[g]?=w.heap[g]? from (hg2.block g (Nat.lt_of_lt_of_le HGS.out HX1.out.size) (fun e=>lg)).trans HHG.out)
 have HSRC:=zh (HSR0.out w2.drew HHG2.out)
 have HG2:=zh (show w.grownBy w2.drew (some g) from kS (Ext.grown HX1.out _) (Nat.le_refl _) (Grown.trans hg2 (Ext.grown ((Ext.refl w2).drew') _)))
 clear hO2 hg2
 refine wp_region_held_drew (S:=fun W=>True) ab (trivial) (fun aA=>?_)
 refine zzr [0,1,2,3,4,5,6,7] ?_
 refine za 8 (fun K hK=>?_)
 (refine mJ lkE rfl (.tmp 50) (.tmp 53) rfl base w.heap.size ((i+1) * 19) (c+1) G _ HO2.out ⟨g,i * 19,none⟩ (c - i) (G - (i+1)) (c - i) (c - i) dp dp (gcs (L.drop i)) HDL.out HSRC.out HFIT.out HONE.out ?_;intro w3 hO3 hg3)
 refine hK.out _ _ (trivial) (fun aA=>?_)
 clear hK K
 try simp only [bB]
 refine wpd ?_
 have HE:=zh (show w3.ownsRow base 81 19 (.slice (some ⟨w.heap.size,0,none⟩) (c+1) G) (c+1) (gcs (L.take i ++ x :: L.drop i)) from by
  have h1:=HIC.out
  rw [← h1];exact hO3)
 exact xm
theorem aHr (base:Nat) (A:Option Addr) (n c:Nat) (L:List LkR) (x:LkR) (i vb:Nat) (w:World) (h:w.ownsRow base 81 19 (.slice A n c) n (gcs L)) (hb:Blk w vb 81 (lkA x)) (hne:Value.ownBlock (.slice A n c) ≠ some vb) (hbase:base≤w.heap.size) (hn:n≤1000000000) (hi:i≤n) :
  Calls prog 130 #[.slice A n c,.int .i64 (i:Int),.slice (some ⟨vb,0,none⟩) 1 1] w (jC w base 81 19 A n c (n+1) (gcs (L.take i ++ x :: L.drop i))):=by
 have hl:L.length=n:=OwnG.len (e:=81) h
 by_cases he:i=n
 ·subst he
  have:=aHq base A i c L x vb w h hb hbase hn
  exact zl
 obtain ⟨g,rfl,-,-⟩:=cM h aa
 by_cases hr:n+1≤c
 ·exact aDA base g n c L x i vb w h hb (fun e=>hne gp) hbase hn aa hr
 exact aFg base g n c L x i vb w h hb hbase hn aa aa
theorem aFf (base g n c:Nat) (L:List UInt64) (x:UInt64) (i vb:Nat) (w:World) (h:w.ownsRow base 50 8 (.slice (some ⟨g,0,none⟩) n c) n (gcs L)) (hb:Blk w vb 50 (nmc x)) (hbase:base≤w.heap.size) (hn:n≤1000000000) (hi:i < n) (hroom:c < n+1) :
  Calls prog 81 #[.slice (some ⟨g,0,none⟩) n c,.int .i64 (i:Int),.slice (some ⟨vb,0,none⟩) 1 1] w (jC w base 50 8 (some ⟨g,0,none⟩) n c (n+1) (gcs (L.take i ++ x :: L.drop i))):=by
 obtain ⟨hle,hcap⟩:=eI h
 obtain rfl:c=n:=aa
 have HLEN:=zh (show L.length=c from OwnG.len (e:=50) h)
 have hgs:=(World.ownsRow.lt h g rfl).2
 obtain ⟨ti,hti,htz,htsz,htby⟩:=Elem.get cY
 have hsrc0:∀ k v,(gcs L)[k]?=some v→w.cell? ⟨g,k,none⟩=some v:=fun k v hv=>by
  exact Cu
 have hold:(Builtin.firstCells ti.size i (.slice (some ⟨g,0,none⟩) i c)).run prog w.drew=.ok (gcs (L.take i)).toArray w.drew:=by
  rw [htsz]
  exact run_firstCells_some w.drew 8 i ⟨g,0,none⟩ i c (gcs (L.take i)) gl (fun j v hj=>by
   exact AX)
 have hrz:=fun ty=>Lib.run_append_grow_zeros w 22 3 ty 50 ti _ .i64 .i64 (Elem.ut cY) underlying3 hti htz (some ⟨g,0,none⟩) i c (gcs (L.take i)) hold (c+1 - i) aa (by rw [htsz];omega) aa aa kt (growslice_fits aa kt)
 have hgc:=grownCap_ge w (i+(c+1 - i)) c 50
 have hgm:=grownCap_le_maxLen w (i+(c+1 - i)) c 50 gm
 rw [show i+(c+1 - i)=c+1 by omega] at hrz hgc hgm
 obtain ⟨G,hG⟩:=gx (grownCap w (c+1) c 50)
 rw [hG] at hrz hgc hgm
 obtain ⟨js,hjs⟩:∃ js:List Value,(Builtin.zeroCells (Value.agg zcs.toArray).cells (c+1 - i)).toList=js:=⟨_,rfl⟩
 obtain ⟨W1,hW1⟩:=gx (w.drew.alloc (.cells ((gcs (L.take i)).toArray ++ Builtin.zeroCells (Value.agg zcs.toArray).cells (c+1 - i) ++ Builtin.zeroCells (Value.agg zcs.toArray).cells (G - (c+1))) 50))
 rw [hW1] at hrz
 have HJL:=zh (show js.length=(L.length+1 - i) * RowT.sz UInt64 from je)
 have htl:(gcs (L.take i)).length=i * 8:=gl
 have hle3:i * 8+(c+1 - i) * 8=(c+1) * 8:=dx
 have hle4:(c+1) * 8+(G - (c+1)) * 8=G * 8:=dx
 have hzs:∀ k,(Builtin.zeroCells (Value.agg zcs.toArray).cells k).size=k * 8:=fun k=>p9
 have HO1:=zh (show W1.ownsRow base 50 8 (.slice (some ⟨w.heap.size,0,none⟩) (c+1) G) (c+1) (gcs (L.take i) ++ js) from by
  rw [← hW1]
  refine tJ hbase (Blk.new w.drew 50 _) hgc hgm jd fw ?_
  exact Cf)
 have HX1:=zh (show Ext w W1 from gg)
 have HV:=zh (show W1.rangeAt vb 0 (RowT.enc x) from by have:=aC (hb.ext HX1.out);rwa [nmP.toL] at this)
 have HVB:=zh hb.lt
 have HS1:=zh (show ∀ j v,(RowT.enc x)[j]?=some v→W1.cell? ((⟨vb,0,none⟩:Addr).add j)=some v from fun j v hv=>li)
 have HFIT2:=zh (show i * 8+(RowT.enc x).length≤(c+1) * 8 from by rw [RowT.len];show i * 8+8≤_;have:=Nat.mul_le_mul_right 8 (show i+1≤c+1 by omega);omega)
 have HX:=zh (RowT.one x)
 have HXL:=zh (show (RowT.enc x).length=Nat.min 1 (c+1 - i) * 8 from jl)
 have HDL:=zh (show (gcs (L.drop i)).length=Nat.min (c - i) (c - i) * 8 from ic)
 have HFIT:=zh (show (i+1) * 8+(gcs (L.drop i)).length≤(c+1) * 8 from by
  exact BK)
 have HONE:=zh (bP (L.drop i))
 have HSR0:=zh (show ∀ (W:World),W.heap[g]?=w.heap[g]?→∀ j v,(gcs (L.drop i))[j]?=some v→W.cell? ((⟨g,i * 8,none⟩:Addr).add j)=some v from fun W hW j v hv=>by
  rw [Addr.add_mid,World.cell?_of_block (a:=⟨g,i * 8+j,none⟩) hW]
  exact CK)
 have HIC:=zh (qQ L x (i:=i) ef js HJL.out)
 have HGS:=zh hgs
 have HHG:=zh (HX1.out.block g hgs)
 have i0:(0:Int)≤(i:Int):=aa
 have i1:(i:Int)≤(c:Int):=aa
 have i3:¬ (i:Int)=(c:Int):=aa
 have i4:¬ c=i:=aa
 have i6:¬ (c:Int)+1≤(c:Int):=aa
 have e1:IntKind.i64.wrap ((i:Int)+1)=(i:Int)+1:=IntWalk.i64_in _ aa
 have e2:(0:Int)≤(i:Int)+1:=aa
 have e3:((i:Int)+1).toNat=i+1:=aa
 have e4:(i:Int)+1≤(c:Int)+1:=aa
 have e5:(i:Int)≤(c:Int)+1:=aa
 have e7:(c:Int)+1 - (i:Int)=((c+1 - i:Nat):Int):=aa
 have e8:¬ G=i:=aa
 have e9:¬ G=i+1:=aa
 have e10:(i:Int)+1≤(G:Int):=aa
 have e11:(i:Int)≤(G:Int):=aa
 have HI:=zh hi
 clear h hb hsrc0 hold hjs hW1 htl hle3 hle4 hzs hti htz htsz htby hgm
 go_enter func81,ntmps81
 go_upto_region 10 with (at_builtin;refine Lib.wpList_append_run _ rfl _ _ _ _ rfl _ _ rfl rfl _ _ (hrz _) ?_)
 go_upto_region 11 with ((with_reducible refine jG cY rfl (.tmp 43) (.tmp 44) rfl base w.heap.size (i * 8) (c+1) G _ HO1.out ⟨vb,0,none⟩ (c+1 - i) (G - i) 1 1 rfl rfl (RowT.enc x) HXL.out HS1.out HFIT2.out HX.out ?_);intro w2 hO2 hg2)
 have HO2:=zh hO2.drew
 have HHG2:=zh (show w2.heap[g]?=w.heap[g]? from (hg2.block g (Nat.lt_of_lt_of_le HGS.out HX1.out.size) (fun e=>lg)).trans HHG.out)
 have HSRC:=zh (HSR0.out w2.drew HHG2.out)
 have HG2:=zh (show w.grownBy w2.drew (some g) from kS (Ext.grown HX1.out _) (Nat.le_refl _) (Grown.trans hg2 (Ext.grown ((Ext.refl w2).drew') _)))
 clear hO2 hg2
 refine wp_region_held_drew (S:=fun W=>True) ab (trivial) (fun aA=>?_)
 refine zzr [0,1,2,3,4,5,6,7] ?_
 refine za 8 (fun K hK=>?_)
 (refine mJ cY rfl (.tmp 50) (.tmp 53) rfl base w.heap.size ((i+1) * 8) (c+1) G _ HO2.out ⟨g,i * 8,none⟩ (c - i) (G - (i+1)) (c - i) (c - i) dp dp (gcs (L.drop i)) HDL.out HSRC.out HFIT.out HONE.out ?_;intro w3 hO3 hg3)
 refine hK.out _ _ (trivial) (fun aA=>?_)
 clear hK K
 try simp only [bB]
 refine wpd ?_
 have HE:=zh (show w3.ownsRow base 50 8 (.slice (some ⟨w.heap.size,0,none⟩) (c+1) G) (c+1) (gcs (L.take i ++ x :: L.drop i)) from by
  have h1:=HIC.out
  rw [← h1];exact hO3)
 exact xm
theorem aHp (base:Nat) (A:Option Addr) (n c:Nat) (L:List UInt64) (x:UInt64) (i vb:Nat) (w:World) (h:w.ownsRow base 50 8 (.slice A n c) n (gcs L)) (hb:Blk w vb 50 (nmc x)) (hne:Value.ownBlock (.slice A n c) ≠ some vb) (hbase:base≤w.heap.size) (hn:n≤1000000000) (hi:i≤n) :
  Calls prog 81 #[.slice A n c,.int .i64 (i:Int),.slice (some ⟨vb,0,none⟩) 1 1] w (jC w base 50 8 A n c (n+1) (gcs (L.take i ++ x :: L.drop i))):=by
 have hl:L.length=n:=OwnG.len (e:=50) h
 by_cases he:i=n
 ·subst he
  have:=aHo base A i c L x vb w h hb hbase hn
  exact zl
 obtain ⟨g,rfl,-,-⟩:=cM h aa
 by_cases hr:n+1≤c
 ·exact aDz base g n c L x i vb w h hb (fun e=>hne gp) hbase hn aa hr
 exact aFf base g n c L x i vb w h hb hbase hn aa aa
end
end Go.Proofs.YtgmnmjeccfnmbaaGreat
