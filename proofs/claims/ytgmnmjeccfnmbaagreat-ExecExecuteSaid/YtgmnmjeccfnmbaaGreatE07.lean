import Derived.Test.YtgmnmjeccfnmbaaGreatE06
set_option maxRecDepth 100000
set_option maxHeartbeats 8000000
set_option linter.unusedVariables false
set_option linter.unusedSimpArgs false
namespace Go.Proofs.YtgmnmjeccfnmbaaGreat
theorem Ad {p:Prop} (h:p:=by
 have HSS:=zh (fun (w':World) (hx:Ext W0.drew w')=>dM (HM0.out.drew.ext hx))
 have hX:=Ext.refl W0.drew
 have HSL:=zh (HS0.out.ext (Ext.refl W0).drew')
 have HAD:=zh (fun (o:Obj)=>(show Ext W0.drew (W0.alloc o).drew from ((Ext.refl W0.drew).alloc' o:Ext W0.drew (W0.drew.alloc o))))
 have HZ:=zh (show (2:Int)=((2:Nat):Int) from rfl)
 have HF:=zh (show 2+144≤len∧2≤1000 by have:=HNN.out;omega)
 go_region_held3 (fun w'=>(∀ i,i < 8→w'.cell? ⟨(w.heap.size+1),i,none⟩=some (.int .u8 (nb8 m i)))) (first | (with_reducible exact HSS.out _ hX) | (with_reducible exact HSS.out _ (HAD.out _)) | (with_reducible exact HSS.out _ (hX.alloc' _)) | (with_reducible exact HSS.out _ HW9.out)) (first | (go_at_call 149;first | ((with_reducible refine (kR _ len c l 2 _ HZ.out _ (HSL.out.ext hX) HF.out hlen).mono ?_);rintro e w1 ⟨A1,k1,rfl,hsl1,he1⟩;have hX:=hX.trans he1) | ((with_reducible refine (kR _ len c l 2 _ HZ.out _ (HSL.out.ext (HAD.out _)) HF.out hlen).mono ?_);rintro e w1 ⟨A1,k1,rfl,hsl1,he1⟩;have hq:=(Blk.new W0 50 zcs.toArray).drew.ext he1;have hX:=(HAD.out _).trans he1)) | (go_at_call 148;first | ((with_reducible refine zcl (eZ m _ _ _ _ hsl1) fun w2 he2=>?_);have hX:=hX.trans he2;first | (have hq2:=hq.ext he2;have hst:=bF hq2 (aO m (aF l 2 18));have HW9:=zh (stN hX hq2 (Nat.le_refl _) (aO m (aF l 2 18)))) | (have hst:=cW w2 w2.heap.size rfl (aO m (aF l 2 18));have HW9:=zh (hX.alloc' (.cells (nmc (aO m (aF l 2 18))) 50)))) | ((with_reducible refine zcl (eZ m _ _ _ _ (hsl1.ext ((Ext.refl _).alloc' _))) fun w2 he2=>?_);have hq2:=(Blk.new w1 50 zcs.toArray).ext he2;have HG2:=zh hX.size;have hX:=(hX.alloc' _).trans he2;have hst:=bF hq2 (aO m (aF l 2 18));have HW9:=zh (stN hX hq2 HG2.out (aO m (aF l 2 18))))))
 all_goals
  go_wp2_with fail
  go_meet
  first | exact ⟨_,rfl,rfl,blkN hq2 (aO m (aF l 2 18)),(Ext.refl W0).drew'.trans HW9.out⟩ | exact ⟨_,rfl,rfl,Blk.new w2 50 (nmc (aO m (aF l 2 18))),(Ext.refl W0).drew'.trans HW9.out⟩):p:=h
theorem tk {p:Prop} (h:p:=by
 have HSS:=zh (fun (w':World) (hx:Ext W6.drew w')=>dM (HB6.out.drew.ext hx))
 have hX:=Ext.refl W6.drew
 have HSL:=zh (HS6.out.ext (Ext.refl W6).drew')
 have HAD:=zh (fun (o:Obj)=>(show Ext W6.drew (W6.alloc o).drew from ((Ext.refl W6.drew).alloc' o:Ext W6.drew (W6.drew.alloc o))))
 have HZ:=zh (show (146:Int)=((146:Nat):Int) from rfl)
 have HF:=zh (show 146+40≤len∧146≤1000 by have:=HNN.out;omega)
 have HD:=zh (sO ((x.toNat * 256+y.toNat) % 32) aa)
 have HJL:=zh (show ((x.toNat * 256+y.toNat) % 32) < 32 by omega)
 go_region_held3 (fun w'=>(∀ i,i < 8→w'.cell? ⟨g6,i,none⟩=some (.int .u8 (nb8 (aO m (aF l 2 18)) i)))) (first | (with_reducible exact HSS.out _ hX) | (with_reducible exact HSS.out _ (HAD.out _)) | (with_reducible exact HSS.out _ (hX.alloc' _)) | (with_reducible exact HSS.out _ HW9.out)) (first | (go_at_call 149;first | ((with_reducible refine (mL _ len c l 146 _ HZ.out _ (HSL.out.ext hX) HF.out hlen).mono ?_);rintro e w1 ⟨A1,k1,rfl,hsl1,he1⟩;have hX:=hX.trans he1) | ((with_reducible refine (mL _ len c l 146 _ HZ.out _ (HSL.out.ext (HAD.out _)) HF.out hlen).mono ?_);rintro e w1 ⟨A1,k1,rfl,hsl1,he1⟩;have hq:=(Blk.new W6 50 zcs.toArray).drew.ext he1;have hX:=(HAD.out _).trans he1)) | (go_at_call 150;first | ((with_reducible refine zcl (iJ (aO m (aF l 2 18)) ((x.toNat * 256+y.toNat) % 32) _ _ _ _ _ HJ7.out HD.out HJL.out hsl1) fun w2 he2=>?_);have hX:=hX.trans he2;first | (have hq2:=hq.ext he2;have hst:=bF hq2 (bD (aO m (aF l 2 18)) ((x.toNat * 256+y.toNat) % 32) 32 (aF l 146 5));have HW9:=zh (stN hX hq2 (Nat.le_refl _) (bD (aO m (aF l 2 18)) ((x.toNat * 256+y.toNat) % 32) 32 (aF l 146 5)))) | (have hst:=cW w2 w2.heap.size rfl (bD (aO m (aF l 2 18)) ((x.toNat * 256+y.toNat) % 32) 32 (aF l 146 5));have HW9:=zh (hX.alloc' (.cells (nmc (bD (aO m (aF l 2 18)) ((x.toNat * 256+y.toNat) % 32) 32 (aF l 146 5))) 50)))) | ((with_reducible refine zcl (iJ (aO m (aF l 2 18)) ((x.toNat * 256+y.toNat) % 32) _ _ _ _ _ HJ7.out HD.out HJL.out (hsl1.ext ((Ext.refl _).alloc' _))) fun w2 he2=>?_);have hq2:=(Blk.new w1 50 zcs.toArray).ext he2;have HG2:=zh hX.size;have hX:=(hX.alloc' _).trans he2;have hst:=bF hq2 (bD (aO m (aF l 2 18)) ((x.toNat * 256+y.toNat) % 32) 32 (aF l 146 5));have HW9:=zh (stN hX hq2 HG2.out (bD (aO m (aF l 2 18)) ((x.toNat * 256+y.toNat) % 32) 32 (aF l 146 5))))))
 all_goals
  go_wp2_with fail
  go_meet
  first | exact ⟨_,rfl,rfl,blkN hq2 (bD (aO m (aF l 2 18)) ((x.toNat * 256+y.toNat) % 32) 32 (aF l 146 5)),(Ext.refl W6).drew'.trans HW9.out⟩ | exact ⟨_,rfl,rfl,Blk.new w2 50 (nmc (bD (aO m (aF l 2 18)) ((x.toNat * 256+y.toNat) % 32) 32 (aF l 146 5))),(Ext.refl W6).drew'.trans HW9.out⟩):p:=h
open Go.Proofs.Tryz
section
open Go.RowKit
theorem kR (A:Option Addr) (len c:Nat) (l:List UInt8) (at_:Nat) (z:Int) (hz:z=(at_:Int)) (w:World) (h:SlB w A len c l) (hf:at_+144≤len∧at_≤1000) (hl:len≤140737488355328) :
  Calls prog 149 #[.slice A len c,.int .i64 z,.int .i64 18] w fun e w'=>∃ A' c',e=.returned (.slice A' 18 c')∧SlN w' A' 18 c' (aF l at_ 18)∧Ext w w':=by
 subst hz;exact uL A len c l at_ 18 w h aa aa hf.2 hl
theorem mL (A:Option Addr) (len c:Nat) (l:List UInt8) (at_:Nat) (z:Int) (hz:z=(at_:Int)) (w:World) (h:SlB w A len c l) (hf:at_+40≤len∧at_≤1000) (hl:len≤140737488355328) :
  Calls prog 149 #[.slice A len c,.int .i64 z,.int .i64 5] w fun e w'=>∃ A' c',e=.returned (.slice A' 5 c')∧SlN w' A' 5 c' (aF l at_ 5)∧Ext w w':=by
 subst hz;exact uL A len c l at_ 5 w h aa aa hf.2 hl
theorem iJ (leaf:UInt64) (j:Nat) (q:Int) (A:Option Addr) (c:Nat) (ns:List UInt64) (w:World) (hq:q=(j:Int)) (hd:eK j 32=5) (hj:j < 32) (h:SlN w A 5 c ns) :
  Calls prog 150 #[.agg (nmc leaf),.int .i64 q,.int .i64 32,.slice A 5 c] w fun e w'=>e=.returned (.tuple #[.agg (nmc (bD leaf j 32 ns)),.bool true])∧Ext w w':=by
 subst hq;exact zN leaf 32 j 5 A c ns w aa hj hd.symm h
theorem zD (pub m:UInt64) (A:Option Addr) (len c:Nat) (l:List UInt8) (w:World) (h:SlB w A len c l) (hn:(len:Int)=186) (hlf:aZ l 0 2 < 32) :
  Calls prog 88 #[.agg (nmc pub),.int .i64 1,.agg (nmc m),.slice A len c] w fun e w'=>e=.returned (.bool (decide (eH l 2 (aZ l 0 2 % 32) m=pub)))∧Ext w w':=by
 have hE:=((Ext.refl w).alloc' (.cells (nmc pub) 50)).alloc' (.cells (nmc m) 50)
 have hbp:=(Blk.new w 50 (nmc pub)).alloc (.cells (nmc m) 50)
 have hbm:Blk ((w.alloc (.cells (nmc pub) 50)).alloc (.cells (nmc m) 50)) (w.heap.size+1) 50 (nmc m):=Blk.newAt _ _ _ _ dr
 have hlen:len≤140737488355328:=aa
 have hl':=h.len
 obtain ⟨b,o,rfl,hra,hbl⟩:=(h.ext hE).at aa
 have hc0:=kP hra 0 aa
 have hc1:=kP hra 1 aa
 rw [Nat.add_zero] at hc0
 have HN:=zh (aMe l aa)
 have HE0:=zh hE
 have HP0:=zh hbp
 have HM0:=zh hbm
 have HS0:=zh (h.ext hE)
 clear h hE hbp hbm hra
 rw [HN.out] at hlf ⊢
 clear HN
 generalize (l[0]' aa)=x at *
 generalize (l[1]' aa)=y at *
 have hxy:=aLY x y
 have hx256:(x.toNat:Int) < 256:=qi
 have hy256:(y.toNat:Int) < 256:=qh
 have e1:(1:Int) < (len:Int):=aa
 have e2:(0:Int) < (len:Int):=aa
 have eN:((len:Int) != 186)=false:=by rw [hn];rfl
 have HNN:=zh hn
 clear hn
 go_enter func88,ntmps88
 go_wp2_with (go_at_call 146;refine (lP 1 _).mono ?_;rintro e w1 ⟨rfl,rfl⟩;rw [show eT 1=186 from rfl])
 go_quiet (fail)
 go_upto_region 6 with (go_at_call 147;refine (kI 1 _).mono ?_;rintro e w1 ⟨rfl,rfl⟩;rw [show lL 1=32 from rfl])
 have hdn:=below_drewN (Ext.refl ((w.alloc (.cells (nmc pub) 50)).alloc (.cells (nmc m) 50))) nq
 have HE0:=zh (HE0.out.trans hdn)
 have HP0:=zh (HP0.out.ext hdn)
 have HM0:=zh (HM0.out.ext hdn)
 have HS0:=zh (HS0.out.ext hdn)
 clear hdn hc0 hc1 hbl
 generalize ((w.alloc (.cells (nmc pub) 50)).alloc (.cells (nmc m) 50)).drewN nq=W0 at *
 go_cut [10,11] (fun t1 t2 wx=>∃ g:Nat,t1=.pointer (some ⟨g,0,none⟩)∧t2=.bool true∧Blk wx g 50 (nmc (aO m (aF l 2 18)))∧Ext W0 wx)
 case first =>
  exact Ad
 case rest =>
  obtain ⟨g6,rfl,rfl,hb6,he6⟩:=hcut
  obtain ⟨W6,hWW⟩:=gx (wc)
  rw [hWW] at hb6 he6 ⊢
  clear hWW
  have HB6:=zh hb6
  have HX6:=zh he6
  have HS6:=zh (HS0.out.ext he6)
  have HE6:=zh (HE0.out.trans he6)
  have HP6:=zh (HP0.out.ext he6)
  clear hb6 he6
  have HJ7:=zh (show ((x.toNat:Int) * 256+(y.toNat:Int)).tmod 32=(((x.toNat * 256+y.toNat) % 32:Nat):Int) by rw [Int.tmod_eq_emod_of_nonneg aa];omega)
  go_upto_region 7 with (fail)
  go_cut [12,13] (fun t1 t2 wx=>∃ g:Nat,t1=.pointer (some ⟨g,0,none⟩)∧t2=.bool true∧Blk wx g 50 (nmc (bD (aO m (aF l 2 18)) ((x.toNat * 256+y.toNat) % 32) 32 (aF l 146 5)))∧Ext W6 wx)
  case first =>
   exact tk
  case rest =>
   obtain ⟨g7,rfl,rfl,hb7,he7⟩:=hcut
   obtain ⟨W7,hWW⟩:=gx (wc)
   rw [hWW] at hb7 he7 ⊢
   clear hWW
   have HB7:=zh hb7
   have HX7:=zh he7
   have HS7:=zh (HS6.out.ext he7)
   have HE7:=zh (HE6.out.trans he7)
   have HP7:=zh (HP6.out.ext he7)
   clear hb7 he7
   have hq:=fun w=>cE (bD (aO m (aF l 2 18)) ((x.toNat * 256+y.toNat) % 32) 32 (aF l 146 5)) pub w
   have hr:=dL HB7.out
   have hpp:=dL HP7.out
   go_wp2_with (first | (with_reducible refine aM rfl (.tmp 12) rfl g7 0 rfl (bD (aO m (aF l 2 18)) ((x.toNat * 256+y.toNat) % 32) 32 (aF l 146 5)) hr ?_) | (with_reducible refine aM rfl (.tmp 4) rfl w.heap.size 0 rfl pub hpp ?_))
   go_ret
   exact ⟨rfl,HE7.out⟩
end
section
open Go.RowKit
attribute [local go_sem ↓] Go.wp_at_zero Go.wp_at_succ
theorem yJ (a b:UInt64) (w:World):(Op.equalIn 10000 50 (.agg (nmc a)) (.agg (nmc b))).run prog w=.ok (decide (a=b)) w:=by
 have:=cE a b w
 rw [run_eql_struct] at this
 cases h:(Op.equalIn 10000 50 (.agg (nmc a)) (.agg (nmc b))).run prog w with
 | ok r w'=>rw [h] at this;simp at this;obtain ⟨h1,h2⟩:=this;subst h1;subst h2;rfl
 | _=>rw [h] at this;simp at this
theorem rO (a b:UInt64) (w:World):(binOp .neq 50 (.agg (nmc a)) (.agg (nmc b))).run prog w=.ok (.bool (!decide (a=b))) w:=by
 rw [run_neq_struct,yJ a b w]
 rfl
def x5 (v:VtR):List Int:=[v.sl,v.ro,v.k,v.si,v.ch]
abbrev x5A (v:VtR):Array Value:=#[.int .i64 v.sl,.int .i64 v.ro,.int .i64 v.k,.int .i64 v.si,.int .i64 v.ch]
def x5n (v:VtR) (i:Nat):Int:=(x5 v).getD i 0
theorem aGi {a b:VtR} (h:a.pa ≠ b.pa):tM a b=decide (un a.pa < un b.pa):=by
 unfold tM aAq fQ
 rw [if_neg (fun e=>h (aEt e))]
theorem aGf {a b:VtR} (h:a.pa=b.pa) {k:Nat} (hk:k < 5) (he:∀ j,j < k→x5n a j=x5n b j) (hn:x5n a k ≠ x5n b k):tM a b=decide (x5n a k < x5n b k):=by
 have e0:0 < k→a.sl=b.sl:=fun h=>he 0 h
 have e1:1 < k→a.ro=b.ro:=fun h=>he 1 h
 have e2:2 < k→a.k=b.k:=fun h=>he 2 h
 have e3:3 < k→a.si=b.si:=fun h=>he 3 h
 unfold tM aAq
 rcases (by omega:k=0 ∨ k=1 ∨ k=2 ∨ k=3 ∨ k=4) with rfl | rfl | rfl | rfl | rfl
 ·have hn' : a.sl ≠ b.sl := hn
  simp only [fQ,h,if_true,if_neg hn'];rfl
 ·have hn' : a.ro ≠ b.ro := hn
  simp only [fQ,h,e0 aa,if_true,if_neg hn'];rfl
 ·have hn' : a.k ≠ b.k := hn
  simp only [fQ,h,e0 aa,e1 aa,if_true,if_neg hn'];rfl
 ·have hn' : a.si ≠ b.si := hn
  simp only [fQ,h,e0 aa,e1 aa,e2 aa,if_true,if_neg hn'];rfl
 have hn':a.ch ≠ b.ch:=hn
 simp only [fQ,h,e0 aa,e1 aa,e2 aa,e3 aa,if_true,if_neg hn'];rfl
theorem aGg {a b:VtR} (h:a.pa=b.pa) (he:∀ j,j < 5→x5n a j=x5n b j) (hn:a.va ≠ b.va):tM a b=decide (un a.va < un b.va):=by
 have e0:a.sl=b.sl:=he 0 aa
 have e1:a.ro=b.ro:=he 1 aa
 have e2:a.k=b.k:=he 2 aa
 have e3:a.si=b.si:=he 3 aa
 have e4:a.ch=b.ch:=he 4 aa
 unfold tM aAq
 simp only [fQ,h,e0,e1,e2,e3,e4,if_true,if_neg (fun e=>hn (aEt e):¬ un a.va=un b.va)]
theorem aGh {a b:VtR} (h:a.pa=b.pa) (he:∀ j,j < 5→x5n a j=x5n b j) (hn:a.va=b.va):tM a b=decide (a.su < b.su):=by
 have e0:a.sl=b.sl:=he 0 aa
 have e1:a.ro=b.ro:=he 1 aa
 have e2:a.k=b.k:=he 2 aa
 have e3:a.si=b.si:=he 3 aa
 have e4:a.ch=b.ch:=he 4 aa
 unfold tM aAq
 simp only [fQ,h,e0,e1,e2,e3,e4,hn,if_true]
 split
 ·rename_i e;rw [e];simp
 rfl
theorem aAp {w:World} {g:Nat} {t:TypeId} {v:VtR} (h:Blk w g t (vtA v)):w.rangeAt g 6 (bcs (nmb v.pa)):=by
 have h1:=aQ (k:=8) (bG (k:=6) (aC h))
 rw [eJ,← Nat.zero_add 6]
 exact h1
theorem aAo {w:World} {g:Nat} {t:TypeId} {v:VtR} (h:Blk w g t (vtA v)):w.rangeAt g 14 (bcs (nmb v.va)):=by
 have h1:=aQ (k:=8) (bG (k:=14) (aC h))
 rw [eJ,← Nat.zero_add 14]
 exact h1
def x5L (v:VtR):List Value:=(x5A v).toList
theorem aJO (v:VtR):∀ u ∈ x5L v,u.oneCell'=true:=by
 intro u hu
 simp only [x5L,List.mem_cons,List.not_mem_nil,or_false] at hu
 rcases hu with rfl | rfl | rfl | rfl | rfl <;> rfl
theorem aJP (v:VtR):(x5A v).all (·.oneCell')=true:=all_oneCell_toArray (aJO v)
theorem kL {o:Oper} {a:Act} {w:World} {ops:Array Oper} {rest:List Oper} {Q:Exit→Act→World→Prop} (hgd:o.guard=none) (x y:Operand) (ho:o.op=.store 220 x y) (cs:Array Value) (hcs:cs.size=5) (R:VtR) (hx:a.eval x=.pointer (some ⟨w.heap.size,0,none⟩)) (hy:a.eval y=.agg (x5A R))
  (h:wpList prog ops Q rest (a.put o.dst undef) (w.alloc (.cells (x5A R) 220))):wpList prog ops Q (o :: rest) a (w.alloc (.cells cs 220)):=by
 have ht:=aI (Blk.new w 220 cs)
 rw [hcs] at ht
 refine wpList_store_mid hgd 220 x y ho w.heap.size 0 (x5A R) hx hy ht ab (aJP R) ?_
 rw [eD w 220 cs (x5A R) rz]
 exact h
theorem uD {w:World} {g:Nat} {t:TypeId} {v:VtR} (h:Blk w g t (x5A v)) {k:Nat} (hk:k < 5):w.cell? ⟨g,k,none⟩=some (.int .i64 (x5n v k)):=by
 rcases (by omega:k=0 ∨ k=1 ∨ k=2 ∨ k=3 ∨ k=4) with rfl | rfl | rfl | rfl | rfl <;> exact h.cell _
theorem aEp (a b:VtR) (w:World):Calls prog 192 #[.agg (vtA a),.agg (vtA b)] w fun e w'=>e=.returned (.bool (tM a b))∧Ext w w':=by
 have hE:=((Ext.refl w).alloc' (.cells (vtA a) 124)).alloc' (.cells (vtA b) 124)
 have HB1:=zh ((Blk.new w 124 (vtA a)).alloc (.cells (vtA b) 124))
 have HB2:=zh (show Blk ((w.alloc (.cells (vtA a) 124)).alloc (.cells (vtA b) 124)) (w.heap.size+1) 124 (vtA b) from Blk.newAt _ _ _ _ dr)
 have HE:=zh hE
 obtain ⟨W0,hW0⟩:=gx ((w.alloc (.cells (vtA a) 124)).alloc (.cells (vtA b) 124))
 rw [hW0] at HB1 HB2 HE
 have hsz:W0.heap.size=w.heap.size+2:=by rw [← hW0];simp
 have HSZ:=zh hsz
 have g1:w.heap.size < W0.heap.size:=aa
 have g2:w.heap.size+1 < W0.heap.size:=aa
 obtain ⟨a0,a1,a2,a3,a4,a5,a6,a7⟩:=dI HB1.out
 obtain ⟨b0,b1,b2,b3,b4,b5,b6,b7⟩:=dI HB2.out
 have p1:=aAp HB1.out
 have p2:=aAp HB2.out
 have hq:=fun W=>rO a.pa b.pa W
 have hqi:=fun W=>yJ a.pa b.pa W
 clear hE a6 a7 b6 b7 hsz
 by_cases hpa:a.pa=b.pa
 ·rw [decide_eq_true hpa] at hq hqi
  rw [Bool.not_true] at hq
  have HPA:=zh hpa
  clear hpa
  go_enter func192,ntmps192
  go_wp2_with (first | (with_reducible refine aM rfl (.tmp 8) rfl w.heap.size 6 rfl a.pa p1 ?_) | (with_reducible refine aM rfl (.tmp 10) rfl (w.heap.size+1) 6 rfl b.pa p2 ?_) | (with_reducible refine kL rfl (.tmp 5) (.tmp 28) rfl _ rfl a rfl rfl ?_) | (with_reducible refine kL rfl (.tmp 6) (.tmp 39) rfl _ rfl b rfl rfl ?_))
  have HX:=zh (((Blk.new W0 220 (x5A a))).alloc (.cells (x5A b) 220))
  have HY:=zh (show Blk ((W0.alloc (.cells (x5A a) 220)).alloc (.cells (x5A b) 220)) (W0.heap.size+1) 220 (x5A b) from Blk.newAt _ _ _ _ dr)
  have HE1:=zh (((Ext.refl W0).alloc' (.cells (x5A a) 220)).alloc' (.cells (x5A b) 220))
  clear p1 p2 hq hqi a0 a1 a2 a3 a4 a5 b0 b1 b2 b3 b4 b5 g1 g2
  generalize (W0.alloc (.cells (x5A a) 220)).alloc (.cells (x5A b) 220)=W1 at HX HY HE1 ⊢
  go_loopw [40,7] (fun i _ wr=>∃ k:Nat,k≤5∧i=.int .i64 (k:Int)∧Hid (∀ j,j < k→x5n a j=x5n b j)∧Hid (Ext W1 wr)) (fun i _ _=>5 - (intOf i).toNat)
  case atStart=>exact ⟨0,aa,rfl,zh (fun j hj=>aa),zh (Ext.refl _)⟩
  case round =>
   obtain ⟨k,hk,rfl,HP,HZ⟩:=hrel
   by_cases hlt:k < 5
   ·exact tz
   obtain rfl:k=5:=aa
   have HE2:=zh (HE1.out.trans HZ.out)
   have HW:=zh (HE.out.trans HE2.out)
   have p1:=aAo (HB1.out.ext HE2.out)
   have p2:=aAo (HB2.out.ext HE2.out)
   obtain ⟨a0,a1,a2,a3,a4,a5,a6,a7⟩:=dI (HB1.out.ext HE2.out)
   obtain ⟨b0,b1,b2,b3,b4,b5,b6,b7⟩:=dI (HB2.out.ext HE2.out)
   clear a0 a1 a2 a3 a4 a6 a7 b0 b1 b2 b3 b4 b6 b7
   have hq:=fun W=>rO a.va b.va W
   have hqi:=fun W=>yJ a.va b.va W
   by_cases hva:a.va=b.va
   ·exact As
   have HV:=zh (aGg HPA.out HP.out hva)
   rw [decide_eq_false hva] at hq hqi
   rw [Bool.not_false] at hq
   clear hva
   go_wp2_with (first | (with_reducible refine aM rfl (.tmp 58) rfl w.heap.size 14 rfl a.va p1 ?_) | (with_reducible refine aM rfl (.tmp 60) rfl (w.heap.size+1) 14 rfl b.va p2 ?_) | (with_reducible refine aM rfl (.tmp 63) rfl w.heap.size 14 rfl a.va p1 ?_) | (with_reducible refine aM rfl (.tmp 65) rfl (w.heap.size+1) 14 rfl b.va p2 ?_))
   refine zcl (aAL a.va b.va wr) fun w1 he1=>?_
   exact BU
 have HV:=zh (aGi hpa)
 rw [decide_eq_false hpa] at hq hqi
 rw [Bool.not_false] at hq
 clear hpa
 go_enter func192,ntmps192
 go_wp2_with (first | (with_reducible refine aM rfl (.tmp 8) rfl w.heap.size 6 rfl a.pa p1 ?_) | (with_reducible refine aM rfl (.tmp 10) rfl (w.heap.size+1) 6 rfl b.pa p2 ?_) | (with_reducible refine aM rfl (.tmp 13) rfl w.heap.size 6 rfl a.pa p1 ?_) | (with_reducible refine aM rfl (.tmp 15) rfl (w.heap.size+1) 6 rfl b.pa p2 ?_))
 refine zcl (aAL a.pa b.pa W0) fun w1 he1=>?_
 exact Cj
end
section
open Go.RowKit
theorem zC (pub m:UInt64) (A:Option Addr) (len c:Nat) (l:List UInt8) (w:World) (h:SlB w A len c l) (hn:(len:Int)=370) (hlf:aZ l 0 2 < 1024) :
  Calls prog 88 #[.agg (nmc pub),.int .i64 2,.agg (nmc m),.slice A len c] w fun e w'=>e=.returned (.bool (decide (eH l 186 (aZ l 0 2 / 32) (eH l 2 (aZ l 0 2 % 32) m)=pub)))∧Ext w w':=by
 have hE:=((Ext.refl w).alloc' (.cells (nmc pub) 50)).alloc' (.cells (nmc m) 50)
 have hbp:=(Blk.new w 50 (nmc pub)).alloc (.cells (nmc m) 50)
 have hbm:Blk ((w.alloc (.cells (nmc pub) 50)).alloc (.cells (nmc m) 50)) (w.heap.size+1) 50 (nmc m):=Blk.newAt _ _ _ _ dr
 have hlen:len≤140737488355328:=aa
 have hl':=h.len
 obtain ⟨b,o,rfl,hra,hbl⟩:=(h.ext hE).at aa
 have hc0:=kP hra 0 aa
 have hc1:=kP hra 1 aa
 rw [Nat.add_zero] at hc0
 have HN:=zh (aMe l aa)
 have HE0:=zh hE
 have HP0:=zh hbp
 have HM0:=zh hbm
 have HS0:=zh (h.ext hE)
 clear h hE hbp hbm hra
 rw [HN.out] at hlf ⊢
 clear HN
 generalize (l[0]' aa)=x at *
 generalize (l[1]' aa)=y at *
 have hxy:=aLY x y
 have hx256:(x.toNat:Int) < 256:=qi
 have hy256:(y.toNat:Int) < 256:=qh
 have e1:(1:Int) < (len:Int):=aa
 have e2:(0:Int) < (len:Int):=aa
 have eN:((len:Int) != 370)=false:=by rw [hn];rfl
 have HNN:=zh hn
 clear hn
 go_enter func88,ntmps88
 go_wp2_with (go_at_call 146;refine (lP 2 _).mono ?_;rintro e w1 ⟨rfl,rfl⟩;rw [show eT 2=370 from rfl])
 go_quiet (fail)
 go_upto_region 6 with (go_at_call 147;refine (kI 2 _).mono ?_;rintro e w1 ⟨rfl,rfl⟩;rw [show lL 2=1024 from rfl])
 have hdn:=below_drewN (Ext.refl ((w.alloc (.cells (nmc pub) 50)).alloc (.cells (nmc m) 50))) nq
 have HE0:=zh (HE0.out.trans hdn)
 have HP0:=zh (HP0.out.ext hdn)
 have HM0:=zh (HM0.out.ext hdn)
 have HS0:=zh (HS0.out.ext hdn)
 clear hdn hc0 hc1 hbl
 generalize ((w.alloc (.cells (nmc pub) 50)).alloc (.cells (nmc m) 50)).drewN nq=W0 at *
 go_cut [10,11] (fun t1 t2 wx=>∃ g:Nat,t1=.pointer (some ⟨g,0,none⟩)∧t2=.bool true∧Blk wx g 50 (nmc (aO m (aF l 2 18)))∧Ext W0 wx)
 case first =>
  exact Ad
 case rest =>
  obtain ⟨g6,rfl,rfl,hb6,he6⟩:=hcut
  obtain ⟨W6,hWW⟩:=gx (wc)
  rw [hWW] at hb6 he6 ⊢
  clear hWW
  have HB6:=zh hb6
  have HX6:=zh he6
  have HS6:=zh (HS0.out.ext he6)
  have HE6:=zh (HE0.out.trans he6)
  have HP6:=zh (HP0.out.ext he6)
  clear hb6 he6
  have HJ7:=zh (show ((x.toNat:Int) * 256+(y.toNat:Int)).tmod 32=(((x.toNat * 256+y.toNat) % 32:Nat):Int) by rw [Int.tmod_eq_emod_of_nonneg aa];omega)
  go_upto_region 7 with (fail)
  go_cut [12,13] (fun t1 t2 wx=>∃ g:Nat,t1=.pointer (some ⟨g,0,none⟩)∧t2=.bool true∧Blk wx g 50 (nmc (bD (aO m (aF l 2 18)) ((x.toNat * 256+y.toNat) % 32) 32 (aF l 146 5)))∧Ext W6 wx)
  case first =>
   exact tk
  case rest =>
   obtain ⟨g7,rfl,rfl,hb7,he7⟩:=hcut
   obtain ⟨W7,hWW⟩:=gx (wc)
   rw [hWW] at hb7 he7 ⊢
   clear hWW
   have HB7:=zh hb7
   have HX7:=zh he7
   have HS7:=zh (HS6.out.ext he7)
   have HE7:=zh (HE6.out.trans he7)
   have HP7:=zh (HP6.out.ext he7)
   clear hb7 he7
   go_upto_region 10 with (fail)
   go_cut [14,15] (fun t1 t2 wx=>∃ g:Nat,t1=.pointer (some ⟨g,0,none⟩)∧t2=.bool true∧Blk wx g 50 (nmc (aO (bD (aO m (aF l 2 18)) ((x.toNat * 256+y.toNat) % 32) 32 (aF l 146 5)) (aF l 186 18)))∧Ext W7 wx)
   case first =>
    have HSS:=zh (fun (w':World) (hx:Ext W7.drew w')=>dM (HB7.out.drew.ext hx))
    have hX:=Ext.refl W7.drew
    have HSL:=zh (HS7.out.ext (Ext.refl W7).drew')
    have HAD:=zh (fun (o:Obj)=>(show Ext W7.drew (W7.alloc o).drew from ((Ext.refl W7.drew).alloc' o:Ext W7.drew (W7.drew.alloc o))))
    have HZ:=zh (show (186:Int)=((186:Nat):Int) from rfl)
    have HF:=zh (show 186+144≤len∧186≤1000 by have:=HNN.out;omega)
    go_region_held3 (fun w'=>(∀ i,i < 8→w'.cell? ⟨g7,i,none⟩=some (.int .u8 (nb8 (bD (aO m (aF l 2 18)) ((x.toNat * 256+y.toNat) % 32) 32 (aF l 146 5)) i)))) (first | (with_reducible exact HSS.out _ hX) | (with_reducible exact HSS.out _ (HAD.out _)) | (with_reducible exact HSS.out _ (hX.alloc' _)) | (with_reducible exact HSS.out _ HW9.out)) (first | (go_at_call 149;first | ((with_reducible refine (kR _ len c l 186 _ HZ.out _ (HSL.out.ext hX) HF.out hlen).mono ?_);rintro e w1 ⟨A1,k1,rfl,hsl1,he1⟩;have hX:=hX.trans he1) | ((with_reducible refine (kR _ len c l 186 _ HZ.out _ (HSL.out.ext (HAD.out _)) HF.out hlen).mono ?_);rintro e w1 ⟨A1,k1,rfl,hsl1,he1⟩;have hq:=(Blk.new W7 50 zcs.toArray).drew.ext he1;have hX:=(HAD.out _).trans he1)) | (go_at_call 148;first | ((with_reducible refine zcl (eZ (bD (aO m (aF l 2 18)) ((x.toNat * 256+y.toNat) % 32) 32 (aF l 146 5)) _ _ _ _ hsl1) fun w2 he2=>?_);have hX:=hX.trans he2;first | (have hq2:=hq.ext he2;have hst:=bF hq2 (aO (bD (aO m (aF l 2 18)) ((x.toNat * 256+y.toNat) % 32) 32 (aF l 146 5)) (aF l 186 18));have HW9:=zh (stN hX hq2 (Nat.le_refl _) (aO (bD (aO m (aF l 2 18)) ((x.toNat * 256+y.toNat) % 32) 32 (aF l 146 5)) (aF l 186 18)))) | (have hst:=cW w2 w2.heap.size rfl (aO (bD (aO m (aF l 2 18)) ((x.toNat * 256+y.toNat) % 32) 32 (aF l 146 5)) (aF l 186 18));have HW9:=zh (hX.alloc' (.cells (nmc (aO (bD (aO m (aF l 2 18)) ((x.toNat * 256+y.toNat) % 32) 32 (aF l 146 5)) (aF l 186 18))) 50)))) | ((with_reducible refine zcl (eZ (bD (aO m (aF l 2 18)) ((x.toNat * 256+y.toNat) % 32) 32 (aF l 146 5)) _ _ _ _ (hsl1.ext ((Ext.refl _).alloc' _))) fun w2 he2=>?_);have hq2:=(Blk.new w1 50 zcs.toArray).ext he2;have HG2:=zh hX.size;have hX:=(hX.alloc' _).trans he2;have hst:=bF hq2 (aO (bD (aO m (aF l 2 18)) ((x.toNat * 256+y.toNat) % 32) 32 (aF l 146 5)) (aF l 186 18));have HW9:=zh (stN hX hq2 HG2.out (aO (bD (aO m (aF l 2 18)) ((x.toNat * 256+y.toNat) % 32) 32 (aF l 146 5)) (aF l 186 18))))))
    all_goals
     go_wp2_with fail
     go_meet
     first | exact ⟨_,rfl,rfl,blkN hq2 (aO (bD (aO m (aF l 2 18)) ((x.toNat * 256+y.toNat) % 32) 32 (aF l 146 5)) (aF l 186 18)),(Ext.refl W7).drew'.trans HW9.out⟩ | exact ⟨_,rfl,rfl,Blk.new w2 50 (nmc (aO (bD (aO m (aF l 2 18)) ((x.toNat * 256+y.toNat) % 32) 32 (aF l 146 5)) (aF l 186 18))),(Ext.refl W7).drew'.trans HW9.out⟩
   case rest =>
    obtain ⟨g10,rfl,rfl,hb10,he10⟩:=hcut
    obtain ⟨W10,hWW⟩:=gx (wc)
    rw [hWW] at hb10 he10 ⊢
    clear hWW
    have HB10:=zh hb10
    have HX10:=zh he10
    have HS10:=zh (HS7.out.ext he10)
    have HE10:=zh (HE7.out.trans he10)
    have HP10:=zh (HP7.out.ext he10)
    clear hb10 he10
    have HJ11:=zh (show IntKind.i64.wrap (((x.toNat:Int) * 256+(y.toNat:Int)).tdiv 32)=(((x.toNat * 256+y.toNat) / 32:Nat):Int) by rw [Int.tdiv_eq_ediv_of_nonneg aa,IntKind.wrap_i64];omega)
    go_upto_region 11 with (fail)
    go_cut [16,17] (fun t1 t2 wx=>∃ g:Nat,t1=.pointer (some ⟨g,0,none⟩)∧t2=.bool true∧Blk wx g 50 (nmc (bD (aO (bD (aO m (aF l 2 18)) ((x.toNat * 256+y.toNat) % 32) 32 (aF l 146 5)) (aF l 186 18)) ((x.toNat * 256+y.toNat) / 32) 32 (aF l 330 5)))∧Ext W10 wx)
    case first =>
     have HSS:=zh (fun (w':World) (hx:Ext W10.drew w')=>dM (HB10.out.drew.ext hx))
     have hX:=Ext.refl W10.drew
     have HSL:=zh (HS10.out.ext (Ext.refl W10).drew')
     have HAD:=zh (fun (o:Obj)=>(show Ext W10.drew (W10.alloc o).drew from ((Ext.refl W10.drew).alloc' o:Ext W10.drew (W10.drew.alloc o))))
     have HZ:=zh (show (330:Int)=((330:Nat):Int) from rfl)
     have HF:=zh (show 330+40≤len∧330≤1000 by have:=HNN.out;omega)
     have HD:=zh (sO ((x.toNat * 256+y.toNat) / 32) aa)
     have HJL:=zh (show ((x.toNat * 256+y.toNat) / 32) < 32 by omega)
     go_region_held3 (fun w'=>(∀ i,i < 8→w'.cell? ⟨g10,i,none⟩=some (.int .u8 (nb8 (aO (bD (aO m (aF l 2 18)) ((x.toNat * 256+y.toNat) % 32) 32 (aF l 146 5)) (aF l 186 18)) i)))) (first | (with_reducible exact HSS.out _ hX) | (with_reducible exact HSS.out _ (HAD.out _)) | (with_reducible exact HSS.out _ (hX.alloc' _)) | (with_reducible exact HSS.out _ HW9.out)) (first | (go_at_call 149;first | ((with_reducible refine (mL _ len c l 330 _ HZ.out _ (HSL.out.ext hX) HF.out hlen).mono ?_);rintro e w1 ⟨A1,k1,rfl,hsl1,he1⟩;have hX:=hX.trans he1) | ((with_reducible refine (mL _ len c l 330 _ HZ.out _ (HSL.out.ext (HAD.out _)) HF.out hlen).mono ?_);rintro e w1 ⟨A1,k1,rfl,hsl1,he1⟩;have hq:=(Blk.new W10 50 zcs.toArray).drew.ext he1;have hX:=(HAD.out _).trans he1)) | (go_at_call 150;first | ((with_reducible refine zcl (iJ (aO (bD (aO m (aF l 2 18)) ((x.toNat * 256+y.toNat) % 32) 32 (aF l 146 5)) (aF l 186 18)) ((x.toNat * 256+y.toNat) / 32) _ _ _ _ _ HJ11.out HD.out HJL.out hsl1) fun w2 he2=>?_);have hX:=hX.trans he2;first | (have hq2:=hq.ext he2;have hst:=bF hq2 (bD (aO (bD (aO m (aF l 2 18)) ((x.toNat * 256+y.toNat) % 32) 32 (aF l 146 5)) (aF l 186 18)) ((x.toNat * 256+y.toNat) / 32) 32 (aF l 330 5));have HW9:=zh (stN hX hq2 (Nat.le_refl _) (bD (aO (bD (aO m (aF l 2 18)) ((x.toNat * 256+y.toNat) % 32) 32 (aF l 146 5)) (aF l 186 18)) ((x.toNat * 256+y.toNat) / 32) 32 (aF l 330 5)))) | (have hst:=cW w2 w2.heap.size rfl (bD (aO (bD (aO m (aF l 2 18)) ((x.toNat * 256+y.toNat) % 32) 32 (aF l 146 5)) (aF l 186 18)) ((x.toNat * 256+y.toNat) / 32) 32 (aF l 330 5));have HW9:=zh (hX.alloc' (.cells (nmc (bD (aO (bD (aO m (aF l 2 18)) ((x.toNat * 256+y.toNat) % 32) 32 (aF l 146 5)) (aF l 186 18)) ((x.toNat * 256+y.toNat) / 32) 32 (aF l 330 5))) 50)))) | ((with_reducible refine zcl (iJ (aO (bD (aO m (aF l 2 18)) ((x.toNat * 256+y.toNat) % 32) 32 (aF l 146 5)) (aF l 186 18)) ((x.toNat * 256+y.toNat) / 32) _ _ _ _ _ HJ11.out HD.out HJL.out (hsl1.ext ((Ext.refl _).alloc' _))) fun w2 he2=>?_);have hq2:=(Blk.new w1 50 zcs.toArray).ext he2;have HG2:=zh hX.size;have hX:=(hX.alloc' _).trans he2;have hst:=bF hq2 (bD (aO (bD (aO m (aF l 2 18)) ((x.toNat * 256+y.toNat) % 32) 32 (aF l 146 5)) (aF l 186 18)) ((x.toNat * 256+y.toNat) / 32) 32 (aF l 330 5));have HW9:=zh (stN hX hq2 HG2.out (bD (aO (bD (aO m (aF l 2 18)) ((x.toNat * 256+y.toNat) % 32) 32 (aF l 146 5)) (aF l 186 18)) ((x.toNat * 256+y.toNat) / 32) 32 (aF l 330 5))))))
     all_goals
      go_wp2_with fail
      go_meet
      first | exact ⟨_,rfl,rfl,blkN hq2 (bD (aO (bD (aO m (aF l 2 18)) ((x.toNat * 256+y.toNat) % 32) 32 (aF l 146 5)) (aF l 186 18)) ((x.toNat * 256+y.toNat) / 32) 32 (aF l 330 5)),(Ext.refl W10).drew'.trans HW9.out⟩ | exact ⟨_,rfl,rfl,Blk.new w2 50 (nmc (bD (aO (bD (aO m (aF l 2 18)) ((x.toNat * 256+y.toNat) % 32) 32 (aF l 146 5)) (aF l 186 18)) ((x.toNat * 256+y.toNat) / 32) 32 (aF l 330 5))),(Ext.refl W10).drew'.trans HW9.out⟩
    case rest =>
     obtain ⟨g11,rfl,rfl,hb11,he11⟩:=hcut
     obtain ⟨W11,hWW⟩:=gx (wc)
     rw [hWW] at hb11 he11 ⊢
     clear hWW
     have HB11:=zh hb11
     have HX11:=zh he11
     have HS11:=zh (HS10.out.ext he11)
     have HE11:=zh (HE10.out.trans he11)
     have HP11:=zh (HP10.out.ext he11)
     clear hb11 he11
     have hq:=fun w=>cE (bD (aO (bD (aO m (aF l 2 18)) ((x.toNat * 256+y.toNat) % 32) 32 (aF l 146 5)) (aF l 186 18)) ((x.toNat * 256+y.toNat) / 32) 32 (aF l 330 5)) pub w
     have hr:=dL HB11.out
     have hpp:=dL HP11.out
     go_wp2_with (first | (with_reducible refine aM rfl (.tmp 16) rfl g11 0 rfl (bD (aO (bD (aO m (aF l 2 18)) ((x.toNat * 256+y.toNat) % 32) 32 (aF l 146 5)) (aF l 186 18)) ((x.toNat * 256+y.toNat) / 32) 32 (aF l 330 5)) hr ?_) | (with_reducible refine aM rfl (.tmp 4) rfl w.heap.size 0 rfl pub hpp ?_))
     go_ret
     exact ⟨rfl,HE11.out⟩
theorem zF (pub m:UInt64) (lv:Int) (A:Option Addr) (len c:Nat) (l:List UInt8) (w:World) (h:SlB w A len c l) (hs:eT lv=(len:Int)) (hlv:lv=1 ∨ lv=2) (hlf:lL lv≤(aZ l 0 2:Int)) :
  Calls prog 88 #[.agg (nmc pub),.int .i64 lv,.agg (nmc m),.slice A len c] w fun e w'=>e=.returned (.bool false)∧Ext w w':=by
 have hE:=((Ext.refl w).alloc' (.cells (nmc pub) 50)).alloc' (.cells (nmc m) 50)
 have h186:186≤len:=by rcases hlv with rfl | rfl <;> (have:(len:Int)=_:=hs.symm;simp [eT] at hs;omega)
 have hl':=h.len
 obtain ⟨b,o,rfl,hra,hbl⟩:=(h.ext hE).at aa
 have hc0:=kP hra 0 aa
 have hc1:=kP hra 1 aa
 rw [Nat.add_zero] at hc0
 have HN:=zh (aMe l aa)
 have HE0:=zh hE
 have hcap:=h.cap
 have hle:=h.le
 clear h hE hra
 rw [HN.out] at hlf
 clear HN
 generalize (l[0]' aa)=x at *
 generalize (l[1]' aa)=y at *
 have hxy:=aLY x y
 have hx256:(x.toNat:Int) < 256:=qi
 have hy256:(y.toNat:Int) < 256:=qh
 have e1:(1:Int) < (len:Int):=aa
 have e2:(0:Int) < (len:Int):=aa
 have eN:((len:Int) != eT lv)=false:=by rw [hs];simp
 have e3:decide (lv < 1)=false:=decide_eq_false aa
 have e4:decide ((2:Int) < lv)=false:=decide_eq_false aa
 have e5:lL lv≤(x.toNat:Int) * 256+(y.toNat:Int):=by have:=hlf;omega
 clear hs hlf hlv
 generalize hcz:lL lv=cz at *
 generalize hsz:eT lv=sz at *
 have HC:=zh hcz
 have HS:=zh hsz
 clear hcz hsz
 go_enter func88,ntmps88
 go_wp2_with (go_at_call 146;refine (lP lv _).mono ?_;rintro e w1 ⟨rfl,rfl⟩;rw [HS.out])
 go_quiet (fail)
 go_wp2_with (go_at_call 147;refine (kI lv _).mono ?_;rintro e w1 ⟨rfl,rfl⟩;rw [HC.out])
 go_ret
 exact ⟨rfl,below_drewN HE0.out _⟩
theorem rS (pub m:UInt64) (lv:Int) (A:Option Addr) (len c:Nat) (l:List UInt8) (w:World) (h:SlB w A len c l) (hno:¬ (lv=1 ∨ lv=2) ∨ eT lv ≠ (len:Int)) :
  Calls prog 88 #[.agg (nmc pub),.int .i64 lv,.agg (nmc m),.slice A len c] w fun e w'=>e=.returned (.bool false)∧Ext w w':=by
 have hE:=((Ext.refl w).alloc' (.cells (nmc pub) 50)).alloc' (.cells (nmc m) 50)
 have HE:=zh hE
 have hcap:=h.cap
 have hle:=h.le
 clear h hE
 by_cases h1:lv < 1
 ·have e3 : decide (lv < 1) = true := decide_eq_true h1
  exact zj
 have e3:decide (lv < 1)=false:=decide_eq_false h1
 by_cases h2:2 < lv
 ·have e4 : decide ((2 : Int) < lv) = true := decide_eq_true h2
  exact zj
 have e4:decide ((2:Int) < lv)=false:=decide_eq_false h2
 have hs:eT lv ≠ (len:Int):=by
  rcases hno with h | h
  ·exact absurd aa h
  exact h
 have b1:((len:Int) != eT lv)=true:=r8
 clear hno hs
 generalize hsz:eT lv=sz at *
 have HS:=zh hsz
 clear hsz
 go_enter func88,ntmps88
 go_wp2_with (go_at_call 146;refine (lP lv _).mono ?_;rintro e w1 ⟨rfl,rfl⟩;rw [HS.out])
 go_ret
 exact ⟨rfl,HE.out⟩
theorem pQ (pub m:UInt64) (lv:Int) (A:Option Addr) (n c:Nat) (l:List UInt8) (w:World) (h:SlB w A n c l) :
  Calls prog 88 #[.agg (nmc pub),.int .i64 lv,.agg (nmc m),.slice A n c] w fun e w'=>e=.returned (.bool (gS pub lv m l))∧Ext w w':=by
 have hlen:=h.len
 by_cases hs:eT lv=(n:Int)
 ·by_cases h12 : lv = 1 ∨ lv = 2
  ·by_cases hc : lL lv ≤ (aZ l 0 2 : Int)
   ·rw [aCs pub lv m l hc]
    exact zF pub m lv A n c l w h hs h12 hc
   rcases h12 with rfl | rfl
   ·have hlf : aZ l 0 2 < 32 := by have : ¬ (32 : Int) ≤ (aZ l 0 2 : Int) := hc; omega
    have hn:(n:Int)=186:=hs.symm
    have hv:gS pub 1 m l=decide (eH l 2 (aZ l 0 2 % 32) m=pub):=by
     exact Bd
    rw [hv]
    exact zD pub m A n c l w h hn hlf
   have hlf:aZ l 0 2 < 1024:=by have:¬ (1024:Int)≤(aZ l 0 2:Int):=hc;omega
   have hn:(n:Int)=370:=hs.symm
   have hv:gS pub 2 m l=decide (eH l 186 (aZ l 0 2 / 32) (eH l 2 (aZ l 0 2 % 32) m)=pub):=by
    exact yy
   rw [hv]
   exact zC pub m A n c l w h hn hlf
  have hv:gS pub lv m l=false:=by unfold gS;rw [if_neg (fun e=>h12 (.inl e)),if_neg (fun e=>h12 (.inr e))]
  rw [hv]
  exact rS pub m lv A n c l w h (.inl h12)
 rw [mX pub lv m l (by rw [hlen];exact hs)]
 exact rS pub m lv A n c l w h (.inr hs)
theorem fU {z:Int}:wfI z ↔ oU z:=by
 unfold wfI oU Lit.wf
 simp [IntKind.signed,IntKind.bits]
 intro _
 exact Iff.rfl
structure RowP (α:Type) [RowT α] (ty:TypeId) (arr:α→Array Value):Prop where
 eq:∀ x,(RowT.enc x).toArray=arr x
 info:(prog.info? ty).map (·.size)=some (RowT.sz α)
 und:∃ d,prog.underlying ty=some d∧d.isRow=true
section
variable {α:Type} [RowT α] {ty:TypeId} {arr:α→Array Value} {o:Oper} {a:Act} {w:World} {ops:Array Oper} {rest:List Oper} {Q:Exit→Act→World→Prop} {K:Act→World→Prop} {X:Prop}
theorem RowP.toL (h:RowP α ty arr) (x:α):(arr x).toList=RowT.enc x:=by rw [← h.eq]
theorem RowP.size (h:RowP α ty arr) (x:α):(arr x).size=RowT.sz α:=by rw [← h.eq];simp [RowT.len]
theorem RowP.all (h:RowP α ty arr) (x:α):(arr x).all (·.oneCell')=true:=by rw [← h.eq];exact all_oneCell_toArray (RowT.one x)
theorem aD (h:RowP α ty arr) (hgd:o.guard=none) (x:Operand) (ho:o.op=.load ty x) (b of:Nat) (hx:a.eval x=.pointer (some ⟨b,of,none⟩)) (R:α) (v:Value) (hv:Value.agg (arr R)=v) (hc:w.rangeAt b of (RowT.enc R))
  (hn:wpList prog ops Q rest (a.put o.dst v) w):wpList prog ops Q (o :: rest) a w:=by
 obtain ⟨d,h1,h2⟩:=h.und
 refine wpList_load_mid hgd ty x ho b of hx (RowT.enc R) d hc h1 h2 mx ?_
 rw [h.eq,hv];exact hn
theorem bX (h:RowP α ty arr) (hgd:o.guard=none) (x y:Operand) (ho:o.op=.store ty x y) (b of:Nat) (hx:a.eval x=.pointer (some ⟨b,of,none⟩)) (R:α) (v:Value) (hv:Value.agg (arr R)=v) (hy:a.eval y=v) (ht:w.there b of (RowT.sz α))
  (hn:wpList prog ops Q rest (a.put o.dst undef) (w.setCells b of (RowT.enc R))):wpList prog ops Q (o :: rest) a w:=by
 rw [← h.toL R] at hn
 exact wpList_store_mid hgd ty x y ho b of (arr R) hx (by rw [hy,hv]) (by rw [h.size];exact ht) (by rw [h.info,h.size]) (h.all R) hn
theorem aU (h:RowP α ty arr) (hgd:o.guard=none) (x y:Operand) (ho:o.op=.store ty x y) (cs:Array Value) (hcs:cs.size=RowT.sz α) (R:α) (v:Value) (hv:Value.agg (arr R)=v) (hx:a.eval x=.pointer (some ⟨w.heap.size,0,none⟩)) (hy:a.eval y=v)
  (hn:∀ W2,Hid (w.alloc (.cells (arr R) ty)=W2)→wpList prog ops Q rest (a.put o.dst undef) W2):wpList prog ops Q (o :: rest) a (w.alloc (.cells cs ty)):=by
 refine bX h hgd x y ho w.heap.size 0 hx R v hv hy (by rw [← hcs];exact aI (Blk.new w ty cs)) ?_
 rw [← h.toL,eD w ty cs (arr R) (by rw [hcs,h.size])]
 exact hn _ (zh rfl)
theorem aG {S:World→Prop} (h:RowP α ty arr) (hw:Region.wanted o (yielded ops a.tmps)=true) (x:Operand) (ho:o.op=.load ty x) (b of:Nat) (hx:a.eval x=.pointer (some ⟨b,of,none⟩)) (R:α) (v:Value) (hv:Value.agg (arr R)=v) (hS:∀ w,S w→w.rangeAt b of (RowT.enc R)):YieldsIf prog ops S o v a:=by
 obtain ⟨d,h1,h2⟩:=h.und
 have:=yieldsIf_load_mid (P:=prog) hw ty x ho b of hx (RowT.enc R) d hS h1 h2 mx
 rwa [h.eq,hv] at this
theorem iP (h:RowP α ty arr) (x:Operand) (ho:o.op=.load ty x) (b of:Nat) (hx:a.eval x=.pointer (some ⟨b,of,none⟩)) (R:α) (v:Value) (hv:Value.agg (arr R)=v) (hc:w.rangeAt b of (RowT.enc R))
  (hn:K (a.put o.dst v) w):o.wp prog a w K Q:=by
 obtain ⟨d,h1,h2⟩:=h.und
 have:=wp_load_mid (P:=prog) (Q:=Q) (op:=o) (K:=K) ty x ho b of hx (RowT.enc R) d hc h1 h2 mx
 rw [h.eq,hv] at this
 exact this hn
theorem aCD (h:RowP α ty arr) (hgd:o.guard=none) (x y:Operand) (ho:o.op=.store ty x y) (b of:Nat) (hx:a.eval x=.pointer (some ⟨b,of,none⟩)) (R:α) (v:Value) (hv:Value.agg (arr R)=v) (hy:a.eval y=v) (ht:w.there b of (RowT.sz α))
  (hn:K (a.put o.dst undef) (w.setCells b of (RowT.enc R))):if Region.wanted o (yielded ops a.tmps)=true then Oper.wp prog o a w K Q else X:=by
 have hw:Region.wanted o (yielded ops a.tmps)=true:=di
 rw [if_pos hw]
 rw [← h.toL R] at hn
 exact wp_store_mid (P:=prog) (Q:=Q) (op:=o) (K:=K) ty x y ho b of (arr R) hx (by rw [hy,hv]) (by rw [h.size];exact ht) (by rw [h.info,h.size]) (h.all R) hn
end
theorem aFp {α:Type} [RowT α] [DecidableEq α] {ty:TypeId} {arr:α→Array Value} (hp:RowP α ty arr) (f:Nat) (hf:f≤9990) (hE:∀ w:World,∀ v v':Value,∀ k k':List Lit,v.formed prog ty=true→v'.formed prog ty=true→prog.keyLits f ty v.cells.toList=some k→prog.keyLits f ty v'.cells.toList=some k'→∃ r,(Op.equalIn 10000 ty v v').run prog w=.ok r w∧(r=true ↔ k=k'))
  (ok:α→Prop) (ky:α→List Lit) (hfm:∀ x,(Value.agg (arr x)).formed prog ty=true) (hk:∀ x,ok x→prog.keyLits f ty (RowT.enc x)=some (ky x)) (hi:∀ x y,ky x=ky y→x=y) (a b:α) (ha:ok a) (hb:ok b) (w:World) :
  (Op.equalIn 10000 ty (.agg (arr a)) (.agg (arr b))).run prog w=.ok (decide (a=b)) w:=by
 obtain ⟨r,hr,hiff⟩:=hE w _ _ _ _ (hfm a) (hfm b) (by show prog.keyLits f ty (arr a).toList=_;rw [hp.toL];exact hk a ha) (by show prog.keyLits f ty (arr b).toList=_;rw [hp.toL];exact hk b hb)
 rw [hr]
 have:r=decide (a=b):=by
  by_cases h:a=b
  ·subst h;simp [hiff.2 rfl]
  have:r ≠ true:=fun e=>h (hi a b (hiff.1 e))
  simp [h,this]
 rw [this]
abbrev ceA (C:CeR):Array Value:=#[.int .i64 C.k,.int .i64 C.id,.int .u8 (nb8 C.lk 0),.int .u8 (nb8 C.lk 1),.int .u8 (nb8 C.lk 2),.int .u8 (nb8 C.lk 3),.int .u8 (nb8 C.lk 4),.int .u8 (nb8 C.lk 5),.int .u8 (nb8 C.lk 6),.int .u8 (nb8 C.lk 7)]
def ceL (C:CeR):List Value:=(ceA C).toList
theorem aKW (C:CeR):∀ u ∈ ceL C,u.oneCell'=true:=by
 intro u hu
 simp only [ceL,List.mem_cons,List.not_mem_nil,or_false] at hu
 rcases hu with rfl | rfl | rfl | rfl | rfl | rfl | rfl | rfl | rfl | rfl <;> rfl
def ceW (C:CeR):Prop:=wfI C.k∧wfI C.id
instance:RowT CeR where
 sz:=10
 z:=⟨0,0,0⟩
 enc:=ceL
 ok C _:=ceW C
 pos:=by decide
 len _:=rfl
 one:=aKW
 ext _ _ _ h _:=h
abbrev ce0:Array Value:=#[.int .i64 0,.int .i64 0,.int .u8 0,.int .u8 0,.int .u8 0,.int .u8 0,.int .u8 0,.int .u8 0,.int .u8 0,.int .u8 0]
theorem ceE:Elem prog 90 61 (.agg ce0) 10 24:=⟨underlying90,by kernel_rfl,rfl,by decide⟩
theorem ceP:RowP CeR 61 ceA:=⟨fun _=>rfl,by kernel_rfl,_,underlying61,rfl⟩
theorem ceF (C:CeR):(Value.agg (ceA C)).formed prog 61=true:=by
 have c:prog.cellsOf 61=10:=ab
 simp [Value.formed,underlying61,c]
abbrev deA (C:DeR):Array Value:=#[.int .i64 C.c.k,.int .i64 C.c.id,.int .u8 (nb8 C.c.lk 0),.int .u8 (nb8 C.c.lk 1),.int .u8 (nb8 C.c.lk 2),.int .u8 (nb8 C.c.lk 3),.int .u8 (nb8 C.c.lk 4),.int .u8 (nb8 C.c.lk 5),.int .u8 (nb8 C.c.lk 6),.int .u8 (nb8 C.c.lk 7),.int .i64 C.a]
def deL (C:DeR):List Value:=(deA C).toList
theorem aKC (C:DeR):∀ u ∈ deL C,u.oneCell'=true:=by
 intro u hu
 simp only [deL,List.mem_cons,List.not_mem_nil,or_false] at hu
 rcases hu with rfl | rfl | rfl | rfl | rfl | rfl | rfl | rfl | rfl | rfl | rfl <;> rfl
def deW (C:DeR):Prop:=ceW C.c∧wfI C.a
instance:RowT DeR where
 sz:=11
 z:=⟨⟨0,0,0⟩,0⟩
 enc:=deL
 ok C _:=deW C
 pos:=by decide
 len _:=rfl
 one:=aKC
 ext _ _ _ h _:=h
abbrev de0:Array Value:=#[.int .i64 0,.int .i64 0,.int .u8 0,.int .u8 0,.int .u8 0,.int .u8 0,.int .u8 0,.int .u8 0,.int .u8 0,.int .u8 0,.int .i64 0]
theorem deE:Elem prog 26 92 (.agg de0) 11 32:=⟨underlying26,by kernel_rfl,rfl,by decide⟩
theorem deP:RowP DeR 92 deA:=⟨fun _=>rfl,by kernel_rfl,_,underlying92,rfl⟩
theorem deF (C:DeR):(Value.agg (deA C)).formed prog 92=true:=by
 have c:prog.cellsOf 92=11:=ab
 simp [Value.formed,underlying92,c]
abbrev lkA (C:LkR):Array Value:=#[.int .u8 (nb8 C.nm 0),.int .u8 (nb8 C.nm 1),.int .u8 (nb8 C.nm 2),.int .u8 (nb8 C.nm 3),.int .u8 (nb8 C.nm 4),.int .u8 (nb8 C.nm 5),.int .u8 (nb8 C.nm 6),.int .u8 (nb8 C.nm 7),.int .u8 (nb8 C.hs 0),.int .u8 (nb8 C.hs 1),.int .u8 (nb8 C.hs 2),.int .u8 (nb8 C.hs 3),.int .u8 (nb8 C.hs 4),.int .u8 (nb8 C.hs 5),.int .u8 (nb8 C.hs 6),.int .u8 (nb8 C.hs 7),.int .i64 C.ow,.int .i64 C.tO,.int .i64 C.ul]
def lkL (C:LkR):List Value:=(lkA C).toList
theorem aKo (C:LkR):∀ u ∈ lkL C,u.oneCell'=true:=by
 intro u hu
 simp only [lkL,List.mem_cons,List.not_mem_nil,or_false] at hu
 rcases hu with rfl | rfl | rfl | rfl | rfl | rfl | rfl | rfl | rfl | rfl | rfl | rfl | rfl | rfl | rfl | rfl | rfl | rfl | rfl <;> rfl
def lkW (C:LkR):Prop:=wfI C.ow∧wfI C.tO∧wfI C.ul
instance:RowT LkR where
 sz:=19
 z:=⟨0,0,0,0,0⟩
 enc:=lkL
 ok C _:=lkW C
 pos:=by decide
 len _:=rfl
 one:=aKo
 ext _ _ _ h _:=h
abbrev lk0:Array Value:=#[.int .u8 0,.int .u8 0,.int .u8 0,.int .u8 0,.int .u8 0,.int .u8 0,.int .u8 0,.int .u8 0,.int .u8 0,.int .u8 0,.int .u8 0,.int .u8 0,.int .u8 0,.int .u8 0,.int .u8 0,.int .u8 0,.int .i64 0,.int .i64 0,.int .i64 0]
theorem lkE:Elem prog 27 81 (.agg lk0) 19 40:=⟨underlying27,by kernel_rfl,rfl,by decide⟩
theorem lkP:RowP LkR 81 lkA:=⟨fun _=>rfl,by kernel_rfl,_,underlying81,rfl⟩
theorem lkF (C:LkR):(Value.agg (lkA C)).formed prog 81=true:=by
 have c:prog.cellsOf 81=19:=ab
 simp [Value.formed,underlying81,c]
def ceK (C:CeR):List Lit:=[.int .i64 C.k,.int .i64 C.id] ++ (nmb C.lk).map pN
def deK (C:DeR):List Lit:=ceK C.c ++ [.int .i64 C.a]
def lkK (C:LkR):List Lit:=(nmb C.nm).map pN ++ ((nmb C.hs).map pN ++ [.int .i64 C.ow,.int .i64 C.tO,.int .i64 C.ul])
theorem aLw (C:CeR):ceL C=[.int .i64 C.k,.int .i64 C.id] ++ bcs (nmb C.lk):=by rw [eJ];rfl
theorem aNp (C:DeR):deL C=ceL C.c ++ [.int .i64 C.a]:=rfl
theorem aLr (C:LkR):lkL C=bcs (nmb C.nm) ++ (bcs (nmb C.hs) ++ [.int .i64 C.ow,.int .i64 C.tO,.int .i64 C.ul]):=by rw [eJ,eJ];rfl
theorem lW (n:UInt64):((nmb n).map pN).length=8:=by simp [aK]
theorem yQ (C:CeR):(ceK C).length=10:=by simp [ceK,aK]
theorem aGz (a b:CeR) (h:ceK a=ceK b):a=b:=by
 unfold ceK at h
 simp only [List.cons_append,List.nil_append,List.cons.injEq,Lit.int.injEq,true_and] at h
 obtain ⟨h1,h2,h3⟩:=h
 have:=mO h3
 cases a;cases b
 simp only at *
 subst h1;subst h2;subst this;rfl
theorem aKD (a b:DeR) (h:deK a=deK b):a=b:=by
 unfold deK at h
 obtain ⟨h1,h2⟩:=List.append_inj h (by rw [yQ,yQ])
 have:=aGz _ _ h1
 simp only [List.cons.injEq,Lit.int.injEq,true_and,and_true] at h2
 cases a;cases b
 simp only at *
 subst h2;subst this;rfl
theorem aKp (a b:LkR) (h:lkK a=lkK b):a=b:=by
 unfold lkK at h
 obtain ⟨h1,h2⟩:=List.append_inj h (by rw [lW,lW])
 obtain ⟨h3,h4⟩:=List.append_inj h2 (by rw [lW,lW])
 simp only [List.cons.injEq,Lit.int.injEq,true_and,and_true] at h4
 obtain ⟨h5,h6,h7⟩:=h4
 have e1:=mO h1
 have e2:=mO h3
 cases a;cases b
 simp only at *
 subst h5;subst h6;subst h7;subst e1;subst e2;rfl
theorem mH (m:Nat) (x:Int) (hx:wfI x):prog.keyLits (m+1) 3 [.int .i64 x]=some [.int .i64 x]:=by
 unfold Program.keyLits
 rw [underlying3]
 simp only
 rw [if_pos ⟨trivial,hx⟩]
theorem aJb (m:Nat) (c:UInt8):prog.keyLits (m+1) 5 [.int .u8 (c.toNat:Int)]=some [pN c]:=by
 unfold Program.keyLits
 rw [underlying5]
 simp only
 rw [if_pos ⟨trivial,aGk c⟩];rfl
theorem aDv (m:Nat) (n:UInt64):prog.keyLits (m+2) 50 (bcs (nmb n))=some ((nmb n).map pN):=by
 unfold Program.keyLits
 rw [underlying50]
 simp only
 rw [if_pos (by rw [aT,aK,tZ]),aEb]
 rw [sC n]
 generalize (nmb n).getD 0 0=x0
 generalize (nmb n).getD 1 0=x1
 generalize (nmb n).getD 2 0=x2
 generalize (nmb n).getD 3 0=x3
 generalize (nmb n).getD 4 0=x4
 generalize (nmb n).getD 5 0=x5
 generalize (nmb n).getD 6 0=x6
 generalize (nmb n).getD 7 0=x7
 rw [show List.range 8=[0,1,2,3,4,5,6,7] from rfl]
 simp only [bcs,bv,List.map_cons,List.map_nil,List.mapM_cons,List.mapM_nil,Nat.zero_mul,Nat.one_mul,Nat.mul_one,List.drop_zero,List.drop_succ_cons,List.take_succ_cons,List.take_zero,aJb m]
 rfl
theorem aLt (m:Nat) (C:CeR) (h:ceW C):prog.keyLits (m+3) 61 (ceL C)=some (ceK C):=by
 obtain ⟨h1,h2⟩:=h
 have c1:prog.cellsOf 3=1:=ab
 have c10:prog.cellsOf 61=10:=ab
 have t8:(bcs (nmb C.lk)).take 8=bcs (nmb C.lk):=List.take_of_length_le fp
 have hl:(ceL C).length=10:=rfl
 rw [aLw] at hl ⊢
 unfold Program.keyLits
 rw [underlying61]
 simp only
 rw [if_pos ⟨by rw [hl,c10],ab⟩]
 simp only [List.mapM_cons,List.mapM_nil,c1,tZ,List.cons_append,List.nil_append,List.drop_zero,List.drop_succ_cons,List.take_succ_cons,List.take_zero,mH (m+1) _ h1,mH (m+1) _ h2,t8,aDv m]
 simp [ceK]
theorem aNm (m:Nat) (C:DeR) (h:deW C):prog.keyLits (m+4) 92 (deL C)=some (deK C):=by
 obtain ⟨h1,h2⟩:=h
 have c1:prog.cellsOf 3=1:=ab
 have c10:prog.cellsOf 61=10:=ab
 have c11:prog.cellsOf 92=11:=ab
 have hl:(deL C).length=11:=rfl
 have t10:(ceL C.c ++ [Value.int .i64 C.a]).take 10=ceL C.c:=rfl
 have d10:(ceL C.c ++ [Value.int .i64 C.a]).drop 10=[Value.int .i64 C.a]:=rfl
 rw [aNp] at hl ⊢
 unfold Program.keyLits
 rw [underlying92]
 simp only
 rw [if_pos ⟨by rw [hl,c11],ab⟩]
 simp only [List.mapM_cons,List.mapM_nil,c1,c10,List.drop_zero,t10,d10,List.take_succ_cons,List.take_zero,mH (m+2) _ h2,aLt m _ h1]
 simp [deK]
theorem aNl (m:Nat) (C:LkR) (h:lkW C):prog.keyLits (m+3) 81 (lkL C)=some (lkK C):=by
 obtain ⟨h1,h2,h3⟩:=h
 have c1:prog.cellsOf 3=1:=ab
 have c19:prog.cellsOf 81=19:=ab
 have hp:(bcs (nmb C.nm)).length=8:=by rw [aT,aK]
 have hq:(bcs (nmb C.hs)).length=8:=by rw [aT,aK]
 have hl:(lkL C).length=19:=rfl
 rw [aLr] at hl ⊢
 have t1:(bcs (nmb C.nm) ++ (bcs (nmb C.hs) ++ [Value.int .i64 C.ow,.int .i64 C.tO,.int .i64 C.ul])).take 8=bcs (nmb C.nm):=by rw [← hp];exact List.take_left
 have d1:(bcs (nmb C.nm) ++ (bcs (nmb C.hs) ++ [Value.int .i64 C.ow,.int .i64 C.tO,.int .i64 C.ul])).drop 8=bcs (nmb C.hs) ++ [Value.int .i64 C.ow,.int .i64 C.tO,.int .i64 C.ul]:=by rw [← hp];exact List.drop_left
 have t2:(bcs (nmb C.hs) ++ [Value.int .i64 C.ow,.int .i64 C.tO,.int .i64 C.ul]).take 8=bcs (nmb C.hs):=by rw [← hq];exact List.take_left
 have d2:(bcs (nmb C.hs) ++ [Value.int .i64 C.ow,.int .i64 C.tO,.int .i64 C.ul]).drop 8=[Value.int .i64 C.ow,.int .i64 C.tO,.int .i64 C.ul]:=by rw [← hq];exact List.drop_left
 have d16:(bcs (nmb C.nm) ++ (bcs (nmb C.hs) ++ [Value.int .i64 C.ow,.int .i64 C.tO,.int .i64 C.ul])).drop 16=[Value.int .i64 C.ow,.int .i64 C.tO,.int .i64 C.ul]:=by rw [show 16=8+8 from rfl,← List.drop_drop,d1,d2]
 have d17:(bcs (nmb C.nm) ++ (bcs (nmb C.hs) ++ [Value.int .i64 C.ow,.int .i64 C.tO,.int .i64 C.ul])).drop 17=[Value.int .i64 C.tO,.int .i64 C.ul]:=by rw [show 17=16+1 from rfl,← List.drop_drop,d16];rfl
 have d18:(bcs (nmb C.nm) ++ (bcs (nmb C.hs) ++ [Value.int .i64 C.ow,.int .i64 C.tO,.int .i64 C.ul])).drop 18=[Value.int .i64 C.ul]:=by rw [show 18=16+2 from rfl,← List.drop_drop,d16];rfl
 unfold Program.keyLits
 rw [underlying81]
 simp only
 rw [if_pos ⟨by rw [hl,c19],ab⟩]
 simp only [List.mapM_cons,List.mapM_nil,c1,tZ,List.drop_zero,t1,d1,t2,d2,d16,d17,d18,List.drop_succ_cons,List.take_succ_cons,List.take_zero,mH (m+1) _ h1,mH (m+1) _ h2,mH (m+1) _ h3,aDv m]
 simp [lkK]
theorem aGq (a b:CeR) (ha:ceW a) (hb:ceW b) (w:World):(Op.equalIn 10000 61 (.agg (ceA a)) (.agg (ceA b))).run prog w=.ok (decide (a=b)) w :=
 aFp ceP 3 (by decide) (fun w v v' k k' h1 h2 h3 h4=>run_equalIn_deep (P:=prog) 9997 3 61 (by kernel_rfl) w 3 3 _ _ _ _ h1 h2 h3 h4) ceW ceK ceF (fun C h=>aLt 0 C h) aGz a b ha hb w
theorem aKz (a b:DeR) (ha:deW a) (hb:deW b) (w:World):(Op.equalIn 10000 92 (.agg (deA a)) (.agg (deA b))).run prog w=.ok (decide (a=b)) w :=
 aFp deP 4 (by decide) (fun w v v' k k' h1 h2 h3 h4=>run_equalIn_deep (P:=prog) 9996 4 92 (by kernel_rfl) w 4 4 _ _ _ _ h1 h2 h3 h4) deW deK deF (fun C h=>aNm 0 C h) aKD a b ha hb w
theorem aKy (a b:LkR) (ha:lkW a) (hb:lkW b) (w:World):(Op.equalIn 10000 81 (.agg (lkA a)) (.agg (lkA b))).run prog w=.ok (decide (a=b)) w :=
 aFp lkP 3 (by decide) (fun w v v' k k' h1 h2 h3 h4=>run_equalIn_deep (P:=prog) 9997 3 81 (by kernel_rfl) w 3 3 _ _ _ _ h1 h2 h3 h4) lkW lkK lkF (fun C h=>aNl 0 C h) aKp a b ha hb w
theorem wQ (a b:CeR) (ha:ceW a) (hb:ceW b) (w:World):(binOp .eql 61 (.agg (ceA a)) (.agg (ceA b))).run prog w=.ok (.bool (decide (a=b))) w:=by rw [run_eql_struct,aGq a b ha hb w];rfl
theorem aGR (a b:CeR) (ha:ceW a) (hb:ceW b) (w:World):(binOp .neq 61 (.agg (ceA a)) (.agg (ceA b))).run prog w=.ok (.bool (!decide (a=b))) w:=by rw [run_neq_struct,aGq a b ha hb w];rfl
theorem mP (op:BinOp) (x y:Operand) (a b:CeR) (w:World):(eqGuard op 61 x y (.agg (ceA a)) (.agg (ceA b))).run prog w=.ok () w:=run_eqGuard_agg w op _ x y _ _ (by kernel_rfl)
theorem aGQ (a b:DeR) (ha:deW a) (hb:deW b) (w:World):(binOp .neq 92 (.agg (deA a)) (.agg (deA b))).run prog w=.ok (.bool (!decide (a=b))) w:=by rw [run_neq_struct,aKz a b ha hb w];rfl
theorem aJg (op:BinOp) (x y:Operand) (a b:DeR) (w:World):(eqGuard op 92 x y (.agg (deA a)) (.agg (deA b))).run prog w=.ok () w:=run_eqGuard_agg w op _ x y _ _ (by kernel_rfl)
theorem aGP (a b:LkR) (ha:lkW a) (hb:lkW b) (w:World):(binOp .neq 81 (.agg (lkA a)) (.agg (lkA b))).run prog w=.ok (.bool (!decide (a=b))) w:=by rw [run_neq_struct,aKy a b ha hb w];rfl
theorem aJf (op:BinOp) (x y:Operand) (a b:LkR) (w:World):(eqGuard op 81 x y (.agg (lkA a)) (.agg (lkA b))).run prog w=.ok () w:=run_eqGuard_agg w op _ x y _ _ (by kernel_rfl)
def nmL (n:UInt64):List Value:=bcs (nmb n)
instance:RowT UInt64 where
 sz:=8
 z:=0
 enc:=nmL
 ok _ _:=True
 pos:=by decide
 len _:=by rw [nmL,aT,aK]
 one _:=dU _
 ext _ _ _ _ _:=trivial
theorem fZ (op:BinOp) (x y:Operand) (a b:UInt64) (w:World):(eqGuard op 50 x y (.agg (nmc a)) (.agg (nmc b))).run prog w=.ok () w:=run_eqGuard_agg w op _ x y _ _ (by kernel_rfl)
theorem nmP:RowP UInt64 50 nmc:=⟨fun _=>rfl,by kernel_rfl,_,underlying50,rfl⟩
theorem SlN.g {w:World} {A:Option Addr} {n c:Nat} {L:List UInt64} (h:SlN w A n c L):SlG w A n c L:=⟨h.len,h.le,h.cap,h.rd,fun _ _=>trivial⟩
theorem SlG.n {w:World} {A:Option Addr} {n c:Nat} {L:List UInt64} (h:SlG w A n c L):SlN w A n c L:=⟨h.len,h.le,h.cap,h.rd⟩
theorem cK {P:Program} {ops:Array Oper} {S:World→Prop} {o:Oper} {a:Act} {op:BinOp} {ty ty':TypeId} (hw:Region.wanted o (yielded ops a.tmps)=true) (x y:Operand) (ho:o.op=.binOp op ty x y ty') {vx vy:Value} {b:Bool} (hx:a.eval x=vx) (hy:a.eval y=vy)
  (hg:∀ w,(eqGuard op ty x y vx vy).run P w=.ok () w) (hq:∀ w,(binOp op ty vx vy).run P w=.ok (.bool b) w):YieldsIf P ops S o (.bool b) a :=
 .inl ⟨hw,fun w _=>by
  unfold execOp
  simp only [ho,hx,hy,Sem.run_bind,hg,hq,Result.andThen_ok,Sem.run_pure]⟩
theorem rP (a b:UInt64) (w:World):(binOp .neq 50 (.agg (nmc a)) (.agg (nmc b))).run prog w=.ok (.bool (!decide (a=b))) w:=by
 have h:=cE a b w
 rw [run_eql_struct] at h
 rw [run_neq_struct]
 generalize (Op.equalIn 10000 50 (.agg (nmc a)) (.agg (nmc b))).run prog w=r at *
 cases r with
 | ok v w'=>simp [Result.andThen] at h ⊢;obtain ⟨h1,h2⟩:=h;exact ⟨by rw [h1],h2⟩
 | _=>simp [Result.andThen] at h
def inL (z:Int):List Value:=[.int .i64 z]
instance:RowT Int where
 sz:=1
 z:=0
 enc:=inL
 ok z _:=wfI z
 pos:=by decide
 len _:=rfl
 one z u hu:=by rw [List.mem_singleton.1 hu];rfl
 ext _ _ _ h _:=h
theorem inE:Elem prog 23 3 (.int .i64 0) 1 8:=⟨underlying23,by kernel_rfl,rfl,by decide⟩
end
section
open Go.RowKit
attribute [local go_sem ↓] Go.wp_at_zero Go.wp_at_succ
theorem sI {α:Type} [RowT α] {L:List α} (h:gcs L=[]):L=[]:=by
 have:=congrArg List.length h
 rw [aJ] at this
 rcases Nat.mul_eq_zero.1 this with h | h
 ·exact List.length_eq_zero_iff.1 h
 exact absurd h (Nat.ne_of_gt RowT.pos)
theorem aDY (A:Option Addr) (n c:Nat) (L:List DeR) (w:World) (h:SlG w A n c L) (hn:n≤1000000000) :
  Calls prog 62 #[.slice A n c] w fun e w'=>∃ A' c',e=.returned (.slice A' n c')∧w'.ownsRow w.heap.size 92 11 (.slice A' n c') n (gcs L)∧Ext w w':=by
 rcases A with _ | ad
 ·have hl:L=[]:=by
   exact BV
  subst hl
  obtain rfl:n=0:=ju
  have hq:=run_eql_slice_nil (P:=prog) w 26 92 none 0 c underlying26
  go_enter func62,ntmps62
  exact Bh
 have hq:=run_eql_slice_nil (P:=prog) w 26 92 (some ad) n c underlying26
 have HO0:=zh (show (w.alloc (.cells #[] 92)).ownsRow w.heap.size 92 11 (.slice (some ⟨w.heap.size,0,none⟩) 0 0) 0 [] from World.ownsRow_made w #[] 0 (Nat.le_refl _) (Nat.zero_le _) rfl)
 have HS:=zh (h.ext ((Ext.refl w).alloc' (.cells #[] 92)))
 have HX:=zh ((Ext.refl w).alloc' (.cells #[] 92))
 have HL:=zh (show (gcs L).length=n * 11 by rw [aJ,h.len];rfl)
 clear h
 go_enter func62,ntmps62
 go_wp2_with (at_builtin;go_must (refine bK deE rfl (.tmp 5) (.tmp 6) rfl w.heap.size _ _ _ [] rfl HO0.out _ n c (gcs L) rfl HS.out.rd HL.out (bP L) aa aa HX.out.size ?_;intro A' c' w' hO hg))
 exact yw
theorem aDX (A:Option Addr) (n c:Nat) (L:List Int) (w:World) (h:SlG w A n c L) (hn:n≤1000000000) :
  Calls prog 63 #[.slice A n c] w fun e w'=>∃ A' c',e=.returned (.slice A' n c')∧w'.ownsRow w.heap.size 3 1 (.slice A' n c') n (gcs L)∧Ext w w':=by
 rcases A with _ | ad
 ·have hl:L=[]:=by
   exact BV
  subst hl
  obtain rfl:n=0:=ju
  have hq:=run_eql_slice_nil (P:=prog) w 23 3 none 0 c underlying23
  go_enter func63,ntmps63
  exact Bh
 have hq:=run_eql_slice_nil (P:=prog) w 23 3 (some ad) n c underlying23
 have HO0:=zh (show (w.alloc (.cells #[] 3)).ownsRow w.heap.size 3 1 (.slice (some ⟨w.heap.size,0,none⟩) 0 0) 0 [] from World.ownsRow_made w #[] 0 (Nat.le_refl _) (Nat.zero_le _) rfl)
 have HS:=zh (h.ext ((Ext.refl w).alloc' (.cells #[] 3)))
 have HX:=zh ((Ext.refl w).alloc' (.cells #[] 3))
 have HL:=zh (show (gcs L).length=n * 1 by rw [aJ,h.len];rfl)
 clear h
 go_enter func63,ntmps63
 go_wp2_with (at_builtin;go_must (refine bK inE rfl (.tmp 5) (.tmp 6) rfl w.heap.size _ _ _ [] rfl HO0.out _ n c (gcs L) rfl HS.out.rd HL.out (bP L) aa aa HX.out.size ?_;intro A' c' w' hO hg))
 exact yw
theorem aDW (A:Option Addr) (n c:Nat) (L:List LkR) (w:World) (h:SlG w A n c L) (hn:n≤1000000000) :
  Calls prog 64 #[.slice A n c] w fun e w'=>∃ A' c',e=.returned (.slice A' n c')∧w'.ownsRow w.heap.size 81 19 (.slice A' n c') n (gcs L)∧Ext w w':=by
 rcases A with _ | ad
 ·have hl:L=[]:=by
   exact BV
  subst hl
  obtain rfl:n=0:=ju
  have hq:=run_eql_slice_nil (P:=prog) w 27 81 none 0 c underlying27
  go_enter func64,ntmps64
  exact Bh
 have hq:=run_eql_slice_nil (P:=prog) w 27 81 (some ad) n c underlying27
 have HO0:=zh (show (w.alloc (.cells #[] 81)).ownsRow w.heap.size 81 19 (.slice (some ⟨w.heap.size,0,none⟩) 0 0) 0 [] from World.ownsRow_made w #[] 0 (Nat.le_refl _) (Nat.zero_le _) rfl)
 have HS:=zh (h.ext ((Ext.refl w).alloc' (.cells #[] 81)))
 have HX:=zh ((Ext.refl w).alloc' (.cells #[] 81))
 have HL:=zh (show (gcs L).length=n * 19 by rw [aJ,h.len];rfl)
 clear h
 go_enter func64,ntmps64
 go_wp2_with (at_builtin;go_must (refine bK lkE rfl (.tmp 5) (.tmp 6) rfl w.heap.size _ _ _ [] rfl HO0.out _ n c (gcs L) rfl HS.out.rd HL.out (bP L) aa aa HX.out.size ?_;intro A' c' w' hO hg))
 exact yw
theorem aDV (A:Option Addr) (n c:Nat) (L:List UInt64) (w:World) (h:SlG w A n c L) (hn:n≤1000000000) :
  Calls prog 65 #[.slice A n c] w fun e w'=>∃ A' c',e=.returned (.slice A' n c')∧w'.ownsRow w.heap.size 50 8 (.slice A' n c') n (gcs L)∧Ext w w':=by
 rcases A with _ | ad
 ·have hl:L=[]:=by
   exact BV
  subst hl
  obtain rfl:n=0:=ju
  have hq:=run_eql_slice_nil (P:=prog) w 22 50 none 0 c underlying22
  go_enter func65,ntmps65
  exact Bh
 have hq:=run_eql_slice_nil (P:=prog) w 22 50 (some ad) n c underlying22
 have HO0:=zh (show (w.alloc (.cells #[] 50)).ownsRow w.heap.size 50 8 (.slice (some ⟨w.heap.size,0,none⟩) 0 0) 0 [] from World.ownsRow_made w #[] 0 (Nat.le_refl _) (Nat.zero_le _) rfl)
 have HS:=zh (h.ext ((Ext.refl w).alloc' (.cells #[] 50)))
 have HX:=zh ((Ext.refl w).alloc' (.cells #[] 50))
 have HL:=zh (show (gcs L).length=n * 8 by rw [aJ,h.len];rfl)
 clear h
 go_enter func65,ntmps65
 go_wp2_with (at_builtin;go_must (refine bK cY rfl (.tmp 5) (.tmp 6) rfl w.heap.size _ _ _ [] rfl HO0.out _ n c (gcs L) rfl HS.out.rd HL.out (bP L) aa aa HX.out.size ?_;intro A' c' w' hO hg))
 exact yw
structure StR where
 A1:Option Addr
 n1:Nat
 c1:Nat
 C:List DeR
 A2:Option Addr
 n2:Nat
 c2:Nat
 Q:List Int
 A3:Option Addr
 n3:Nat
 c3:Nat
 K:List LkR
 A4:Option Addr
 n4:Nat
 c4:Nat
 P:List UInt64
 G:Int
def StR.V (s:StR):StV:=⟨s.C,s.Q,s.K,s.P,s.G⟩
abbrev ssA (s:StR):Array Value:=#[.slice s.A1 s.n1 s.c1,.slice s.A2 s.n2 s.c2,.slice s.A3 s.n3 s.c3,.slice s.A4 s.n4 s.c4,.int .i64 s.G]
structure StR.ok (s:StR) (w:World):Prop where
 s1:SlG w s.A1 s.n1 s.c1 s.C
 s2:SlG w s.A2 s.n2 s.c2 s.Q
 s3:SlG w s.A3 s.n3 s.c3 s.K
 s4:SlG w s.A4 s.n4 s.c4 s.P
 g:wfI s.G
theorem StR.ok.ext {s:StR} {w w':World} (h:s.ok w) (e:Ext w w'):s.ok w':=⟨h.s1.ext e,h.s2.ext e,h.s3.ext e,h.s4.ext e,h.g⟩
structure OwnS (w:World) (base:Nat) (s:StR):Prop where
 o1:w.ownsRow base 92 11 (.slice s.A1 s.n1 s.c1) s.n1 (gcs s.C)
 o2:w.ownsRow base 3 1 (.slice s.A2 s.n2 s.c2) s.n2 (gcs s.Q)
 o3:w.ownsRow base 81 19 (.slice s.A3 s.n3 s.c3) s.n3 (gcs s.K)
 o4:w.ownsRow base 50 8 (.slice s.A4 s.n4 s.c4) s.n4 (gcs s.P)
 k1:∀ d ∈ s.C,deW d
 k2:∀ z ∈ s.Q,wfI z
 k3:∀ l ∈ s.K,lkW l
 g:wfI s.G
theorem OwnS.ok {w:World} {base:Nat} {s:StR} (h:OwnS w base s):s.ok w :=
 ⟨OwnG.sl (e:=92) h.o1 h.k1,OwnG.sl (e:=3) h.o2 h.k2,OwnG.sl (e:=81) h.o3 h.k3,OwnG.sl (e:=50) h.o4 (fun _ _=>trivial),h.g⟩
theorem OwnS.ext {w w':World} {base:Nat} {s:StR} (h:OwnS w base s) (e:Ext w w'):OwnS w' base s:=⟨bC h.o1 e,bC h.o2 e,bC h.o3 e,bC h.o4 e,h.k1,h.k2,h.k3,h.g⟩
theorem OwnS.mono {w:World} {base base':Nat} {s:StR} (h:OwnS w base s) (hb:base'≤base):OwnS w base' s:=⟨bA h.o1 hb,bA h.o2 hb,bA h.o3 hb,bA h.o4 hb,h.k1,h.k2,h.k3,h.g⟩
theorem OwnS.kept {w w':World} {base:Nat} {s:StR} {X:Nat} {t:TypeId} {cs:Array Value} (h:OwnS w base s) (hg:w.grownBy w' (some X)) (hb:Blk w X t cs) (h1:t ≠ 92) (h2:t ≠ 3) (h3:t ≠ 81) (h4:t ≠ 50):OwnS w' base s :=
 ⟨h.o1.kept hg (.inr (Ne.symm (aL h.o1 hb h1))),h.o2.kept hg (.inr (Ne.symm (aL h.o2 hb h2))),h.o3.kept hg (.inr (Ne.symm (aL h.o3 hb h3))),h.o4.kept hg (.inr (Ne.symm (aL h.o4 hb h4))),h.k1,h.k2,h.k3,h.g⟩
theorem OwnS.l1 {w:World} {base:Nat} {s:StR} (h:OwnS w base s):s.C.length=s.n1:=OwnG.len (e:=92) h.o1
theorem OwnS.l2 {w:World} {base:Nat} {s:StR} (h:OwnS w base s):s.Q.length=s.n2:=OwnG.len (e:=3) h.o2
theorem OwnS.l3 {w:World} {base:Nat} {s:StR} (h:OwnS w base s):s.K.length=s.n3:=OwnG.len (e:=81) h.o3
theorem OwnS.l4 {w:World} {base:Nat} {s:StR} (h:OwnS w base s):s.P.length=s.n4:=OwnG.len (e:=50) h.o4
theorem aE {w:World} {g:Nat} {t:TypeId} {s:StR} (h:Blk w g t (ssA s)):w.cell? ⟨g,0,none⟩=some (.slice s.A1 s.n1 s.c1)∧w.cell? ⟨g,1,none⟩=some (.slice s.A2 s.n2 s.c2)∧w.cell? ⟨g,2,none⟩=some (.slice s.A3 s.n3 s.c3)∧w.cell? ⟨g,3,none⟩=some (.slice s.A4 s.n4 s.c4)∧w.cell? ⟨g,4,none⟩=some (.int .i64 s.G) :=
 ⟨h.cell 0,h.cell 1,h.cell 2,h.cell 3,h.cell 4⟩
def ss0:StR:=⟨none,0,0,[],none,0,0,[],none,0,0,[],none,0,0,[],0⟩
def jB (w:World) (V:StV) (e:Ending) (w':World):Prop:=∃ s,e=.returned (.agg (ssA s))∧OwnS w' w.heap.size s∧s.V=V∧Ext w w'
def iZ (x y:Int):Int:=if x < y then -1 else if y < x then 1 else 0
theorem jT {x y:Int} (h:x < y):iZ x y=-1:=if_pos h
theorem jU {x y:Int} (h:y < x):iZ x y=1:=by unfold iZ;rw [if_neg (by omega),if_pos h]
theorem jV (x:Int):iZ x x=0:=by unfold iZ;rw [if_neg (by omega),if_neg (by omega)]
def iW (x y z:Int):Int:=if x ≠ 0 then x else if y ≠ 0 then y else z
def lJ (a b:CeR):Int:=iW (iZ a.k b.k) (iZ a.id b.id) (iZ (un a.lk) (un b.lk))
def lK (a b:UInt64):Int:=iZ (un a) (un b)
theorem yL (a b:UInt64):decide (lK a b > 0)=decide (un b < un a):=by
 unfold lK
 rcases Int.lt_trichotomy (un a) (un b) with h | h | h
 ·rw [jT h,decide_eq_false (by omega:¬ un b < un a)];rfl
 ·rw [h,jV];simp
 rw [jU h,decide_eq_true h];rfl
theorem yM (a b:CeR):decide (lJ a b > 0)=iU b a:=by
 unfold lJ iW iU yP
 rcases Int.lt_trichotomy a.k b.k with h | h | h
 ·rw [jT h,if_pos ae,fQ,if_neg aa,decide_eq_false (by omega:¬ b.k < a.k)];rfl
 ·rw [h, jV, if_neg ae, fQ, if_pos rfl]
  rcases Int.lt_trichotomy a.id b.id with h2 | h2 | h2
  ·rw [jT h2,if_pos ae,fQ,if_neg aa,decide_eq_false (by omega:¬ b.id < a.id)];rfl
  ·rw [h2, jV, if_neg ae, fQ, if_pos rfl, show iZ (un a.lk) (un b.lk) = lK a.lk b.lk from rfl, yL, fQ]
   by_cases e:un b.lk=un a.lk
   ·rw [if_pos e,decide_eq_false aa];rfl
   rw [if_neg e]
  rw [jU h2,if_pos ae,fQ,if_neg aa,decide_eq_true h2];rfl
 rw [jU h,if_pos ae,fQ,if_neg aa,decide_eq_true h];rfl
theorem qP (x:Int) (w:World):Calls prog 181 #[.int .i64 x] w fun e w'=>e=.returned (.bool false)∧w=w':=by
 go_enter func181,ntmps181
 go_wp2
 go_ret
 exact ⟨dr,rfl⟩
theorem sQ (x y:Int) (w:World):Calls prog 118 #[.int .i64 x,.int .i64 y] w fun e w'=>e=.returned (.int .i64 (iZ x y))∧w=w':=by
 rcases Int.lt_trichotomy x y with h | h | h
 ·have HC := zh (jT h)
  exact yr
 ·subst h
  have h1:decide (x < x)=false:=decide_eq_false aa
  have HC:=zh (jV x)
  exact yr
 have h1:decide (x < y)=false:=decide_eq_false aa
 have HC:=zh (jU h)
 exact yr
theorem qO (x:Int) (w:World):Calls prog 201 #[.int .u64 x] w fun e w'=>e=.returned (.bool false)∧w=w':=by
 go_enter func201,ntmps201
 go_wp2
 go_ret
 exact ⟨dr,rfl⟩
theorem aCc (x y:Int) (w:World):Calls prog 143 #[.int .u64 x,.int .u64 y] w fun e w'=>e=.returned (.int .i64 (iZ x y))∧w=w':=by
 rcases Int.lt_trichotomy x y with h | h | h
 ·have HC := zh (jT h)
  exact yt
 ·subst h
  have h1:decide (x < x)=false:=decide_eq_false aa
  have HC:=zh (jV x)
  exact yt
 have h1:decide (x < y)=false:=decide_eq_false aa
 have HC:=zh (jU h)
 exact yt
theorem aKf (x y z:Int) (g:Nat) (w:World) (hb:Blk w g 3 #[.int .i64 x,.int .i64 y,.int .i64 z]):Calls prog 117 #[.slice (some ⟨g,0,none⟩) 3 3] w fun e w'=>e=.returned (.int .i64 (iW x y z))∧w=w':=by
 have c0:w.cell? ⟨g,0,none⟩=some (.int .i64 x):=hb.cell 0
 have c1:w.cell? ⟨g,1,none⟩=some (.int .i64 y):=hb.cell 1
 have c2:w.cell? ⟨g,2,none⟩=some (.int .i64 z):=hb.cell 2
 clear hb
 go_enter func117,ntmps117
 go_wp2_with fail
 go_loop [8] (fun i=>∃ k:Nat,i=.int .i64 (k:Int)∧k≤3∧Hid ((0 < k→x=0)∧(1 < k→y=0)∧(2 < k→z=0))) (fun i=>3 - (intOf i).toNat)
 case atStart=>exact ⟨0,rfl,aa,zh ⟨aa,aa,aa⟩⟩
 case round =>
  obtain ⟨k,rfl,hk,HZ⟩:=hrel
  rcases (by omega:k=0 ∨ k=1 ∨ k=2 ∨ k=3) with rfl | rfl | rfl | rfl
  ·by_cases h0 : x = 0
   ·have HF := zh h0
    have e1:(x != 0)=false:=pn
    clear h0
    go_wp2_with fail
    go_round
    case rel=>exact ⟨1,ar,aa,zh ⟨fun _=>HF.out,aa,aa⟩⟩
    case measure=>simp [intOf]
   have HF:=zh (show iW x y z=x from if_pos h0)
   have e1:(x != 0)=true:=pn
   exact Ab
  ·have HX := zh (HZ.out.1 aa)
   by_cases h0:y=0
   ·have HF := zh h0
    have e1:(y != 0)=false:=pn
    clear h0
    go_wp2_with fail
    go_round
    case rel=>exact ⟨2,ar,aa,zh ⟨fun _=>HX.out,fun _=>HF.out,aa⟩⟩
    case measure=>simp [intOf]
   have HF:=zh (show iW x y z=y from by unfold iW;rw [if_neg (by simp [HX.out]),if_pos h0])
   have e1:(y != 0)=true:=pn
   exact Ab
  ·have HX := zh (HZ.out.1 aa)
   have HY:=zh (HZ.out.2.1 aa)
   have HF:=zh (show iW x y z=z from by unfold iW;rw [if_neg (by simp [HX.out]),if_neg (by simp [HY.out])])
   by_cases h0:z=0
   ·have HZ0 := zh h0
    have e1:(z != 0)=false:=pn
    clear h0
    go_wp2_with fail
    go_round
    case rel=>exact ⟨3,ar,aa,zh ⟨fun _=>HX.out,fun _=>HY.out,fun _=>HZ0.out⟩⟩
    case measure=>simp [intOf]
   have e1:(z != 0)=true:=pn
   exact Ab
  have HF:=zh (show iW x y z=0 from by unfold iW;rw [if_neg (by simp [HZ.out.1]),if_neg (by simp [HZ.out.2.1])];exact HZ.out.2.2 aa)
  go_wp2_with fail
  go_ret
  exact ⟨av,rfl⟩
theorem aCP (x y z:Int) (w:World):(Instr.buildSlice 23 3 #[(0,.int .i64 x),(1,.int .i64 y),(2,.int .i64 z)]).run prog w=.ok (.slice (some ⟨w.heap.size,0,none⟩) 3 3) (w.alloc (.cells #[.int .i64 x,.int .i64 y,.int .i64 z] 3)):=by kernel_rfl
theorem aGB {o:Oper} {a:Act} {w:World} {K:Act→World→Prop} {Q:Exit→Act→World→Prop} {ty:TypeId} (x y z:Operand) (ho:o.op=.buildSlice ty 3 #[(0,x),(1,y),(2,z)]) {vx vy vz v:Value} {w2:World} (hx:a.eval x=vx) (hy:a.eval y=vy) (hz:a.eval z=vz) (hr:(Instr.buildSlice ty 3 #[(0,vx),(1,vy),(2,vz)]).run prog w=.ok v w2) (h:K (a.put o.dst v) w2):o.wp prog a w K Q:=by
 unfold Oper.wp execOp
 simp only [ho,List.map_toArray,List.map_cons,List.map_nil,hx,hy,hz,Sem.run_bind,hr,Result.andThen_ok,Sem.run_pure]
 exact h
theorem pK {w:World} {g:Nat} {t:TypeId} {c:CeR} (h:Blk w g t (ceA c)):w.rangeAt g 2 (nmL c.lk):=by
 have:=bG (k:=2) (aC h)
 rw [show (ceA c).toList=ceL c from rfl,aLw] at this
 exact this
theorem bS {w:World} {g:Nat} {t:TypeId} {n:UInt64} (h:Blk w g t (nmc n)):w.rangeAt g 0 (nmL n):=by
 have:=aC h
 rwa [bW] at this
end
end Go.Proofs.YtgmnmjeccfnmbaaGreat
