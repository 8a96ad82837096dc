/- The order of votes (the program's). -/
import Derived.Sort.LotA
import Derived.Laws.OwnMore
import Derived.Lib.BytesEntry
import Derived.WalkMore
import Derived.Test.YtohmmcahpakokaaGreatG11
import Derived.Test.YtohmmcahpakokaaGreatG12
set_option maxRecDepth 100000
set_option maxHeartbeats 8000000
set_option linter.unusedSectionVars false
set_option linter.unusedVariables false
set_option linter.unusedSimpArgs false
namespace Go.Proofs.YtohmmcahpakokaaGreat
section
open Go.RowKit
attribute [local go_sem ↓] Go.wp_at_zero Go.wp_at_succ
theorem aEi (a b:UInt64) (w:World):(Op.equalIn 10000 30 (.agg (nmc a)) (.agg (nmc b))).run Tryz.prog w=.ok (decide (a=b)) w:=by
 have:=bX a b w
 rw [run_eql_struct] at this
 cases h:(Op.equalIn 10000 30 (.agg (nmc a)) (.agg (nmc b))).run Tryz.prog w with
 | ok r w'=>rw [h] at this;simp at this;obtain ⟨h1,h2⟩:=this;subst h1;subst h2;rfl
 | _=>rw [h] at this;simp at this
theorem aBQ (a b:UInt64) (w:World):(binOp .neq 30 (.agg (nmc a)) (.agg (nmc b))).run Tryz.prog w=.ok (.bool (!decide (a=b))) w:=by
 rw [run_neq_struct,aEi a b w]
 rfl
def x5 (v:VtR):List Int:=[v.sl,v.ro,v.k,v.si,v.ch]
abbrev x5A (v:VtR):Array Value:=#[.int .i64 v.sl,.int .i64 v.ro,.int .i64 v.k,.int .i64 v.si,.int .i64 v.ch]
def x5n (v:VtR) (i:Nat):Int:=(x5 v).getD i 0
theorem aJo {a b:VtR} (h:a.pa ≠ b.pa):vQ a b=decide (un a.pa < un b.pa):=by
 unfold vQ yF eX
 rw [if_neg (fun e=>h (zR e))]
theorem aJl {a b:VtR} (h:a.pa=b.pa) {k:Nat} (hk:k < 5) (he:∀ j,j < k→x5n a j=x5n b j) (hn:x5n a k ≠ x5n b k):vQ a b=decide (x5n a k < x5n b k):=by
 have e0:0 < k→a.sl=b.sl:=fun h=>he 0 h
 have e1:1 < k→a.ro=b.ro:=fun h=>he 1 h
 have e2:2 < k→a.k=b.k:=fun h=>he 2 h
 have e3:3 < k→a.si=b.si:=fun h=>he 3 h
 unfold vQ yF
 rcases (by omega:k=0 ∨ k=1 ∨ k=2 ∨ k=3 ∨ k=4) with rfl | rfl | rfl | rfl | rfl
 ·have hn' : a.sl ≠ b.sl := hn
  simp only [eX,h,if_true,if_neg hn'];rfl
 ·have hn' : a.ro ≠ b.ro := hn
  simp only [eX,h,e0 (by omega),if_true,if_neg hn'];rfl
 ·have hn' : a.k ≠ b.k := hn
  simp only [eX,h,e0 (by omega),e1 (by omega),if_true,if_neg hn'];rfl
 ·have hn' : a.si ≠ b.si := hn
  simp only [eX,h,e0 (by omega),e1 (by omega),e2 (by omega),if_true,if_neg hn'];rfl
 have hn':a.ch ≠ b.ch:=hn
 simp only [eX,h,e0 (by omega),e1 (by omega),e2 (by omega),e3 (by omega),if_true,if_neg hn'];rfl
theorem aJm {a b:VtR} (h:a.pa=b.pa) (he:∀ j,j < 5→x5n a j=x5n b j) (hn:a.va ≠ b.va):vQ a b=decide (un a.va < un b.va):=by
 have e0:a.sl=b.sl:=he 0 (by omega)
 have e1:a.ro=b.ro:=he 1 (by omega)
 have e2:a.k=b.k:=he 2 (by omega)
 have e3:a.si=b.si:=he 3 (by omega)
 have e4:a.ch=b.ch:=he 4 (by omega)
 unfold vQ yF
 simp only [eX,h,e0,e1,e2,e3,e4,if_true,if_neg (fun e=>hn (zR e):¬ un a.va=un b.va)]
theorem aJn {a b:VtR} (h:a.pa=b.pa) (he:∀ j,j < 5→x5n a j=x5n b j) (hn:a.va=b.va):vQ a b=decide (a.su < b.su):=by
 have e0:a.sl=b.sl:=he 0 (by omega)
 have e1:a.ro=b.ro:=he 1 (by omega)
 have e2:a.k=b.k:=he 2 (by omega)
 have e3:a.si=b.si:=he 3 (by omega)
 have e4:a.ch=b.ch:=he 4 (by omega)
 unfold vQ yF
 simp only [eX,h,e0,e1,e2,e3,e4,hn,if_true]
 split
 ·rename_i e;rw [e];simp
 rfl
theorem aGQ {w:World} {g:Nat} {t:TypeId} {v:VtR} (h:Blk w g t (vtA v)):w.rangeAt g 6 (bcs (nmb v.pa)):=by
 have h1:=aO (k:=8) (bD (k:=6) (aC h))
 rw [dU,← Nat.zero_add 6]
 exact h1
theorem aGP {w:World} {g:Nat} {t:TypeId} {v:VtR} (h:Blk w g t (vtA v)):w.rangeAt g 14 (bcs (nmb v.va)):=by
 have h1:=aO (k:=8) (bD (k:=14) (aC h))
 rw [dU,← Nat.zero_add 14]
 exact h1
def x5L (v:VtR):List Value:=(x5A v).toList
theorem aIE (v:VtR):∀ u ∈ x5L v,u.oneCell'=true:=by
 intro u hu
 simp only [x5L,List.mem_cons,List.not_mem_nil,or_false] at hu
 rcases hu with rfl | rfl | rfl | rfl | rfl <;> rfl
theorem aIF (v:VtR):(x5A v).all (·.oneCell')=true:=all_oneCell_toArray (aIE v)
theorem pE {o:Oper} {a:Act} {w:World} {ops:Array Oper} {rest:List Oper} {Q:Exit→Act→World→Prop} (hgd:o.guard=none) (x y:Operand) (ho:o.op=.store 228 x y) (cs:Array Value) (hcs:cs.size=5) (R:VtR) (hx:a.eval x=.pointer (some ⟨w.heap.size,0,none⟩)) (hy:a.eval y=.agg (x5A R))
  (h:wpList Tryz.prog ops Q rest (a.put o.dst undef) (w.alloc (.cells (x5A R) 228))):wpList Tryz.prog ops Q (o :: rest) a (w.alloc (.cells cs 228)):=by
 have ht:=aK (Blk.new w 228 cs)
 rw [hcs] at ht
 refine wpList_store_mid hgd 228 x y ho w.heap.size 0 (x5A R) hx hy ht (by kernel_rfl) (aIF R) ?_
 rw [dO w 228 cs (x5A R) (by rw [hcs];rfl)]
 exact h
theorem aEC {w:World} {g:Nat} {t:TypeId} {v:VtR} (h:Blk w g t (x5A v)) {k:Nat} (hk:k < 5):w.cell? ⟨g,k,none⟩=some (.int .i64 (x5n v k)):=by
 rcases (by omega:k=0 ∨ k=1 ∨ k=2 ∨ k=3 ∨ k=4) with rfl | rfl | rfl | rfl | rfl <;> exact h.cell _
theorem aDr (a b:VtR) (w:World):Calls Tryz.prog 210 #[.agg (vtA a),.agg (vtA b)] w fun e w'=>e=.returned (.bool (vQ a b))∧Ext w w':=by
 have hE:=((Ext.refl w).alloc' (.cells (vtA a) 134)).alloc' (.cells (vtA b) 134)
 have HB1:=zh ((Blk.new w 134 (vtA a)).alloc (.cells (vtA b) 134))
 have HB2:=zh (show Blk ((w.alloc (.cells (vtA a) 134)).alloc (.cells (vtA b) 134)) (w.heap.size+1) 134 (vtA b) from Blk.newAt _ _ _ _ (by simp))
 have HE:=zh hE
 obtain ⟨W0,hW0⟩:∃ W0,(w.alloc (.cells (vtA a) 134)).alloc (.cells (vtA b) 134)=W0:=⟨_,rfl⟩
 rw [hW0] at HB1 HB2 HE
 have hsz:W0.heap.size=w.heap.size+2:=by rw [← hW0];simp
 have HSZ:=zh hsz
 have g1:w.heap.size < W0.heap.size:=by omega
 have g2:w.heap.size+1 < W0.heap.size:=by omega
 obtain ⟨a0,a1,a2,a3,a4,a5,a6,a7⟩:=bO HB1.out
 obtain ⟨b0,b1,b2,b3,b4,b5,b6,b7⟩:=bO HB2.out
 have p1:=aGQ HB1.out
 have p2:=aGQ HB2.out
 have hq:=fun W=>aBQ a.pa b.pa W
 have hqi:=fun W=>aEi a.pa b.pa W
 clear hE a6 a7 b6 b7 hsz
 by_cases hpa:a.pa=b.pa
 ·rw [decide_eq_true hpa] at hq hqi
  rw [Bool.not_true] at hq
  have HPA:=zh hpa
  clear hpa
  go_enter Tryz.func210,Tryz.ntmps210
  go_wp2_with (first | (with_reducible refine aT rfl (.tmp 8) rfl w.heap.size 6 rfl a.pa p1 ?_) | (with_reducible refine aT rfl (.tmp 10) rfl (w.heap.size+1) 6 rfl b.pa p2 ?_) | (with_reducible refine pE rfl (.tmp 5) (.tmp 28) rfl _ rfl a rfl rfl ?_) | (with_reducible refine pE rfl (.tmp 6) (.tmp 39) rfl _ rfl b rfl rfl ?_))
  have HX:=zh (((Blk.new W0 228 (x5A a))).alloc (.cells (x5A b) 228))
  have HY:=zh (show Blk ((W0.alloc (.cells (x5A a) 228)).alloc (.cells (x5A b) 228)) (W0.heap.size+1) 228 (x5A b) from Blk.newAt _ _ _ _ (by simp))
  have HE1:=zh (((Ext.refl W0).alloc' (.cells (x5A a) 228)).alloc' (.cells (x5A b) 228))
  clear p1 p2 hq hqi a0 a1 a2 a3 a4 a5 b0 b1 b2 b3 b4 b5 g1 g2
  generalize (W0.alloc (.cells (x5A a) 228)).alloc (.cells (x5A b) 228)=W1 at HX HY HE1 ⊢
  go_loopw [40,7] (fun i _ wr=>∃ k:Nat,k≤5∧i=.int .i64 (k:Int)∧Hid (∀ j,j < k→x5n a j=x5n b j)∧Hid (Ext W1 wr)) (fun i _ _=>5 - (intOf i).toNat)
  case atStart=>exact ⟨0,by omega,rfl,zh (fun j hj=>by omega),zh (Ext.refl _)⟩
  case round =>
   obtain ⟨k,hk,rfl,HP,HZ⟩:=hrel
   by_cases hlt:k < 5
   ·have hx := aEC (HX.out.ext HZ.out) hlt
    have hy:=aEC (HY.out.ext HZ.out) hlt
    have i0:(0:Int)≤(k:Int):=by omega
    have i1:(k:Int) < 5:=by omega
    by_cases hne:x5n a k=x5n b k
    ·have HP':=zh (show ∀ j,j < k+1→x5n a j=x5n b j from fun j hj=>by
      rcases Nat.lt_or_ge j k with h | h
      ·exact HP.out j h
      obtain rfl:j=k:=by omega
      exact hne)
     obtain ⟨z,hz⟩:∃ z,x5n a k=z:=⟨_,rfl⟩
     rw [hz] at hx hne
     rw [← hne] at hy
     clear hz hne
     have hz:(z != z)=false:=by simp
     go_wp2_with fail
     go_quiet ((fail))
     go_wp2_with fail
     go_roundw
     case rel=>exact ⟨k+1,by omega,by go_num,HP',zh (below_drewN HZ.out _)⟩
     case measure=>simp [intOf];omega
    have HV:=zh (aJl HPA.out hlt HP.out hne)
    obtain ⟨z,hz⟩:∃ z,x5n a k=z:=⟨_,rfl⟩
    obtain ⟨y,hyy⟩:∃ y,x5n b k=y:=⟨_,rfl⟩
    rw [hz,hyy] at HV hne
    rw [hz] at hx
    rw [hyy] at hy
    have hzy:(z != y)=true:=bne_iff_ne.2 hne
    have HZZ:=zh hz
    have HYY:=zh hyy
    clear hz hyy
    go_wp2_with fail
    go_quiet ((fail))
    have HZ2:=zh (below_drewN HZ.out nq)
    clear hx hy HZ
    generalize wr.drewN nq=W2 at HZ2 ⊢
    have hx:=aEC (HX.out.ext HZ2.out) hlt
    have hy:=aEC (HY.out.ext HZ2.out) hlt
    rw [HZZ.out] at hx
    rw [HYY.out] at hy
    go_wp2_with fail
    go_quiet ((fail))
    go_wp2_with fail
    go_ret
    exact ⟨by rw [HV.out];rfl,HE.out.trans (HE1.out.trans (below_drewN HZ2.out _))⟩
   obtain rfl:k=5:=by omega
   have HE2:=zh (HE1.out.trans HZ.out)
   have HW:=zh (HE.out.trans HE2.out)
   have p1:=aGP (HB1.out.ext HE2.out)
   have p2:=aGP (HB2.out.ext HE2.out)
   obtain ⟨a0,a1,a2,a3,a4,a5,a6,a7⟩:=bO (HB1.out.ext HE2.out)
   obtain ⟨b0,b1,b2,b3,b4,b5,b6,b7⟩:=bO (HB2.out.ext HE2.out)
   clear a0 a1 a2 a3 a4 a6 a7 b0 b1 b2 b3 b4 b6 b7
   have hq:=fun W=>aBQ a.va b.va W
   have hqi:=fun W=>aEi a.va b.va W
   by_cases hva:a.va=b.va
   ·have HV := zh (aJn HPA.out HP.out hva)
    rw [decide_eq_true hva] at hq hqi
    rw [Bool.not_true] at hq
    clear hva
    go_wp2_with (first | (with_reducible refine aT rfl (.tmp 58) rfl w.heap.size 14 rfl a.va p1 ?_) | (with_reducible refine aT rfl (.tmp 60) rfl (w.heap.size+1) 14 rfl b.va p2 ?_))
    go_ret
    exact ⟨by rw [HV.out];rfl,HW.out⟩
   have HV:=zh (aJm HPA.out HP.out hva)
   rw [decide_eq_false hva] at hq hqi
   rw [Bool.not_false] at hq
   clear hva
   go_wp2_with (first | (with_reducible refine aT rfl (.tmp 58) rfl w.heap.size 14 rfl a.va p1 ?_) | (with_reducible refine aT rfl (.tmp 60) rfl (w.heap.size+1) 14 rfl b.va p2 ?_) | (with_reducible refine aT rfl (.tmp 63) rfl w.heap.size 14 rfl a.va p1 ?_) | (with_reducible refine aT rfl (.tmp 65) rfl (w.heap.size+1) 14 rfl b.va p2 ?_))
   refine (yW a.va b.va wr).mono ?_
   rintro e w1 ⟨rfl,he1⟩
   have HX1:=zh (HW.out.trans he1)
   clear he1
   go_wp2_with fail
   go_ret
   exact ⟨by rw [HV.out];rfl,HX1.out⟩
 have HV:=zh (aJo hpa)
 rw [decide_eq_false hpa] at hq hqi
 rw [Bool.not_false] at hq
 clear hpa
 go_enter Tryz.func210,Tryz.ntmps210
 go_wp2_with (first | (with_reducible refine aT rfl (.tmp 8) rfl w.heap.size 6 rfl a.pa p1 ?_) | (with_reducible refine aT rfl (.tmp 10) rfl (w.heap.size+1) 6 rfl b.pa p2 ?_) | (with_reducible refine aT rfl (.tmp 13) rfl w.heap.size 6 rfl a.pa p1 ?_) | (with_reducible refine aT rfl (.tmp 15) rfl (w.heap.size+1) 6 rfl b.pa p2 ?_))
 refine (yW a.pa b.pa W0).mono ?_
 rintro e w1 ⟨rfl,he1⟩
 have HX:=zh (HE.out.trans he1)
 clear he1
 go_wp2_with fail
 go_ret
 exact ⟨by rw [HV.out];rfl,HX.out⟩
theorem qG {α:Type} [RowT α] {L:List α} (h:gcs L=[]):L=[]:=by
 have:=congrArg List.length h
 rw [aI] at this
 rcases Nat.mul_eq_zero.1 this with h | h
 ·exact List.length_eq_zero_iff.1 h
 exact absurd h (Nat.ne_of_gt RowT.pos)
theorem aCW (A:Option Addr) (n c:Nat) (L:List DeR) (w:World) (h:SlG w A n c L) (hn:n≤1000000000) :
  Calls Tryz.prog 90 #[.slice A n c] w fun e w'=>∃ A' c',e=.returned (.slice A' n c')∧w'.ownsRow w.heap.size 34 11 (.slice A' n c') n (gcs L)∧Ext w w':=by
 rcases A with _ | ad
 ·have hl:L=[]:=by
   rcases h.rd with h | ⟨b,o,h,_⟩
   ·exact qG h
   cases h
  subst hl
  obtain rfl:n=0:=by have:=h.len;simpa using this.symm
  have hq:=run_eql_slice_nil (P:=Tryz.prog) w 27 34 none 0 c Tryz.underlying27
  go_enter Tryz.func90,Tryz.ntmps90
  go_wp2_with fail
  go_ret
  exact ⟨_,_,rfl,World.ownsRow_nil _ _ _ _,Ext.refl _⟩
 have hq:=run_eql_slice_nil (P:=Tryz.prog) w 27 34 (some ad) n c Tryz.underlying27
 have HO0:=zh (show (w.alloc (.cells #[] 34)).ownsRow w.heap.size 34 11 (.slice (some ⟨w.heap.size,0,none⟩) 0 0) 0 [] from World.ownsRow_made w #[] 0 (Nat.le_refl _) (Nat.zero_le _) rfl)
 have HS:=zh (h.ext ((Ext.refl w).alloc' (.cells #[] 34)))
 have HX:=zh ((Ext.refl w).alloc' (.cells #[] 34))
 have HL:=zh (show (gcs L).length=n * 11 by rw [aI,h.len];rfl)
 clear h
 go_enter Tryz.func90,Tryz.ntmps90
 go_wp2_with (at_builtin;go_must (refine bU deE rfl (.tmp 5) (.tmp 6) rfl w.heap.size _ _ _ [] rfl HO0.out _ n c (gcs L) rfl HS.out.rd HL.out (cG L) (by omega) (by omega) HX.out.size ?_;intro A' c' w' hO hg))
 go_ret
 exact ⟨_,_,rfl,by simpa using hO,Below.grown HX.out hg HX.out.size (fun k hk=>(World.ownsRow.lt HO0.out k hk).1)⟩
theorem aCV (A:Option Addr) (n c:Nat) (L:List Int) (w:World) (h:SlG w A n c L) (hn:n≤1000000000) :
  Calls Tryz.prog 91 #[.slice A n c] w fun e w'=>∃ A' c',e=.returned (.slice A' n c')∧w'.ownsRow w.heap.size 3 1 (.slice A' n c') n (gcs L)∧Ext w w':=by
 rcases A with _ | ad
 ·have hl:L=[]:=by
   rcases h.rd with h | ⟨b,o,h,_⟩
   ·exact qG h
   cases h
  subst hl
  obtain rfl:n=0:=by have:=h.len;simpa using this.symm
  have hq:=run_eql_slice_nil (P:=Tryz.prog) w 38 3 none 0 c Tryz.underlying38
  go_enter Tryz.func91,Tryz.ntmps91
  go_wp2_with fail
  go_ret
  exact ⟨_,_,rfl,World.ownsRow_nil _ _ _ _,Ext.refl _⟩
 have hq:=run_eql_slice_nil (P:=Tryz.prog) w 38 3 (some ad) n c Tryz.underlying38
 have HO0:=zh (show (w.alloc (.cells #[] 3)).ownsRow w.heap.size 3 1 (.slice (some ⟨w.heap.size,0,none⟩) 0 0) 0 [] from World.ownsRow_made w #[] 0 (Nat.le_refl _) (Nat.zero_le _) rfl)
 have HS:=zh (h.ext ((Ext.refl w).alloc' (.cells #[] 3)))
 have HX:=zh ((Ext.refl w).alloc' (.cells #[] 3))
 have HL:=zh (show (gcs L).length=n * 1 by rw [aI,h.len];rfl)
 clear h
 go_enter Tryz.func91,Tryz.ntmps91
 go_wp2_with (at_builtin;go_must (refine bU inE rfl (.tmp 5) (.tmp 6) rfl w.heap.size _ _ _ [] rfl HO0.out _ n c (gcs L) rfl HS.out.rd HL.out (cG L) (by omega) (by omega) HX.out.size ?_;intro A' c' w' hO hg))
 go_ret
 exact ⟨_,_,rfl,by simpa using hO,Below.grown HX.out hg HX.out.size (fun k hk=>(World.ownsRow.lt HO0.out k hk).1)⟩
theorem aCU (A:Option Addr) (n c:Nat) (L:List LkR) (w:World) (h:SlG w A n c L) (hn:n≤1000000000) :
  Calls Tryz.prog 92 #[.slice A n c] w fun e w'=>∃ A' c',e=.returned (.slice A' n c')∧w'.ownsRow w.heap.size 94 19 (.slice A' n c') n (gcs L)∧Ext w w':=by
 rcases A with _ | ad
 ·have hl:L=[]:=by
   rcases h.rd with h | ⟨b,o,h,_⟩
   ·exact qG h
   cases h
  subst hl
  obtain rfl:n=0:=by have:=h.len;simpa using this.symm
  have hq:=run_eql_slice_nil (P:=Tryz.prog) w 41 94 none 0 c Tryz.underlying41
  go_enter Tryz.func92,Tryz.ntmps92
  go_wp2_with fail
  go_ret
  exact ⟨_,_,rfl,World.ownsRow_nil _ _ _ _,Ext.refl _⟩
 have hq:=run_eql_slice_nil (P:=Tryz.prog) w 41 94 (some ad) n c Tryz.underlying41
 have HO0:=zh (show (w.alloc (.cells #[] 94)).ownsRow w.heap.size 94 19 (.slice (some ⟨w.heap.size,0,none⟩) 0 0) 0 [] from World.ownsRow_made w #[] 0 (Nat.le_refl _) (Nat.zero_le _) rfl)
 have HS:=zh (h.ext ((Ext.refl w).alloc' (.cells #[] 94)))
 have HX:=zh ((Ext.refl w).alloc' (.cells #[] 94))
 have HL:=zh (show (gcs L).length=n * 19 by rw [aI,h.len];rfl)
 clear h
 go_enter Tryz.func92,Tryz.ntmps92
 go_wp2_with (at_builtin;go_must (refine bU lkE rfl (.tmp 5) (.tmp 6) rfl w.heap.size _ _ _ [] rfl HO0.out _ n c (gcs L) rfl HS.out.rd HL.out (cG L) (by omega) (by omega) HX.out.size ?_;intro A' c' w' hO hg))
 go_ret
 exact ⟨_,_,rfl,by simpa using hO,Below.grown HX.out hg HX.out.size (fun k hk=>(World.ownsRow.lt HO0.out k hk).1)⟩
theorem aCT (A:Option Addr) (n c:Nat) (L:List UInt64) (w:World) (h:SlG w A n c L) (hn:n≤1000000000) :
  Calls Tryz.prog 93 #[.slice A n c] w fun e w'=>∃ A' c',e=.returned (.slice A' n c')∧w'.ownsRow w.heap.size 30 8 (.slice A' n c') n (gcs L)∧Ext w w':=by
 rcases A with _ | ad
 ·have hl:L=[]:=by
   rcases h.rd with h | ⟨b,o,h,_⟩
   ·exact qG h
   cases h
  subst hl
  obtain rfl:n=0:=by have:=h.len;simpa using this.symm
  have hq:=run_eql_slice_nil (P:=Tryz.prog) w 37 30 none 0 c Tryz.underlying37
  go_enter Tryz.func93,Tryz.ntmps93
  go_wp2_with fail
  go_ret
  exact ⟨_,_,rfl,World.ownsRow_nil _ _ _ _,Ext.refl _⟩
 have hq:=run_eql_slice_nil (P:=Tryz.prog) w 37 30 (some ad) n c Tryz.underlying37
 have HO0:=zh (show (w.alloc (.cells #[] 30)).ownsRow w.heap.size 30 8 (.slice (some ⟨w.heap.size,0,none⟩) 0 0) 0 [] from World.ownsRow_made w #[] 0 (Nat.le_refl _) (Nat.zero_le _) rfl)
 have HS:=zh (h.ext ((Ext.refl w).alloc' (.cells #[] 30)))
 have HX:=zh ((Ext.refl w).alloc' (.cells #[] 30))
 have HL:=zh (show (gcs L).length=n * 8 by rw [aI,h.len];rfl)
 clear h
 go_enter Tryz.func93,Tryz.ntmps93
 go_wp2_with (at_builtin;go_must (refine bU dV rfl (.tmp 5) (.tmp 6) rfl w.heap.size _ _ _ [] rfl HO0.out _ n c (gcs L) rfl HS.out.rd HL.out (cG L) (by omega) (by omega) HX.out.size ?_;intro A' c' w' hO hg))
 go_ret
 exact ⟨_,_,rfl,by simpa using hO,Below.grown HX.out hg HX.out.size (fun k hk=>(World.ownsRow.lt HO0.out k hk).1)⟩
structure StR where
 A1:Option Addr
 n1:Nat
 c1:Nat
 C:List DeR
 A2:Option Addr
 n2:Nat
 c2:Nat
 Q:List Int
 A3:Option Addr
 n3:Nat
 c3:Nat
 K:List LkR
 A4:Option Addr
 n4:Nat
 c4:Nat
 P:List UInt64
 G:Int
def StR.V (s:StR):StV:=⟨s.C,s.Q,s.K,s.P,s.G⟩
abbrev ssA (s:StR):Array Value:=#[.slice s.A1 s.n1 s.c1,.slice s.A2 s.n2 s.c2,.slice s.A3 s.n3 s.c3,.slice s.A4 s.n4 s.c4,.int .i64 s.G]
structure StR.ok (s:StR) (w:World):Prop where
 s1:SlG w s.A1 s.n1 s.c1 s.C
 s2:SlG w s.A2 s.n2 s.c2 s.Q
 s3:SlG w s.A3 s.n3 s.c3 s.K
 s4:SlG w s.A4 s.n4 s.c4 s.P
 g:wfI s.G
theorem StR.ok.ext {s:StR} {w w':World} (h:s.ok w) (e:Ext w w'):s.ok w':=⟨h.s1.ext e,h.s2.ext e,h.s3.ext e,h.s4.ext e,h.g⟩
structure OwnS (w:World) (base:Nat) (s:StR):Prop where
 o1:w.ownsRow base 34 11 (.slice s.A1 s.n1 s.c1) s.n1 (gcs s.C)
 o2:w.ownsRow base 3 1 (.slice s.A2 s.n2 s.c2) s.n2 (gcs s.Q)
 o3:w.ownsRow base 94 19 (.slice s.A3 s.n3 s.c3) s.n3 (gcs s.K)
 o4:w.ownsRow base 30 8 (.slice s.A4 s.n4 s.c4) s.n4 (gcs s.P)
 k1:∀ d ∈ s.C,deW d
 k2:∀ z ∈ s.Q,wfI z
 k3:∀ l ∈ s.K,lkW l
 g:wfI s.G
theorem OwnS.ok {w:World} {base:Nat} {s:StR} (h:OwnS w base s):s.ok w :=
 ⟨OwnG.sl (e:=34) h.o1 h.k1,OwnG.sl (e:=3) h.o2 h.k2,OwnG.sl (e:=94) h.o3 h.k3,OwnG.sl (e:=30) h.o4 (fun _ _=>trivial),h.g⟩
theorem OwnS.ext {w w':World} {base:Nat} {s:StR} (h:OwnS w base s) (e:Ext w w'):OwnS w' base s:=⟨bF h.o1 e,bF h.o2 e,bF h.o3 e,bF h.o4 e,h.k1,h.k2,h.k3,h.g⟩
theorem OwnS.mono {w:World} {base base':Nat} {s:StR} (h:OwnS w base s) (hb:base'≤base):OwnS w base' s:=⟨bB h.o1 hb,bB h.o2 hb,bB h.o3 hb,bB h.o4 hb,h.k1,h.k2,h.k3,h.g⟩
theorem OwnS.kept {w w':World} {base:Nat} {s:StR} {X:Nat} {t:TypeId} {cs:Array Value} (h:OwnS w base s) (hg:w.grownBy w' (some X)) (hb:Blk w X t cs) (h1:t ≠ 34) (h2:t ≠ 3) (h3:t ≠ 94) (h4:t ≠ 30):OwnS w' base s :=
 ⟨h.o1.kept hg (.inr (Ne.symm (aM h.o1 hb h1))),h.o2.kept hg (.inr (Ne.symm (aM h.o2 hb h2))),h.o3.kept hg (.inr (Ne.symm (aM h.o3 hb h3))),h.o4.kept hg (.inr (Ne.symm (aM h.o4 hb h4))),h.k1,h.k2,h.k3,h.g⟩
theorem OwnS.l1 {w:World} {base:Nat} {s:StR} (h:OwnS w base s):s.C.length=s.n1:=OwnG.len (e:=34) h.o1
theorem OwnS.l2 {w:World} {base:Nat} {s:StR} (h:OwnS w base s):s.Q.length=s.n2:=OwnG.len (e:=3) h.o2
theorem OwnS.l3 {w:World} {base:Nat} {s:StR} (h:OwnS w base s):s.K.length=s.n3:=OwnG.len (e:=94) h.o3
theorem OwnS.l4 {w:World} {base:Nat} {s:StR} (h:OwnS w base s):s.P.length=s.n4:=OwnG.len (e:=30) h.o4
theorem aE {w:World} {g:Nat} {t:TypeId} {s:StR} (h:Blk w g t (ssA s)):w.cell? ⟨g,0,none⟩=some (.slice s.A1 s.n1 s.c1)∧w.cell? ⟨g,1,none⟩=some (.slice s.A2 s.n2 s.c2)∧w.cell? ⟨g,2,none⟩=some (.slice s.A3 s.n3 s.c3)∧w.cell? ⟨g,3,none⟩=some (.slice s.A4 s.n4 s.c4)∧w.cell? ⟨g,4,none⟩=some (.int .i64 s.G) :=
 ⟨h.cell 0,h.cell 1,h.cell 2,h.cell 3,h.cell 4⟩
def ss0:StR:=⟨none,0,0,[],none,0,0,[],none,0,0,[],none,0,0,[],0⟩
def mE (w:World) (V:StV) (e:Ending) (w':World):Prop:=∃ s,e=.returned (.agg (ssA s))∧OwnS w' w.heap.size s∧s.V=V∧Ext w w'
end
section
open Go.RowKit
theorem Grown.refl (w:World) (row:Option Nat):w.grownBy w row:=⟨rfl,rfl,rfl,Nat.le_refl _,fun _ _ _=>rfl⟩
theorem Grown.trans {a b c:World} {row:Option Nat} (h:a.grownBy b row) (k:b.grownBy c row):a.grownBy c row :=
 ⟨k.os.trans h.os,k.tape.trans h.tape,k.output.trans h.output,Nat.le_trans h.size k.size,fun i hi hr=>(k.block i (Nat.lt_of_lt_of_le hi h.size) hr).trans (h.block i hi hr)⟩
theorem Ext.grown {a b:World} (h:Ext a b) (row:Option Nat):a.grownBy b row:=⟨h.os,h.tape,h.output,h.size,fun i hi _=>h.block i hi⟩
theorem Grown.none {a b:World} (h:a.grownBy b none):Ext a b:=⟨h.os,h.tape,h.output,h.size,fun k hk=>h.block k hk (by simp)⟩
theorem aBM {xs:List Value} {o:Nat} {y:Value} {r:List Value} (h:o < xs.length):splice (xs.set o y) (o+1) r=splice xs o (y :: r):=by
 unfold splice
 rw [List.take_add_one,List.getElem?_set_self h,List.take_set_of_le (Nat.le_refl _)]
 simp [List.drop_set_of_lt,show o < o+1+r.length from by omega,show o+(r.length+1)=o+1+r.length from by omega]
theorem jQ {base:Nat} {e:TypeId} {size g n c:Nat} (ys:List Value):∀ (o:Nat) (w:World) (xs:List Value),o+ys.length≤xs.length→w.ownsRow base e size (.slice (some ⟨g,0,none⟩) n c) n xs →
  (w.setCells g o ys).ownsRow base e size (.slice (some ⟨g,0,none⟩) n c) n (splice xs o ys)∧w.grownBy (w.setCells g o ys) (some g):=by
 induction ys with
 | nil=>intro o w xs hl h;exact ⟨by simpa [splice,World.setCells] using h,Grown.refl _ _⟩
 | cons y r ih =>
  intro o w xs hl h
  simp only [List.length_cons] at hl
  have hs:=h.stored o y
  obtain ⟨h1,h2⟩:=ih (o+1) _ _ (by rw [List.length_set];omega) hs.1
  rw [aBM (by omega)] at h1
  exact ⟨h1,Grown.trans hs.2 h2⟩
theorem tG {w:World} {base:Nat} {e:TypeId} {size:Nat} {A:Option Addr} {n c:Nat} {xs:List Value} (h:w.ownsRow base e size (.slice A n c) n xs) {i:Nat} (hi:i≤n) (hA:A ≠ none):w.ownsRow base e size (.slice A i c) i (xs.take (i * size)):=by
 have hle:i * size≤n * size:=Nat.mul_le_mul_right _ hi
 refine ⟨by rw [List.length_take,h.1];omega,?_⟩
 rcases h.2 with ⟨hv,_⟩ | ⟨g,cap,cur,hv,hb,hh,hn,hm,hs,ht⟩
 ·injection hv with hA';exact absurd hA' hA
 injection hv with h1 _ h3;subst h1;subst h3
 refine .inr ⟨g,c,cur,rfl,hb,hh,by omega,hm,hs,?_⟩
 rw [← ht,List.take_take,Nat.min_eq_left hle]
theorem uX {base:Nat} {e:TypeId} {size g n c:Nat} (ys:List Value):∀ (o:Nat) (w:World) (xs:List Value),w.ownsRow base e size (.slice (some ⟨g,0,none⟩) n c) n xs →
  ∃ xs',(w.setCells g o ys).ownsRow base e size (.slice (some ⟨g,0,none⟩) n c) n xs'∧xs'.take o=xs.take o∧w.grownBy (w.setCells g o ys) (some g):=by
 induction ys with
 | nil=>intro o w xs h;exact ⟨xs,h,rfl,Grown.refl _ _⟩
 | cons y r ih =>
  intro o w xs h
  have hs:=h.stored o y
  obtain ⟨xs',h1,h2,h3⟩:=ih (o+1) _ _ hs.1
  refine ⟨xs',h1,?_,Grown.trans hs.2 h3⟩
  have:=congrArg (List.take o) h2
  rw [List.take_take,List.take_take,Nat.min_eq_left (by omega)] at this
  rw [this,List.take_set_of_le (by omega)]
section
variable {α:Type} [RowT α]
instance (priority:=low) rowInh:Inhabited α:=⟨RowT.z⟩
theorem qQ (d:Array α) (i:Nat):d[i]! = aH d.toList i:=by
 show d[i]! = d.toList.getD i RowT.z
 rw [List.getD_eq_getElem?_getD,Array.getElem?_toList]
 by_cases h:i < d.size
 ·rw [getElem!_pos d i h,Array.getElem?_eq_getElem h];rfl
 rw [getElem!_neg d i h,Array.getElem?_eq_none (by omega)];rfl
theorem aJy (L:List α) (i:Nat) (x:α) (hi:i < L.length):splice (gcs L) (i * RowT.sz α) (RowT.enc x)=gcs (L.set i x):=by
 rw [List.set_eq_take_append_cons_drop,if_pos hi,cH,dD]
 unfold splice
 rw [iW,RowT.len,← eH,Nat.add_mul,Nat.one_mul]
class RowB (α:Type) [RowT α] where
 ow:World→Nat→α→Prop
 ok:∀ x w b,ow w b x→RowT.ok x w
 ext:∀ x w w' b,ow w b x→Ext w w'→ow w' b x
 kept:∀ x w w' b b' e sz A n c xs,ow w b x→w.ownsRow b' e sz (.slice A n c) n xs→e ≠ 5→w.grownBy w' (Value.ownBlock (.slice A n c))→ow w' b x
 mono:∀ x w b b',ow w b x→b'≤b→ow w b' x
structure RowS [RowB α] (w0 w:World) (base:Nat) (e:TypeId) (A:Option Addr) (n c:Nat) (d:Array α):Prop where
 own:w.ownsRow base e (RowT.sz α) (.slice A n c) n (gcs d.toList)
 ow:∀ x ∈ d.toList,RowB.ow w base x
 gr:w0.grownBy w (Value.ownBlock (.slice A n c))
 ne:e ≠ 5
variable [RowB α] {w0 w w':World} {base:Nat} {e:TypeId} {A:Option Addr} {n c:Nat} {d:Array α}
theorem RowS.start (h:w.ownsRow base e (RowT.sz α) (.slice A n c) n (gcs d.toList)) (ho:∀ x ∈ d.toList,RowB.ow w base x) (hne:e ≠ 5):RowS w w base e A n c d:=⟨h,ho,Grown.refl _ _,hne⟩
theorem RowS.size (h:RowS w0 w base e A n c d):d.size=n:=by
 have:=h.own.1
 rw [aI] at this
 have hp:=RowT.pos (α:=α)
 have:=Nat.eq_of_mul_eq_mul_right hp this
 simpa using this
theorem RowS.ext (h:RowS w0 w base e A n c d) (he:Ext w w'):RowS w0 w' base e A n c d:=⟨bF h.own he,fun x hx=>RowB.ext _ _ _ _ (h.ow x hx) he,Grown.trans h.gr (Ext.grown he _),h.ne⟩
theorem RowS.at (h:RowS w0 w base e A n c d) (hn:0 < n):∃ g,A=some ⟨g,0,none⟩∧base≤g∧w.rangeAt g 0 (gcs d.toList):=cY h.own hn
theorem RowS.cell (h:RowS w0 w base e A n c d) {g:Nat} (hA:A=some ⟨g,0,none⟩) {i:Nat} (hi:i < n):w.rangeAt g (i * RowT.sz α) (RowT.enc d[i]!):=by
 obtain ⟨g',hA',_,hr⟩:=h.at (by omega)
 obtain rfl:g=g':=by rw [hA] at hA';injection hA' with h1;injection h1
 have:=cO (L:=d.toList) (k:=i) hr (by have:=h.size;simp;omega)
 rw [Nat.zero_add] at this
 rw [qQ]
 exact this
theorem aKl {i:Nat} (hi:i < d.size):d[i]! ∈ d.toList:=by
 rw [getElem!_pos d i hi];exact Array.mem_toList_iff.2 (Array.getElem_mem hi)
theorem RowS.owAt (h:RowS w0 w base e A n c d) {i:Nat} (hi:i < n):RowB.ow w base d[i]!:=h.ow _ (aKl (by rw [h.size];exact hi))
theorem RowS.ok (h:RowS w0 w base e A n c d) {i:Nat} (hi:i < n):RowT.ok d[i]! w:=RowB.ok _ _ _ (h.owAt hi)
theorem RowS.there (h:RowS w0 w base e A n c d) {g:Nat} (hA:A=some ⟨g,0,none⟩) {i:Nat} (hi:i < n):w.there g (i * RowT.sz α) (RowT.sz α):=by
 have hl:=h.own.1
 have h1:i * RowT.sz α+RowT.sz α≤n * RowT.sz α:=by
  have:=Nat.mul_le_mul_right (RowT.sz α) (show i+1≤n from hi)
  rwa [Nat.add_mul,Nat.one_mul] at this
 have ho:=h.own
 subst hA
 intro j hj
 exact ⟨by rw [ho.cellAt (i * RowT.sz α+j) (by omega),List.getElem?_eq_getElem (by omega)];rfl,ho.frozenAt _⟩
theorem RowS.set (h:RowS w0 w base e A n c d) {g:Nat} (hA:A=some ⟨g,0,none⟩) {i:Nat} (hi:i < n) (x:α) (hx:RowB.ow w base x):RowS w0 (w.setCells g (i * RowT.sz α) (RowT.enc x)) base e A n c (d.setIfInBounds i x):=by
 have hs:=h.size
 have ho:=h.own
 subst hA
 obtain ⟨h1,h2⟩:=jQ (RowT.enc x) (i * RowT.sz α) w (gcs d.toList) (by
  rw [RowT.len,aI]
  have:=Nat.mul_le_mul_right (RowT.sz α) (show i+1≤d.toList.length from by simp;omega)
  rwa [Nat.add_mul,Nat.one_mul] at this) ho
 rw [aJy _ _ _ (by simp;omega)] at h1
 refine ⟨by rw [Array.toList_setIfInBounds];exact h1,fun y hy=>?_,Grown.trans h.gr h2,h.ne⟩
 rw [Array.toList_setIfInBounds] at hy
 rcases List.mem_or_eq_of_mem_set hy with hy | rfl
 ·exact RowB.kept _ _ _ _ _ _ _ _ _ _ _ (h.ow y hy) ho h.ne h2
 exact RowB.kept _ _ _ _ _ _ _ _ _ _ _ hx ho h.ne h2
theorem RowS.keep (h:RowS w0 w base e A n c d) {g:Nat} (hA:A=some ⟨g,0,none⟩) (o:Nat) (vs:List Value) {x:α} (hx:RowB.ow w base x):RowB.ow (w.setCells g o vs) base x:=by
 have ho:=h.own
 subst hA
 exact RowB.kept _ _ _ _ _ _ _ _ _ _ _ hx ho h.ne (aD _ _ _ _)
theorem RowS.swap (h:RowS w0 w base e A n c d) {g:Nat} (hA:A=some ⟨g,0,none⟩) {i j:Nat} (hi:i < n) (hj:j < n) :
  RowS w0 ((w.setCells g (i * RowT.sz α) (RowT.enc d[j]!)).setCells g (j * RowT.sz α) (RowT.enc d[i]!)) base e A n c (Sort.swp d i j) :=
 (h.set hA hi _ (h.owAt hj)).set hA hj _ (h.keep hA _ _ (h.owAt hi))
theorem RowS.trans {w1:World} (h:RowS w0 w1 base e A n c d) {d':Array α} (k:RowS w1 w base e A n c d'):RowS w0 w base e A n c d':=⟨k.own,k.ow,Grown.trans h.gr k.gr,k.ne⟩
end
theorem aFS {w w':World} {b b' n0 n1 sz c0:Nat} {c1:Nat} {A0 A1:Option Addr} {l:List UInt8} {e:TypeId} {xs:List Value} (h:OwnB w b 5 A0 n0 c0 l) (hr:w.ownsRow b' e sz (.slice A1 n1 c1) n1 xs) (hne:e ≠ 5) (hg:w.grownBy w' (Value.ownBlock (.slice A1 n1 c1))):OwnB w' b 5 A0 n0 c0 l :=
 World.ownsRow.kept h hg (dP h hr (Ne.symm hne))
instance:RowB SgR where
 ow w b S:=OwnB w b 5 S.A S.n S.c S.sig∧S.v.wf
 ok S w b h:=⟨h.2,h.1.sl⟩
 ext S w w' b h he:=⟨h.1.ext he,h.2⟩
 kept S w w' b b' e sz A n c xs h hr hne hg:=⟨aFS h.1 hr hne hg,h.2⟩
 mono S w b b' h hb:=⟨bB h.1 hb,h.2⟩
end
section
open Go.RowKit
attribute [local go_sem ↓] Go.wp_at_zero Go.wp_at_succ
abbrev SgV:=VtR × List UInt8
def SgR.V (S:SgR):SgV:=(S.v,S.sig)
def eD:UInt64:=72057594037927936
theorem kK:nmc eD=#[.int .u8 1,.int .u8 0,.int .u8 0,.int .u8 0,.int .u8 0,.int .u8 0,.int .u8 0,.int .u8 0]:=by kernel_rfl
end
section
open Go.RowKit
def ltN (a b:UInt64):Bool:=decide (un a < un b)
theorem aJp:STO ltN:=⟨fun x=>by simp [ltN],fun x y z h1 h2=>by simp only [ltN,decide_eq_true_eq] at *;omega,fun x y h1 h2=>by simp only [ltN,decide_eq_false_iff_not] at *;exact zR (by omega)⟩
theorem aGd (P:List UInt64) (n y:UInt64):y ∈ eR P n ↔ y=n ∨ y ∈ P:=by
 unfold eR
 split
 ·rename_i h
  constructor
  ·exact .inr
  rintro (rfl | h')
  ·exact h
  exact h'
 exact mV _ _ _ _
def gE (G:Int) (i:Nat):Bool:=decide (G / 2 ^ i % 2=1)
def yD (G:Int) (i:Nat):Int:=if gE G i=true then G else G+2 ^ i
def tL (T:TxR):List Value:=(tA T).toList
def aEA (L:List OpR):Prop:=∀ R,R ∈ L→R.pre.length=R.n1∧R.prf.length=R.n2
def aIA (T:TxR):Prop:=aEA T.L∧T.sig.length=T.m
theorem aJu {T:TxR} {w:World} (h:T.ok w):aIA T:=⟨fun R hR=>⟨((h.ops.ok R hR).pre).len,((h.ops.ok R hR).prf).len⟩,h.sig.len⟩
theorem aFZ {w:World} {b o:Nat} {R:OpR} (h:w.rangeAt b o (opL R)):w.cell? ⟨b,o+21,none⟩=some (.slice R.A1 R.n1 R.c1)∧w.cell? ⟨b,o+22,none⟩=some (.slice R.A2 R.n2 R.c2) :=
 ⟨h 21 _ rfl,h 22 _ rfl⟩
section
variable {α β:Type} [RowT α] [DecidableEq β] {V:α→β} {lt0:α→α→Bool} {lt:β→β→Bool} {d d':Array α} {n:Nat}
theorem aKS (hlt:∀ x y,lt0 x y=lt (V x) (V y)) (hn:d'.size=n) (hs:Sort.SortedIn lt0 0 n d'):Wsc lt (d'.toList.map V):=by
 unfold Wsc
 rw [List.pairwise_iff_getElem]
 intro i j hi hj hij
 simp only [List.length_map,Array.length_toList] at hi hj
 have:=hs i j (Nat.zero_le _) hij (by omega)
 rw [hlt,getElem!_pos d' i hi,getElem!_pos d' j hj] at this
 simpa using this
theorem aCp (hd:d.size=n) (hp:Sort.PermIn 0 n d d') (y:β):y ∈ d'.toList.map V ↔ y ∈ d.toList.map V:=by
 obtain ⟨h1,h2,h3⟩:=hp
 have e1:d'.extract 0 n=d':=by rw [← hd,← h1];exact Array.extract_size
 have e2:d.extract 0 n=d:=by rw [← hd];exact Array.extract_size
 rw [e1,e2] at h3
 exact (h3.map V).mem_iff
theorem tB (hS:STO lt) (hlt:∀ x y,lt0 x y=lt (V x) (V y)) (hd:d.size=n) (hp:Sort.PermIn 0 n d d') (hs:Sort.SortedIn lt0 0 n d'):compO (d'.toList.map V)=pB lt (d.toList.map V) :=
 aCR hS (aKS hlt (by rw [hp.1,hd]) hs) (aCp hd hp)
end
end
section
open Go.RowKit
attribute [local go_sem ↓] Go.wp_at_zero Go.wp_at_succ
theorem aMv (w:World):(Instr.makeSlice 45 (.int .i64 0) (.int .i64 23)).run Tryz.prog w=.ok (.slice (some ⟨w.heap.size,0,none⟩) 0 23) (w.alloc (.cells (madeCells (Value.int .u8 0).cells 23) 5)):=by
 obtain ⟨i,hi,hz,hs,hby⟩:=bL.get
 have h:=run_make (P:=Tryz.prog) w 45 5 i (.int .u8 0) bL.ut hi hz .i64 .i64 0 23 (by omega) (by omega) (by rw [hby];omega) (by omega)
 simpa [hs] using h
theorem aMY (A:Option Addr) (n c:Nat) (l:List UInt8) (z:Int) (w:World) (h:SlB w A n c l) (hn:n≤140737488351232):Calls Tryz.prog 220 #[.slice A n c,.int .u64 (un (uI z)),.int .i64 2] w fun e w'=>∃ A' c',e=.returned (.slice A' (n+2) c')∧OwnB w' w.heap.size 5 A' (n+2) c' (l ++ beI 2 z)∧Ext w w' :=
 dZ A n c l z 2 (by omega) w h hn
theorem aHf (w:World) (t:TypeId) (x y z u v:Int) (a b c d e:UInt8) (hx:x=(a.toNat:Int)) (hy:y=(b.toNat:Int)) (hz:z=(c.toNat:Int)) (hu:u=(d.toNat:Int)) (hv:v=(e.toNat:Int)) (g:Nat) (hg:w.heap.size=g):SlB (w.alloc (.cells #[.int .u8 x,.int .u8 y,.int .u8 z,.int .u8 u,.int .u8 v] t)) (some ⟨g,0,none⟩) 5 5 [a,b,c,d,e] :=
 SlB.new hg [a,b,c,d,e] (by rw [hx,hy,hz,hu,hv];rfl) (by simp)
theorem zY {w:World} {b o:Nat} {l:List UInt8} (h:w.rangeAt b o (bcs l)) {n c:Nat} (hl:l.length=n) (hc:n≤c) (hm:c≤9223372036854775807):SlB w (some ⟨b,o,none⟩) n c l:=⟨hl,hc,hm,.inr ⟨b,o,rfl,h⟩⟩
theorem aBw (v:VtR) (h:cI v=true) (w:World):Calls Tryz.prog 266 #[.agg (vtA v)] w fun e w'=>∃ A' c',e=.returned (.tuple #[.slice A' 23 c',.bool true])∧OwnB w' w.heap.size 5 A' 23 c' (wG v)∧Ext w w':=by
 have HE:=zh ((Ext.refl w).alloc' (.cells (vtA v) 134))
 have HB:=zh (Blk.new w 134 (vtA v))
 obtain ⟨W0,hW0⟩:∃ W0,w.alloc (.cells (vtA v) 134)=W0:=⟨_,rfl⟩
 rw [hW0] at HE HB
 have hr:W0.rangeAt w.heap.size 0 (vtL v):=aC HB.out
 have HV:=zh (fun (W:World)=>fS v W)
 rw [h] at HV
 have hmk:=aMv
 have u_su:=nS v.su
 clear h
 go_enter Tryz.func266,Tryz.ntmps266
 go_wp2_with (first | (with_reducible refine kJ rfl (.tmp 1) rfl w.heap.size 0 rfl v hr ?_))
 refine (HV.out _).mono ?_
 rintro e w1 ⟨rfl,he1⟩
 have HX:=zh (HE.out.trans he1)
 have HB1:=zh (HB.out.ext he1)
 obtain ⟨a0,a1,a2,a3,a4,a5,a6,a7⟩:=bO HB1.out
 have glt:w.heap.size < w1.heap.size:=by have:=HB1.out.lt;omega
 clear he1 hr hW0 a6 a7
 go_wp2_with (at_builtin;go_must (refine bR bL rfl (.tmp 9) (.tmp 25) rfl w1.heap.size _ _ _ [] rfl ((OwnB.made w1 w1.heap.size _ 23 w1.heap.size rfl (Nat.le_refl _) (by omega) (size_madeCells _ _)).alloc _) _ _ _ [toB v.k,toB v.sl,toB v.ro,toB v.ch,toB v.si] rfl ?r1 (by omega) ?b1 w1 ?w1 ?_))
 case r1=>exact aHf _ _ _ _ _ _ _ _ _ _ _ _ (by first | exact bK _ | (rw [← bK];omega)) (by first | exact bK _ | (rw [← bK];omega)) (by first | exact bK _ | (rw [← bK];omega)) (by first | exact bK _ | (rw [← bK];omega)) (by first | exact bK _ | (rw [← bK];omega)) _ (by simp)
 case b1=>simp;omega
 case w1=>exact Below.alloc (Below.alloc (Below.refl _ _) (Nat.le_refl _) _) (by simp) _
 intro A1 c1 w2 ho2 hw2 hs2
 have HX2:=zh (Below.mono hw2 (Nat.le_refl _):Ext w1 w2)
 have HB2:=zh (HB1.out.ext HX2.out)
 have HO2:=zh ho2
 obtain ⟨a0,a1,a2,a3,a4,a5,a6,a7⟩:=bO HB2.out
 clear ho2 hw2 hs2 hmk a0 a1 a2 a3 a4 a6 a7
 go_wp2_with fail
 refine (aMY A1 5 c1 _ v.su w2 HO2.out.sl (by omega)).mono ?_
 rintro e w3 ⟨A3,c3,rfl,hO3,he3⟩
 have HX3:=zh (Ext.trans HX2.out he3)
 have HB3:=zh (HB1.out.ext HX3.out)
 have HO3:=zh hO3
 have HS3:=zh he3.size
 clear hO3 he3 a5 u_su
 go_wp2_with (at_builtin;go_must (refine bR bL rfl (.tmp 32) (.tmp 34) rfl w2.heap.size _ _ _ _ rfl HO3.out _ 8 8 (nmb v.pa) rfl (zY (aGQ HB3.out) (aG _) (by omega) (by omega)) (by omega) HS3.out w3 ((Below.refl _ _)) ?_))
 intro A4 c4 w4 ho4 hw4 hs4
 have HX4:=zh (Below.trans (Below.mono HX3.out (Nat.le_refl _)) (Below.mono hw4 HX2.out.size):Ext w1 w4)
 have HB4:=zh (HB1.out.ext HX4.out)
 have HO4:=zh ho4
 have HS4:=zh (show w2.heap.size≤w4.heap.size from Nat.le_trans HS3.out hs4)
 clear ho4 hw4 hs4
 go_wp2_with (at_builtin;go_must (refine bR bL rfl (.tmp 36) (.tmp 38) rfl w2.heap.size _ _ _ _ rfl HO4.out _ 8 8 (nmb v.va) rfl (zY (aGP HB4.out) (aG _) (by omega) (by omega)) (by omega) HS4.out w4 ((Below.refl _ _)) ?_))
 intro A5 c5 w5 ho5 hw5 hs5
 have HF:=zh (show OwnB w5 w.heap.size 5 A5 23 c5 (wG v) from by
  have h1:OwnB w5 w.heap.size 5 A5 23 c5 _:=bB (base':=w.heap.size) ho5 (by have:=HX.out.size;have:=HX2.out.size;omega)
  have e:wG v=[toB v.k,toB v.sl,toB v.ro,toB v.ch,toB v.si] ++ beI 2 v.su ++ nmb v.pa ++ nmb v.va:=by simp [wG]
  rw [e]
  exact h1)
 have HG:=zh (HX.out.trans (Below.trans (Below.mono HX4.out (Nat.le_refl _)) (Below.mono hw5 HX2.out.size):Ext w1 w5))
 clear ho5 hw5 hs5
 go_wp2_with fail
 go_ret2
 exact ⟨A5,c5,rfl,HF.out,HG.out⟩
end
end Go.Proofs.YtohmmcahpakokaaGreat
