/- The reference's cells and comparisons. -/
import Derived.Test.YtohmmcahpakokaaGreatJ37
import Derived.Test.YtohmmcahpakokaaGreatJ42
set_option maxRecDepth 100000
set_option maxHeartbeats 8000000
set_option linter.unusedVariables false
set_option linter.unusedSimpArgs false
namespace Go.Proofs.YtohmmcahpakokaaGreat
section
open Go.RowKit
attribute [local go_sem ↓] Go.wp_at_zero Go.wp_at_succ
theorem iZ (i:Int) (w:World):Calls Tryz.prog 33 #[.int .i64 i] w fun e w'=>e=.returned (.agg (ceA (aZ i)))∧Ext w w':=by
 have HB:=zh (Blk.new w 32 ce0)
 have HX:=zh ((Ext.refl w).alloc' (.cells ce0 32))
 have ht:(w.alloc (.cells ce0 32)).there w.heap.size 0 (RowT.sz CeR):=aT HB.out
 have HV:=zh (show Value.agg (ceA (aZ i))=.agg #[.int .i64 1,.int .i64 i,.int .u8 0,.int .u8 0,.int .u8 0,.int .u8 0,.int .u8 0,.int .u8 0,.int .u8 0,.int .u8 0] by unfold aZ;rw [nK])
 go_enter Tryz.func33,Tryz.ntmps33
 go_wp2_with ((with_reducible refine bK ceP rfl (.tmp 2) (.tmp 4) rfl w.heap.size 0 rfl (aZ i) _ HV.out rfl ht ?_))
 have hst:=aR (ds:=ceA (aZ i)) HB.out rfl
 exact bodyPost_ret (gB rfl _ _ w.heap.size _ rfl (run_loadVar_row _ _ _ _ _ (0,0) _ hst Tryz.underlying32 rfl (by kernel_rfl))) rfl ⟨rfl,Below.setCells' HX.out (Nat.le_refl _) _ _⟩
theorem aDg (i:Int) (w:World):Calls Tryz.prog 49 #[.int .i64 i] w fun e w'=>e=.returned (.agg (ceA (cK i)))∧Ext w w':=by
 have HB:=zh (Blk.new w 32 ce0)
 have HX:=zh ((Ext.refl w).alloc' (.cells ce0 32))
 have ht:(w.alloc (.cells ce0 32)).there w.heap.size 0 (RowT.sz CeR):=aT HB.out
 have HV:=zh (show Value.agg (ceA (cK i))=.agg #[.int .i64 3,.int .i64 i,.int .u8 0,.int .u8 0,.int .u8 0,.int .u8 0,.int .u8 0,.int .u8 0,.int .u8 0,.int .u8 0] by unfold cK;rw [nK])
 go_enter Tryz.func49,Tryz.ntmps49
 go_wp2_with ((with_reducible refine bK ceP rfl (.tmp 2) (.tmp 4) rfl w.heap.size 0 rfl (cK i) _ HV.out rfl ht ?_))
 have hst:=aR (ds:=ceA (cK i)) HB.out rfl
 exact bodyPost_ret (gB rfl _ _ w.heap.size _ rfl (run_loadVar_row _ _ _ _ _ (0,0) _ hst Tryz.underlying32 rfl (by kernel_rfl))) rfl ⟨rfl,Below.setCells' HX.out (Nat.le_refl _) _ _⟩
theorem qX (w:World):Calls Tryz.prog 31 #[] w fun e w'=>e=.returned (.agg (ceA bU))∧Ext w w':=by
 have HB:=zh (Blk.new w 32 ce0)
 have HX:=zh ((Ext.refl w).alloc' (.cells ce0 32))
 have ht:(w.alloc (.cells ce0 32)).there w.heap.size 0 (RowT.sz CeR):=aT HB.out
 have HV:=zh (show Value.agg (ceA bU)=.agg #[.int .i64 4,.int .i64 0,.int .u8 0,.int .u8 0,.int .u8 0,.int .u8 0,.int .u8 0,.int .u8 0,.int .u8 0,.int .u8 0] by unfold bU;rw [nK])
 go_enter Tryz.func31,Tryz.ntmps31
 go_wp2_with ((with_reducible refine bK ceP rfl (.tmp 0) (.tmp 1) rfl w.heap.size 0 rfl bU _ HV.out rfl ht ?_))
 have hst:=aR (ds:=ceA bU) HB.out rfl
 exact bodyPost_ret (gB rfl _ _ w.heap.size _ rfl (run_loadVar_row _ _ _ _ _ (0,0) _ hst Tryz.underlying32 rfl (by kernel_rfl))) rfl ⟨rfl,Below.setCells' HX.out (Nat.le_refl _) _ _⟩
theorem nS (x y:Int) (w:World):Calls Tryz.prog 128 #[.int .i64 x,.int .i64 y] w fun e w'=>e=.returned (.int .i64 (gL x y))∧Ext w w':=by
 rcases Int.lt_trichotomy x y with h | h | h
 ·have HC := zh (iK h)
  go_enter Tryz.func128,Tryz.ntmps128
  go_wp2_with fail
  go_ret
  exact ⟨by rw [HC.out];rfl,Ext.refl w⟩
 ·subst h
  have HC:=zh (iM x)
  go_enter Tryz.func128,Tryz.ntmps128
  go_wp2_with fail
  go_ret
  exact ⟨by rw [HC.out];rfl,Ext.refl w⟩
 have HC:=zh (iL h)
 have h':¬ x < y:=by omega
 go_enter Tryz.func128,Tryz.ntmps128
 go_wp2_with fail
 go_ret
 exact ⟨by rw [HC.out];rfl,Ext.refl w⟩
theorem wW (a b:UInt64) (w:World):Calls Tryz.prog 129 #[.agg (nmc a),.agg (nmc b)] w fun e w'=>e=.returned (.int .i64 (jT a b))∧Ext w w':=by
 obtain ⟨W,hW⟩:∃ W,(w.alloc (.cells (nmc a) 30)).alloc (.cells (nmc b) 30)=W:=⟨_,rfl⟩
 have HA:=zh (show Blk W w.heap.size 30 (nmc a) from by rw [← hW];exact (Blk.new w 30 (nmc a)).alloc _)
 have HB:=zh (show Blk W (w.heap.size+1) 30 (nmc b) from by rw [← hW];exact Blk.newAt _ _ _ _ (by simp))
 have HX:=zh (show Ext w W from by rw [← hW];exact ((Ext.refl w).alloc' _).alloc' _)
 have ra:W.rangeAt w.heap.size 0 (RowT.enc a):=bM HA.out
 have rb:W.rangeAt (w.heap.size+1) 0 (RowT.enc b):=bM HB.out
 rcases Int.lt_trichotomy (un a) (un b) with h | h | h
 ·have HC := zh (show jT a b = -1 from iK h)
  have HL1:=zh (iB a b W)
  rw [show decide (un a < un b)=true from by simp;omega] at HL1
  go_enter Tryz.func129,Tryz.ntmps129
  go_wp2_with (first | (with_reducible refine aB nmP rfl (.tmp 2) rfl w.heap.size 0 rfl a _ rfl ra ?_) | (with_reducible refine aB nmP rfl (.tmp 3) rfl (w.heap.size+1) 0 rfl b _ rfl rb ?_) | fail "A")
  refine HL1.out.mono ?_
  rintro e w5 ⟨rfl,he5⟩
  have HX5:=zh (HX.out.trans he5)
  clear he5 ra rb
  go_wp2_with fail
  go_ret
  exact ⟨by rw [HC.out];rfl,HX5.out⟩
 ·have HC := zh (show jT a b = 0 from by unfold jT; rw [h]; exact iM _)
  have HL1:=zh (iB a b W)
  rw [show decide (un a < un b)=false from by simp;omega] at HL1
  go_enter Tryz.func129,Tryz.ntmps129
  go_wp2_with (first | (with_reducible refine aB nmP rfl (.tmp 2) rfl w.heap.size 0 rfl a _ rfl ra ?_) | (with_reducible refine aB nmP rfl (.tmp 3) rfl (w.heap.size+1) 0 rfl b _ rfl rb ?_) | fail "A")
  refine HL1.out.mono ?_
  rintro e w5 ⟨rfl,he5⟩
  have HX5:=zh (HX.out.trans he5)
  have HL2:=zh (iB b a w5)
  rw [show decide (un b < un a)=false from by simp;omega] at HL2
  have ra:w5.rangeAt w.heap.size 0 (RowT.enc a):=bM (HA.out.ext he5)
  have rb:w5.rangeAt (w.heap.size+1) 0 (RowT.enc b):=bM (HB.out.ext he5)
  clear he5
  go_wp2_with (first | (with_reducible refine aB nmP rfl (.tmp 2) rfl w.heap.size 0 rfl a _ rfl ra ?_) | (with_reducible refine aB nmP rfl (.tmp 3) rfl (w.heap.size+1) 0 rfl b _ rfl rb ?_) | fail "A")
  refine HL2.out.mono ?_
  rintro e w6 ⟨rfl,he6⟩
  have HX6:=zh (HX5.out.trans he6)
  clear he6 ra rb
  go_wp2_with fail
  go_ret
  exact ⟨by rw [HC.out];rfl,HX6.out⟩
 have HC:=zh (show jT a b=1 from iL h)
 have HL1:=zh (iB a b W)
 rw [show decide (un a < un b)=false from by simp;omega] at HL1
 go_enter Tryz.func129,Tryz.ntmps129
 go_wp2_with (first | (with_reducible refine aB nmP rfl (.tmp 2) rfl w.heap.size 0 rfl a _ rfl ra ?_) | (with_reducible refine aB nmP rfl (.tmp 3) rfl (w.heap.size+1) 0 rfl b _ rfl rb ?_) | fail "A")
 refine HL1.out.mono ?_
 rintro e w5 ⟨rfl,he5⟩
 have HX5:=zh (HX.out.trans he5)
 have HL2:=zh (iB b a w5)
 rw [show decide (un b < un a)=true from by simp;omega] at HL2
 have ra:w5.rangeAt w.heap.size 0 (RowT.enc a):=bM (HA.out.ext he5)
 have rb:w5.rangeAt (w.heap.size+1) 0 (RowT.enc b):=bM (HB.out.ext he5)
 clear he5
 go_wp2_with (first | (with_reducible refine aB nmP rfl (.tmp 2) rfl w.heap.size 0 rfl a _ rfl ra ?_) | (with_reducible refine aB nmP rfl (.tmp 3) rfl (w.heap.size+1) 0 rfl b _ rfl rb ?_) | fail "A")
 refine HL2.out.mono ?_
 rintro e w6 ⟨rfl,he6⟩
 have HX6:=zh (HX5.out.trans he6)
 clear he6 ra rb
 go_wp2_with fail
 go_ret
 exact ⟨by rw [HC.out];rfl,HX6.out⟩
theorem nT (a b:CeR) (w:World):Calls Tryz.prog 71 #[.agg (ceA a),.agg (ceA b)] w fun e w'=>e=.returned (.int .i64 (jC a b))∧Ext w w':=by
 obtain ⟨W,hW⟩:∃ W,(w.alloc (.cells (ceA a) 32)).alloc (.cells (ceA b) 32)=W:=⟨_,rfl⟩
 have HA:=zh (show Blk W w.heap.size 32 (ceA a) from by rw [← hW];exact (Blk.new w 32 (ceA a)).alloc _)
 have HB:=zh (show Blk W (w.heap.size+1) 32 (ceA b) from by rw [← hW];exact Blk.newAt _ _ _ _ (by simp))
 have HX:=zh (show Ext w W from by rw [← hW];exact ((Ext.refl w).alloc' _).alloc' _)
 have a0:=HA.out.cell 0
 have b0:=HB.out.cell 0
 have HC1:=zh (nS a.k b.k W)
 have HC2:=zh (fun W=>nS a.id b.id W)
 obtain ⟨x1,hx1⟩:∃ x,gL a.k b.k=x:=⟨_,rfl⟩
 obtain ⟨x2,hx2⟩:∃ x,gL a.id b.id=x:=⟨_,rfl⟩
 rw [hx1] at HC1
 rw [hx2] at HC2
 by_cases h1:x1=0
 ·have c1 : (x1 != 0) = false := by rw [h1]; rfl
  by_cases h2:x2=0
  ·have c2 : (x2 != 0) = false := by rw [h2]; rfl
   have HSP:=zh (show jC a b=jT a.lk b.lk from by unfold jC gJ;rw [hx1,hx2,if_neg (fun h=>h h1),if_neg (fun h=>h h2)];rfl)
   clear h1 h2 hx1 hx2
   go_enter Tryz.func71,Tryz.ntmps71
   go_wp2_with fail
   refine HC1.out.mono ?_
   rintro e w5 ⟨rfl,he5⟩
   have HX5:=zh (HX.out.trans he5)
   have HA5:=zh (HA.out.ext he5)
   have HB5:=zh (HB.out.ext he5)
   have a1:=HA5.out.cell 1
   have b1:=HB5.out.cell 1
   clear he5 a0 b0
   go_wp2_with fail
   refine (HC2.out w5).mono ?_
   rintro e w6 ⟨rfl,he6⟩
   have HX6:=zh (HX5.out.trans he6)
   have ra:w6.rangeAt w.heap.size 2 (RowT.enc a.lk):=nL (HA5.out.ext he6)
   have rb:w6.rangeAt (w.heap.size+1) 2 (RowT.enc b.lk):=nL (HB5.out.ext he6)
   clear he6 a1 b1
   go_wp2_with (first | (with_reducible refine aB nmP rfl (.tmp 23) rfl w.heap.size 2 rfl a.lk _ rfl ra ?_) | (with_reducible refine aB nmP rfl (.tmp 25) rfl (w.heap.size+1) 2 rfl b.lk _ rfl rb ?_) | fail "A")
   refine (wW a.lk b.lk w6).mono ?_
   rintro e w7 ⟨rfl,he7⟩
   have HX7:=zh (HX6.out.trans he7)
   clear he7 ra rb
   go_wp2_with fail
   go_ret
   exact ⟨by rw [HSP.out];rfl,HX7.out⟩
  have c2:(x2 != 0)=true:=bne_iff_ne.2 h2
  have HSP:=zh (show jC a b=x2 from by unfold jC gJ;rw [hx1,hx2,if_neg (fun h=>h h1),if_pos h2])
  clear h1 h2 hx1 hx2
  go_enter Tryz.func71,Tryz.ntmps71
  go_wp2_with fail
  refine HC1.out.mono ?_
  rintro e w5 ⟨rfl,he5⟩
  have HX5:=zh (HX.out.trans he5)
  have HA5:=zh (HA.out.ext he5)
  have HB5:=zh (HB.out.ext he5)
  have a1:=HA5.out.cell 1
  have b1:=HB5.out.cell 1
  clear he5 a0 b0
  go_wp2_with fail
  refine (HC2.out w5).mono ?_
  rintro e w6 ⟨rfl,he6⟩
  have HX6:=zh (HX5.out.trans he6)
  have ra:w6.rangeAt w.heap.size 2 (RowT.enc a.lk):=nL (HA5.out.ext he6)
  have rb:w6.rangeAt (w.heap.size+1) 2 (RowT.enc b.lk):=nL (HB5.out.ext he6)
  clear he6 a1 b1
  clear ra rb
  go_wp2_with fail
  go_ret
  exact ⟨by rw [HSP.out];rfl,HX6.out⟩
 have c1:(x1 != 0)=true:=bne_iff_ne.2 h1
 have HSP:=zh (show jC a b=x1 from by unfold jC gJ;rw [hx1,if_pos h1])
 clear h1 hx1 hx2
 go_enter Tryz.func71,Tryz.ntmps71
 go_wp2_with fail
 refine HC1.out.mono ?_
 rintro e w5 ⟨rfl,he5⟩
 have HX5:=zh (HX.out.trans he5)
 have HA5:=zh (HA.out.ext he5)
 have HB5:=zh (HB.out.ext he5)
 have a1:=HA5.out.cell 1
 have b1:=HB5.out.cell 1
 clear he5 a0 b0
 go_wp2_with fail
 go_ret
 exact ⟨by rw [HSP.out];rfl,HX5.out⟩
theorem vK {o:Oper} {a:Act} (x y:Operand) (ho:o.op=.slice 27 x (some y) none none) (A:Option Addr) (n c k:Nat) (hx:a.eval x=.slice A n c) (hy:a.eval y=.int .i64 (k:Int)) (hkn:k≤n) (hnc:n≤c) (w:World) :
  (execOp a.eval o).run Tryz.prog w=.ok (.value (.slice (if c=k then A else A.map (·.add (k * 11))) (n - k) (c - k))) w:=by
 have i0:(0:Int)≤(k:Int):=by omega
 have i1:(k:Int)≤(n:Int):=by omega
 have i2:(n:Int)≤(c:Int):=by omega
 unfold execOp
 simp only [ho,hx,Option.map,hy]
 go_simp
 split <;> (try rfl) <;> (cases A <;> rfl)
theorem aCc {o:Oper} {a:Act} (x y:Operand) (ho:o.op=.slice 27 x (some y) none none) (A:Option Addr) (n c k:Nat) (hx:a.eval x=.slice A n c) (hy:a.eval y=.int .i64 (k:Int)) (hkn:k≤n) (hnc:n≤c) (A8:Option Addr) (hA:(if c=k then A else A.map (·.add (k * 11)))=A8) (w:World) :
  (execOp a.eval o).run Tryz.prog w=.ok (.value (.slice A8 (n - k) (c - k))) w:=by
 rw [← hA];exact vK x y ho A n c k hx hy hkn hnc w
theorem pC {o:Oper} {a:Act} {w:World} {ops:Array Oper} {rest:List Oper} {Q:Exit→Act→World→Prop} (hgd:o.guard=none) (x y:Operand) (ho:o.op=.slice 27 x (some y) none none) (A:Option Addr) (n c k:Nat) (hx:a.eval x=.slice A n c) (hy:a.eval y=.int .i64 (k:Int)) (hkn:k≤n) (hnc:n≤c)
  (h:∀ A8,Hid ((if c=k then A else A.map (·.add (k * 11)))=A8)→wpList Tryz.prog ops Q rest (a.put o.dst (.slice A8 (n - k) (c - k))) w):wpList Tryz.prog ops Q (o :: rest) a w :=
 gU hgd (vK x y ho A n c k hx hy hkn hnc) (h _ (zh rfl))
theorem Rd.cutG {α:Type} [RowT α] {w:World} {A:Option Addr} {n c k size:Nat} {L:List α} (h:Rd w A (gcs L)) (hsz:RowT.sz α=size) (hl:L.length=n) (hk:k≤n) (hc:n≤c):Rd w (if c=k then A else A.map (·.add (k * size))) (gcs (L.drop k)):=by
 subst hsz
 by_cases e:c=k
 ·have : L.drop k = [] := List.drop_eq_nil_of_le (by omega)
  rw [this,aEq];exact .nil
 have:=h.cut (n:=n) (k:=k) (c:=c) (size:=RowT.sz α) (by rw [aH,hl]) hk hc
 rw [eC] at this
 rw [if_neg (by omega)] at this
 rw [if_neg e]
 exact this
theorem aHQ {α:Type} [RowT α] {P:Program} {t e:TypeId} {z:Value} {size bytes:Nat} (E:Elem P t e z size bytes) (hsz:RowT.sz α=size) {w:World} {base g n c:Nat} {L:List α} {i:Nat} (h:w.ownsRow base e size (.slice (some ⟨g,0,none⟩) n c) n (gcs L)) (hi:i < n) (hn:n≤2305843009213693952) (ad:Addr) (had:(if c=i+1 then ⟨g,0,none⟩ else (⟨g,(i+1) * size,none⟩:Addr))=ad) :
  ∃ W1,(∀ ty,(Builtin.append_ #[t,t] ty #[.slice (some ⟨g,0,none⟩) i c,.slice (some ad) (n - (i+1)) (c - (i+1))]).run P w=.ok (.slice (some ⟨g,0,none⟩) (n - 1) c) W1)∧W1.ownsRow base e size (.slice (some ⟨g,0,none⟩) (n - 1) c) (n - 1) (gcs (L.take i ++ L.drop (i+1)))∧w.grownBy W1 (some g):=by
 subst hsz
 obtain ⟨hle,hcap⟩:=dN h
 have HLEN:L.length=n:=OwnG.len (e:=e) h
 obtain ⟨ti,hti,htz,htsz,htby⟩:=Elem.get E
 have hsrc0:∀ k v,(gcs L)[k]?=some v→w.cell? ⟨g,k,none⟩=some v:=fun k v hv=>by
  obtain ⟨g',hgg,_,hra⟩:=cF h (by omega)
  obtain rfl:g=g':=by injection hgg with h1;injection h1
  have:=hra k v hv;rwa [Nat.zero_add] at this
 have hdl:(gcs (L.drop (i+1))).length=(n - (i+1)) * RowT.sz α:=by rw [aH,List.length_drop,HLEN]
 have hfit:i * RowT.sz α+(n - (i+1)) * RowT.sz α≤n * RowT.sz α:=by rw [← Nat.add_mul];exact Nat.mul_le_mul_right _ (by omega)
 have hxl:(gcs L).length=n * RowT.sz α:=by rw [aH,HLEN]
 have hnews:∀ j u,(gcs (L.drop (i+1)))[j]?=some u→w.cell? (ad.add j)=some u:=fun j u hu=>by
  have hj:=(List.getElem?_eq_some_iff.1 hu).1
  rw [hdl] at hj
  by_cases hc:c=i+1
  ·have : n - (i + 1) = 0 := by omega
   rw [this] at hj;omega
  rw [← had,if_neg hc,Addr.add_mid]
  refine hsrc0 _ u ?_
  rw [← eC,List.getElem?_drop] at hu
  exact hu
 have hrun:=fun ty=>run_append_room_cells (P:=P) (w:=w) t ty e ti (Elem.ut E) hti g 0 i c ad (n - (i+1)) (c - (i+1)) (gcs (L.drop (i+1))) (by rw [htsz];exact hdl) hnews (cD _) (by omega)
  (fun j hj=>by rw [htsz,Nat.zero_add,h.cellAt (i * RowT.sz α+j) (by omega),List.getElem?_eq_getElem (by omega)];rfl) (fun j hj=>by rw [htsz,Nat.zero_add];exact h.frozenAt _)
 rw [htsz,Nat.zero_add,show i+(n - (i+1))=n - 1 by omega] at hrun
 obtain ⟨s1,s2⟩:=jM (gcs (L.drop (i+1))) (i * RowT.sz α) w (gcs L) (by omega) h
 refine ⟨_,hrun,?_,s2⟩
 have:=sV s1 (i:=n - 1) (by omega) (by simp)
 have hd:=rG L (i:=i) (by rw [HLEN];exact hi)
 rw [HLEN] at hd
 rw [hd] at this
 exact this
end
section
open Go.RowKit
theorem en2 (w:World) (s:StR) (c:Array Value) (t:TypeId):∃ W,((w.alloc (.cells (ssA s) 44)).alloc (.cells c t)).alloc (.cells #[.slice none 0 0,.slice none 0 0,.slice none 0 0,.slice none 0 0,.int .i64 0] 44)=W∧Hid (Blk W w.heap.size 44 (ssA s))∧Hid (Blk W (w.heap.size+1) t c)∧Hid (Blk W (w.heap.size+2) 44 (ssA ss0))∧Hid (Ext w W) :=
 ⟨_,rfl,zh (((Blk.new w 44 (ssA s)).alloc _).alloc _),zh (Blk.alloc (Blk.newAt _ _ _ _ (by simp)) _),zh (Blk.newAt _ _ _ _ (by simp)),zh ((((Ext.refl w).alloc' _).alloc' _).alloc' _)⟩
theorem bdE {w w1:World} {b X:Nat} {s0 s1:StR} (h0:s0.ok w) (ho:OwnS w1 b s1) (e:s1.V=s0.V) (hn:s0.n1≤X∧s0.n2≤X∧s0.n3≤X∧s0.n4≤X):s1.n1≤X∧s1.n2≤X∧s1.n3≤X∧s1.n4≤X:=by
 have e1:s1.C=s0.C:=congrArg StV.C e
 have e2:s1.Q=s0.Q:=congrArg StV.Q e
 have e3:s1.K=s0.K:=congrArg StV.K e
 have e4:s1.P=s0.P:=congrArg StV.P e
 have m1:=ho.l1;have m2:=ho.l2;have m3:=ho.l3;have m4:=ho.l4
 have l1:=h0.s1.len;have l2:=h0.s2.len;have l3:=h0.s3.len;have l4:=h0.s4.len
 rw [e1] at m1;rw [e2] at m2;rw [e3] at m3;rw [e4] at m4
 omega
theorem cpS {w W w5 W7:World} {s0 s1:StR} (HS0:Hid (s0.ok w)) (hn:s0.n1≤1000000∧s0.n2≤1000000∧s0.n3≤1000000∧s0.n4≤1000000) (HB:Hid (Blk W w.heap.size 44 (ssA s0))) (HE:Hid (Ext w W)) (ho1:OwnS w5 W.heap.size s1) (hv1:s1.V=s0.V) (he5:Ext W w5)
  (h7:Hid (w5.setCells w.heap.size 0 (ssA s1).toList=W7)) :
  Hid (StB w W7 w.heap.size s1)∧(∀ x t c,Blk W x t c→x ≠ w.heap.size→Blk W7 x t c)∧Hid (s1.n1≤1000000∧s1.n2≤1000000∧s1.n3≤1000000∧s1.n4≤1000000):=by
 have ho:=bJ ho1 HE.out.size
 refine ⟨zh ?_,fun x t c hx hne=>?_,zh (bdE HS0.out ho hv1 hn)⟩
 ·rw [← h7.out];exact StB.start ho (HB.out.ext he5) (HE.out.trans he5) (Nat.le_refl _)
 rw [← h7.out];exact (hx.ext he5).grown (aC _ _ _ _) (fun e=>hne (by injection e))
theorem rtS {fn:Func} {p:Tmp} {a:Act} {w WF W9:World} {V:StV} {g:Nat} (r:Nat) (s:StR) (HF:StB w WF g s) (HRF:Blk WF r 44 (ssA ss0)) (hr:w.heap.size≤r) (h9:Hid (WF.setCells r 0 (ssA s).toList=W9)) (hV:s.V=V)
  (hres:fn.results=#[.cell p 44]:=by rfl) (hp:a.tmps.getD p undef=.pointer (some ⟨r,0,none⟩):=by rfl) (hd:a.defers=[]:=by rfl):bodyPost Tryz.prog fn (lZ w V) .ret a W9:=by
 have hst:Blk W9 r 44 (ssA s):=by rw [← h9.out];exact aR (ds:=ssA s) HRF rfl
 have how:OwnS W9 w.heap.size s:=by
  rw [← h9.out]
  exact HF.own.kept (aC _ _ _ _) HRF (by decide) (by decide) (by decide) (by decide)
 have hxe:Ext w W9:=by rw [← h9.out];exact Below.setCells' HF.low hr _ _
 exact bodyPost_ret (v:=.agg (ssA s)) (gB hres _ _ r _ hp (run_loadVar_row _ _ _ _ _ (0,0) _ hst Tryz.underlying44 rfl (by kernel_rfl))) hd ⟨s,rfl,how,hV,hxe⟩
end
section
open Go.RowKit
attribute [local go_sem ↓] Go.wp_at_zero Go.wp_at_succ
theorem aBS (p:UInt64→Bool) (x:UInt64):∀ L:List UInt64,(eB p x L).length=L.length+1
 | []=>rfl
 | y :: r=>by
  unfold eB
  split
  ·simp
  simp [aBS p x r]
theorem aFw (P:List UInt64) (n:UInt64):(cM P n).length≤P.length+1:=by
 unfold cM
 split
 ·omega
 rw [aBS];omega
theorem aGD (S:StV) (ac sq:Int) (L:List OpR):(gQ S ac sq L).C.length≤S.C.length+88∧(gQ S ac sq L).Q.length=S.Q.length∧(gQ S ac sq L).K.length≤S.K.length+4∧(gQ S ac sq L).P.length≤S.P.length+1:=by
 unfold gQ
 split
 ·exact ⟨by omega,rfl,by omega,by omega⟩
 rename_i h
 have hv:vTx ac sq L=true:=by
  cases hb:vTx ac sq L with
  | true=>rfl
  | false=>exact absurd (Or.inl hb) h
 obtain ⟨⟨a1,a2,a3,a4,a5,a6⟩,-⟩:=eO hv
 have h5:=aAB ac sq L S L.length
 have h6:=oS ac sq L S L.length
 have h7:=aFw (doN ac sq L S L.length).P (bQ ac sq L)
 simp only
 rw [aGY,h6.1]
 rw [h6.2] at h7 ⊢
 exact ⟨by omega,rfl,by omega,h7⟩
end
section
open Go.ChangeShapes Go.WideShapes Go.ChangeAt Go.RowKit Go.Deep
theorem aIN:Tryz.prog.cellsOf 24=3:=by kernel_rfl
theorem aGM {H:Type} {enc:TypeId × Value→H} {W:World} {base:Nat} {held:Bool} {A:Option Addr} {n c:Nat} {d:DataW H} {q:List MemPlace}
  (h:DataW.Trod enc Tryz.prog W base (fun _=>true) held 67 (.slice A n c) d q):∃ L:List TtR,SlG W A n c L:=by
 obtain ⟨fuel,hf⟩:=h
 obtain ⟨A',n',c',L,e,h1⟩:=jN (α:=TtR) Tryz.underlying67 aIN (fun h=>by
  obtain ⟨ac,sq,A,n,c,L,e,hT⟩:=aGL h
  exact ⟨⟨ac,sq,A,n,c,L⟩,e,hT⟩) (fun y a v hv hc=>by have e:=Option.some.inj hv;subst e;exact hI hc) hf
 have e2:[Value.slice A n c]=[Value.slice A' n' c']:=e
 injection e2 with e3
 injection e3 with e4 e5 e6
 subst e4;subst e5;subst e6
 exact ⟨L,h1⟩
end
end Go.Proofs.YtohmmcahpakokaaGreat
