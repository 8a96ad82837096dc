/- The reference's SameState. -/
import Derived.Test.YtohmmcahpakokaaGreatJ40
import Derived.Test.YtohmmcahpakokaaGreatJ41
import Derived.Test.YtohmmcahpakokaaGreatJ42
set_option maxRecDepth 100000
set_option maxHeartbeats 8000000
set_option linter.unusedVariables false
set_option linter.unusedSimpArgs false
namespace Go.Proofs.YtohmmcahpakokaaGreat
section
open Go.RowKit
attribute [local go_sem ↓] Go.wp_at_zero Go.wp_at_succ
theorem aFe (s t:StR) (w:World) (hs:s.ok w) (ht:t.ok w):Calls Tryz.prog 22 #[.agg (ssA s),.agg (ssA t)] w fun e w'=>e=.returned (.bool (decide (s.V=t.V)))∧Ext w w':=by
 obtain ⟨W,hW⟩:∃ W,(w.alloc (.cells (ssA s) 44)).alloc (.cells (ssA t) 44)=W:=⟨_,rfl⟩
 have HB:=zh (show Blk W w.heap.size 44 (ssA s) from by rw [← hW];exact (Blk.new w 44 (ssA s)).alloc _)
 have HC:=zh (show Blk W (w.heap.size+1) 44 (ssA t) from by rw [← hW];exact Blk.newAt _ _ _ _ (by simp))
 have HE:=zh (show Ext w W from by rw [← hW];exact ((Ext.refl w).alloc' _).alloc' _)
 have HS:=zh hs
 have HT:=zh ht
 have hle:=hs.s3.le
 have hcap:=hs.s3.cap
 have hle2:=ht.s3.le
 have hcap2:=ht.s3.cap
 obtain ⟨q0,q1,q2,q3,q4⟩:=aE HB.out
 obtain ⟨p0,p1,p2,p3,p4⟩:=aE HC.out
 clear hs ht
 by_cases hnm:s.n3=t.n3
 ·have b0 : ((s.n3 : Int) != (t.n3 : Int)) = false := by rw [hnm]; exact bne_self_eq_false _
  have HNM:=zh hnm
  clear hnm
  go_enter Tryz.func22,Tryz.ntmps22
  go_wp2_with fail
  clear b0 q0 q1 q2 q3 q4 p0 p1 p2 p3 p4
  go_loopw [5] (fun vi wr=>∃ k:Nat,vi=.int .i64 (k:Int)∧k≤s.n3∧Hid (∀ j,j < k→nthG s.K j=nthG t.K j)∧Hid (Ext W wr)) (fun i _=>s.n3 - (intOf i).toNat)
  case atStart=>exact ⟨0,rfl,Nat.zero_le _,zh (fun j hj=>absurd hj (Nat.not_lt_zero _)),zh (Ext.refl W)⟩
  case round =>
   obtain ⟨k,rfl,hk,HN,HXW⟩:=hrel
   have HB1:=zh (HB.out.ext HXW.out)
   have HC1:=zh (HC.out.ext HXW.out)
   have HX:=zh (HE.out.trans HXW.out)
   have q2:wr.cell? ⟨w.heap.size,2,none⟩=some (.slice s.A3 s.n3 s.c3):=HB1.out.cell 2
   by_cases hlt:k < s.n3
   ·have i0 : (0 : Int) ≤ (k : Int) := by omega
    have i1:(k:Int) < (s.n3:Int):=by omega
    have hlt2:k < t.n3:=by have:=HNM.out;omega
    have i2:(k:Int) < (t.n3:Int):=by omega
    obtain ⟨d,hd⟩:∃ d,nthG s.K k=d:=⟨_,rfl⟩
    obtain ⟨d2,hd2⟩:∃ d,nthG t.K k=d:=⟨_,rfl⟩
    obtain ⟨b,o,hab,-,-⟩:=HS.out.s3.at (by omega)
    obtain ⟨b2,o2,hab2,-,-⟩:=HT.out.s3.at (by omega)
    have HAB:=zh hab
    have HAB2:=zh hab2
    have HR1:=zh (fun (V:World) (e:Ext w V)=>show V.rangeAt b (o+k * 19) (RowT.enc d) from by
     rw [← hd]
     obtain ⟨b9,o9,e2,hr2,-⟩:=(HS.out.ext e).s3.at (by omega)
     rw [HAB.out] at e2
     injection e2 with e3
     injection e3 with e4 e5
     subst e4
     subst e5
     exact cG (k:=k) hr2 (by rw [HS.out.s3.len];omega))
    have HR2:=zh (fun (V:World) (e:Ext w V)=>show V.rangeAt b2 (o2+k * 19) (RowT.enc d2) from by
     rw [← hd2]
     obtain ⟨b9,o9,e2,hr2,-⟩:=(HT.out.ext e).s3.at (by omega)
     rw [HAB2.out] at e2
     injection e2 with e3
     injection e3 with e4 e5
     subst e4
     subst e5
     exact cG (k:=k) hr2 (by rw [HT.out.s3.len];omega))
    have hw1:lkW d:=by rw [← hd];exact HS.out.s3.nth hlt
    have hw2:lkW d2:=by rw [← hd2];exact HT.out.s3.nth hlt2
    have HNE:=zh (fun W=>aES d d2 hw1 hw2 W)
    obtain ⟨ne,hne⟩:∃ ne,(!decide (d=d2))=ne:=⟨_,rfl⟩
    rw [hne] at HNE
    have HDK:=zh (show (!decide (nthG s.K k=nthG t.K k))=ne from by rw [hd,hd2];exact hne)
    clear hab hab2 hd hd2 hne hw1 hw2
    go_upto_region 6 with fail
    clear q2
    refine wp_region_held_drew (S:=fun V=>Blk V w.heap.size 44 (ssA s)∧Blk V (w.heap.size+1) 44 (ssA t)∧Ext w V) (by kernel_rfl) (⟨HB1.out.drew,HC1.out.drew,HX.out.trans ((Ext.refl _).drew')⟩) (fun aA=>?_)
    refine zz0 [0,1,2,3] ?_;repeat first | refine zz1 ?_ (hy:=by intro W aM;have q9:W.cell? ⟨w.heap.size,2,none⟩=some (.slice (some ⟨b,o,none⟩) s.n3 s.c3):=(by rw [← HAB.out];exact aM.1.cell 2);have q8:W.cell? ⟨w.heap.size+1,2,none⟩=some (.slice (some ⟨b2,o2,none⟩) t.n3 t.c3):=(by rw [← HAB2.out];exact aM.2.1.cell 2);go_simp <;> with_reducible rfl) | refine zz2 ?_ | refine zz9 ?_
    refine zu 4 (v:=.agg (lkA d)) aA ?_ (hy:=by exact aF lkP (by rfl) (.tmp 23) rfl b (o+k * 19) rfl d _ rfl (fun V h=>HR1.out V h.2.2))
    refine zz0 [5,6,7,8] ?_;repeat first | refine zz1 ?_ (hy:=by intro W aM;have q9:W.cell? ⟨w.heap.size,2,none⟩=some (.slice (some ⟨b,o,none⟩) s.n3 s.c3):=(by rw [← HAB.out];exact aM.1.cell 2);have q8:W.cell? ⟨w.heap.size+1,2,none⟩=some (.slice (some ⟨b2,o2,none⟩) t.n3 t.c3):=(by rw [← HAB2.out];exact aM.2.1.cell 2);go_simp <;> with_reducible rfl) | refine zz2 ?_ | refine zz9 ?_
    refine zu 9 (v:=.agg (lkA d2)) aA ?_ (hy:=by exact aF lkP (by rfl) (.tmp 28) rfl b2 (o2+k * 19) rfl d2 _ rfl (fun V h=>HR2.out V h.2.2))
    refine zu 10 (v:=.bool ne) aA ?_ (hy:=by exact cI (by rfl) (.tmp 24) (.tmp 29) (by rfl) (vx:=.agg (lkA d)) (vy:=.agg (lkA d2)) (by rfl) (by rfl) (aHn _ _ _ _ _) HNE.out)
    refine wpAnyH_done (by kernel_rfl) ?_ _
    have HXN:=zh (HXW.out.trans ((Ext.refl _).drew'))
    have HXX:=zh aA.2.2
    clear aA
    cases ne
    ·go_wp2_with fail
     go_roundw
     case rel=>exact ⟨k+1,by go_num,hlt,zh (fun j hj=>by
      rcases (by omega:j < k ∨ j=k) with hj | rfl
      ·exact HN.out j hj
      have h9:=HDK.out
      simpa using h9),HXN⟩
     case measure=>simp [intOf];omega
    have HF:=zh (show decide (s.V=t.V)=false from decide_eq_false (fun e=>by
     have e1:s.K=t.K:=congrArg StV.K e
     have h9:=HDK.out
     rw [e1] at h9
     simp at h9))
    go_wp2_with fail
    go_ret
    exact ⟨by rw [HF.out];rfl,HXX.out⟩
   obtain rfl:k=s.n3:=by omega
   have i1:¬ (s.n3:Int) < (s.n3:Int):=by omega
   have HEK:=zh (show s.K=t.K from qH (by rw [HS.out.s3.len,HT.out.s3.len];exact HNM.out) (fun j hj=>HN.out j (by rw [← HS.out.s3.len];exact hj)))
   clear q2
   have HXr:=HX
   clear HB HC
   obtain ⟨q0,q1,q2,q3,q4⟩:=aE HB1.out
   obtain ⟨p0,p1,p2,p3,p4⟩:=aE HC1.out
   have HD:=zh (lU s.A1 s.n1 s.c1 s.C t.A1 t.n1 t.c1 t.C wr (HS.out.ext HX.out).s1 (HT.out.ext HX.out).s1)
   cases h1:decide (s.C=t.C) with
   | false =>
    rw [h1] at HD
    have HF:=zh (show decide (s.V=t.V)=false from decide_eq_false (fun e=>(of_decide_eq_false h1) (congrArg StV.C e)))
    clear h1
    go_wp2_with fail
    refine HD.out.mono ?_
    rintro e W2 ⟨rfl,he2⟩
    have HX2:=zh (HX.out.trans he2)
    clear he2 q0 q1 q2 q3 q4 p0 p1 p2 p3 p4
    go_wp2_with fail
    go_ret
    exact ⟨by rw [HF.out];rfl,HX2.out⟩
   | true =>
    rw [h1] at HD
    have HE1:=zh (of_decide_eq_true h1)
    clear h1
    go_wp2_with fail
    refine HD.out.mono ?_
    rintro e W2 ⟨rfl,he2⟩
    have HX2:=zh (HX.out.trans he2)
    have HB2:=zh (HB1.out.ext he2)
    have HC2:=zh (HC1.out.ext he2)
    clear he2 q0 q1 q2 q3 q4 p0 p1 p2 p3 p4 HD HB1 HC1
    obtain ⟨q0,q1,q2,q3,q4⟩:=aE HB2.out
    obtain ⟨p0,p1,p2,p3,p4⟩:=aE HC2.out
    have HD:=zh (nR s.A2 s.n2 s.c2 s.Q t.A2 t.n2 t.c2 t.Q W2 (HS.out.ext HX2.out).s2 (HT.out.ext HX2.out).s2)
    cases h2:decide (s.Q=t.Q) with
    | false =>
     rw [h2] at HD
     have HF:=zh (show decide (s.V=t.V)=false from decide_eq_false (fun e=>(of_decide_eq_false h2) (congrArg StV.Q e)))
     clear h2
     go_wp2_with fail
     refine HD.out.mono ?_
     rintro e W3 ⟨rfl,he3⟩
     have HX3:=zh (HX2.out.trans he3)
     clear he3 q0 q1 q2 q3 q4 p0 p1 p2 p3 p4
     go_wp2_with fail
     go_ret
     exact ⟨by rw [HF.out];rfl,HX3.out⟩
    | true =>
     rw [h2] at HD
     have HE2:=zh (of_decide_eq_true h2)
     clear h2
     go_wp2_with fail
     refine HD.out.mono ?_
     rintro e W3 ⟨rfl,he3⟩
     have HX3:=zh (HX2.out.trans he3)
     have HB3:=zh (HB2.out.ext he3)
     have HC3:=zh (HC2.out.ext he3)
     clear he3 q0 q1 q2 q3 q4 p0 p1 p2 p3 p4 HD HB2 HC2
     obtain ⟨q0,q1,q2,q3,q4⟩:=aE HB3.out
     obtain ⟨p0,p1,p2,p3,p4⟩:=aE HC3.out
     have HD:=zh (mO s.A4 s.n4 s.c4 s.P t.A4 t.n4 t.c4 t.P W3 (HS.out.ext HX3.out).s4 (HT.out.ext HX3.out).s4)
     cases h3:decide (s.P=t.P) with
     | false =>
      rw [h3] at HD
      have HF:=zh (show decide (s.V=t.V)=false from decide_eq_false (fun e=>(of_decide_eq_false h3) (congrArg StV.P e)))
      clear h3
      go_wp2_with fail
      refine HD.out.mono ?_
      rintro e W4 ⟨rfl,he4⟩
      have HX4:=zh (HX3.out.trans he4)
      clear he4 q0 q1 q2 q3 q4 p0 p1 p2 p3 p4
      go_wp2_with fail
      go_ret
      exact ⟨by rw [HF.out];rfl,HX4.out⟩
     | true =>
      rw [h3] at HD
      have HF:=zh (show decide (s.V=t.V)=(s.G == t.G) from by
       have e3:=of_decide_eq_true h3
       rw [Bool.eq_iff_iff,decide_eq_true_eq,beq_iff_eq]
       refine ⟨fun e=>congrArg StV.G e,fun e=>?_⟩
       show (⟨s.C,s.Q,s.K,s.P,s.G⟩:StV)=⟨t.C,t.Q,t.K,t.P,t.G⟩
       rw [HE1.out,HE2.out,HEK.out,e3,e])
      clear h3
      go_wp2_with fail
      refine HD.out.mono ?_
      rintro e W4 ⟨rfl,he4⟩
      have HX4:=zh (HX3.out.trans he4)
      have q4:W4.cell? ⟨w.heap.size,4,none⟩=some (.int .i64 s.G):=(HB3.out.ext he4).cell 4
      have p4:W4.cell? ⟨w.heap.size+1,4,none⟩=some (.int .i64 t.G):=(HC3.out.ext he4).cell 4
      clear he4 q0 q1 q2 q3 p0 p1 p2 p3
      go_wp2_with fail
      go_ret
      exact ⟨by rw [HF.out];rfl,HX4.out⟩
 have HF:=zh (show decide (s.V=t.V)=false from decide_eq_false (fun e=>hnm (by have e1:s.K=t.K:=congrArg StV.K e;have h1:=HS.out.s3.len;have h2:=HT.out.s3.len;rw [e1] at h1;omega)))
 have b0:((s.n3:Int) != (t.n3:Int))=true:=bne_iff_ne.2 (by omega)
 clear hnm
 go_enter Tryz.func22,Tryz.ntmps22
 go_wp2_with fail
 go_ret
 exact ⟨by rw [HF.out];rfl,HE.out⟩
section
variable {P:Program} {t e:TypeId} {z:Value} {size bytes:Nat} {ops:Array Oper} {rest:List Oper} {o:Oper} {a:Act} {w:World} {K:Act→World→Prop} {Q:Exit→Act→World→Prop} {X:Prop}
theorem jH (E:Elem P t e z size bytes) (s x:Operand)
  (ho:o.op=.call { callee:=.builtin .append,args:=#[s,x],argTypes:=#[t,t] })
  (base:Nat) (A:Option Addr) (n c:Nat) (xs:List Value) (hs:a.eval s=.slice A n c) (hown:w.ownsRow base e size (.slice A n c) n xs)
  (A2:Option Addr) (m c2:Nat) (ys:List Value) (hx:a.eval x=.slice A2 m c2) (hr:Rd w A2 ys) (hl:ys.length=m * size) (hm:0 < m) (h1:∀ u ∈ ys,u.oneCell'=true)
  (hb:(n+m) * bytes≤140737488355328) (h63:n+m≤4611686018427387904) (hbase:base≤w.heap.size)
  (h:∀ A' c' w',w'.ownsRow base e size (.slice A' (n+m) c') (n+m) (xs ++ ys)→w.grownBy w' (Value.ownBlock (.slice A n c))→(Value.ownBlock (.slice A' (n+m) c')=Value.ownBlock (.slice A n c) ∨ Value.ownBlock (.slice A' (n+m) c')=some w.heap.size)→K (a.put o.dst (.slice A' (n+m) c')) w'):o.wp P a w K Q:=by
 obtain ⟨i,hi,hz,hs',hby⟩:=E.get
 have hcells:∃ ad,A2=some ad∧∀ j u,ys[j]?=some u→w.cell? (ad.add j)=some u:=hr.src (by rw [hl];exact Nat.mul_pos hm E.pos)
 obtain ⟨ad,rfl,hc⟩:=hcells
 obtain ⟨v',w',hrun,h2,h3,_,h5⟩:=run_append_own_at (P:=P) w base t o.type e i z size bytes E.ut hi hz hs' hby E.zs E.pos (.slice A n c) n xs hown ad m c2 ys hl hc h1 (by simp only [maxLen];omega) hb hbase
 obtain ⟨A',c',rfl⟩:=xT h2
 unfold Oper.wp execOp
 simp only [ho,resolve,invoke,builtin,Sem.run_bind,Sem.run_pure,Result.andThen_ok,List.map_toArray,List.map_cons,List.map_nil,hs,hx,hrun]
 exact h A' c' w' h2 h3 h5
theorem yT (E:Elem P t e z size bytes) (hgd:o.guard=none) (s x:Operand)
  (ho:o.op=.call { callee:=.builtin .append,args:=#[s,x],argTypes:=#[t,t] })
  (base:Nat) (A:Option Addr) (n c:Nat) (xs:List Value) (hs:a.eval s=.slice A n c) (hown:w.ownsRow base e size (.slice A n c) n xs)
  (A2:Option Addr) (m c2:Nat) (ys:List Value) (hx:a.eval x=.slice A2 m c2) (hr:Rd w A2 ys) (hl:ys.length=m * size) (hm:0 < m) (h1:∀ u ∈ ys,u.oneCell'=true)
  (hb:(n+m) * bytes≤140737488355328) (h63:n+m≤4611686018427387904) (hbase:base≤w.heap.size)
  (h:∀ A' c' w',w'.ownsRow base e size (.slice A' (n+m) c') (n+m) (xs ++ ys)→w.grownBy w' (Value.ownBlock (.slice A n c))→(Value.ownBlock (.slice A' (n+m) c')=Value.ownBlock (.slice A n c) ∨ Value.ownBlock (.slice A' (n+m) c')=some w.heap.size)→wpList P ops Q rest (a.put o.dst (.slice A' (n+m) c')) w'):wpList P ops Q (o :: rest) a w :=
 wpList_plain hgd fun K hK=>jH E s x ho base A n c xs hs hown A2 m c2 ys hx hr hl hm h1 hb h63 hbase fun A' c' w' h2 h3 h4=>hK _ _ (h A' c' w' h2 h3 h4)
end
theorem cY {P:Program} {ops:Array Oper} {o:Oper} {a:Act} {w:World} {K:Act→World→Prop} {Q:Exit→Act→World→Prop} {X:Prop} (hgd:o.guard=none) (h:o.wp P a w K Q):if Region.wanted o (yielded ops a.tmps)=true then Oper.wp P o a w K Q else X:=by
 have hw:Region.wanted o (yielded ops a.tmps)=true:=by simp [Region.wanted,hgd]
 rw [if_pos hw];exact h
theorem tB {o:Oper} {a:Act} {w:World} {K:Act→World→Prop} {Q:Exit→Act→World→Prop} {ty e:TypeId} (x:Operand) (ho:o.op=.buildSlice ty 1 #[(0,x)]) {vx:Value} {cs:Array Value} (hx:a.eval x=vx) (hr:(Instr.buildSlice ty 1 #[(0,vx)]).run Tryz.prog w=.ok (.slice (some ⟨w.heap.size,0,none⟩) 1 1) (w.alloc (.cells cs e)))
  (h:∀ (g:Nat) (W2:World),Hid (Blk W2 g e cs∧Ext w W2∧w.heap.size≤g)→K (a.put o.dst (.slice (some ⟨g,0,none⟩) 1 1)) W2):o.wp Tryz.prog a w K Q:=by
 have h2:=h _ _ (zh ⟨Blk.new w e cs,(Ext.refl w).alloc' _,Nat.le_refl _⟩)
 unfold Oper.wp
 rw [aCe x ho hx hr]
 exact h2
structure ClF (w0 w:World) (A:Option Addr) (n c:Nat) (N:List UInt64) (B:Option Addr) (m d:Nat) (M:List UInt64) (D:Option Addr) (k f:Nat) (X:List TtR):Prop where
 o1:OwnG w w0.heap.size 30 A n c N
 o2:OwnG w w0.heap.size 30 B m d M
 o3:OwnG w w0.heap.size 24 D k f X
 ap:∀ g,Value.ownBlock (.slice A n c)=some g→Value.ownBlock (.slice B m d) ≠ some g
 ok:∀ T,T ∈ X→RowT.ok T w0
 low:Ext w0 w
section
variable {w0 w w':World} {A:Option Addr} {n c:Nat} {N:List UInt64} {B:Option Addr} {m d:Nat} {M:List UInt64} {D:Option Addr} {k f:Nat} {X:List TtR}
theorem ClF.nil (h:Ext w0 w):ClF w0 w none 0 0 [] none 0 0 [] none 0 0 [] :=
 ⟨OwnG.nil _ _ _,OwnG.nil _ _ _,OwnG.nil _ _ _,(fun g hg=>nomatch hg),(fun T hT=>absurd hT List.not_mem_nil),h⟩
theorem ClF.ext (h:ClF w0 w A n c N B m d M D k f X) (e:Ext w w'):ClF w0 w' A n c N B m d M D k f X :=
 ⟨h.o1.ext e,h.o2.ext e,h.o3.ext e,h.ap,h.ok,h.low.trans e⟩
theorem ClF.sl2 (h:ClF w0 w A n c N B m d M D k f X):SlG w B m d M:=OwnG.sl h.o2 (fun _ _=>trivial)
theorem ClF.apart (h:ClF w0 w A n c N B m d M D k f X) {g:Nat} {t:TypeId} {cs:Array Value} (hg:w.heap.size≤g):some g ≠ Value.ownBlock (.slice A n c):=fun e=>by
 have:=(World.ownsRow.lt h.o1 g e.symm).2
 omega
theorem aEi {e:TypeId} {size:Nat} {xs:List Value} {base:Nat} (h:w.ownsRow base e size (.slice A n c) n xs):∀ g,Value.ownBlock (.slice A n c)=some g→g < w.heap.size:=fun g hg=>(World.ownsRow.lt h g hg).2
theorem aJJ {v v':Value} (h:∀ g,Value.ownBlock v=some g→Value.ownBlock v' ≠ some g):v'.ownBlock=none ∨ v'.ownBlock ≠ v.ownBlock:=by
 cases hv:v'.ownBlock with
 | none=>exact .inl rfl
 | some g=>exact .inr (fun e=>h g e.symm hv)
theorem ClF.pushN (h:ClF w0 w A n c N B m d M D k f X) {x:UInt64} {A':Option Addr} {c':Nat} (ho:w'.ownsRow w0.heap.size 30 8 (.slice A' (n+1) c') (n+1) (gcs N ++ RowT.enc x)) (hg:w.grownBy w' (Value.ownBlock (.slice A n c)))
  (hat:Value.ownBlock (.slice A' (n+1) c')=Value.ownBlock (.slice A n c) ∨ Value.ownBlock (.slice A' (n+1) c')=some w.heap.size):ClF w0 w' A' (n+1) c' (N ++ [x]) B m d M D k f X:=by
 refine ⟨by unfold OwnG;rw [bS,fQ];exact ho,World.ownsRow.kept h.o2 hg (aJJ h.ap),World.ownsRow.kept h.o3 hg (dB h.o3 h.o1 (by decide)),?_,h.ok,Below.grown h.low hg h.low.size (fun q hq=>(World.ownsRow.lt h.o1 q hq).1)⟩
 intro g hg1 hg2
 rcases hat with e | e
 ·exact h.ap g (by rw [← e];exact hg1) hg2
 rw [e] at hg1
 injection hg1 with e1
 have:=aEi h.o2 g hg2
 omega
theorem ClF.pushM (h:ClF w0 w A n c N B m d M D k f X) {x:UInt64} {A':Option Addr} {c':Nat} (ho:w'.ownsRow w0.heap.size 30 8 (.slice A' (m+1) c') (m+1) (gcs M ++ RowT.enc x)) (hg:w.grownBy w' (Value.ownBlock (.slice B m d)))
  (hat:Value.ownBlock (.slice A' (m+1) c')=Value.ownBlock (.slice B m d) ∨ Value.ownBlock (.slice A' (m+1) c')=some w.heap.size):ClF w0 w' A n c N A' (m+1) c' (M ++ [x]) D k f X:=by
 have hap:∀ g,Value.ownBlock (.slice B m d)=some g→Value.ownBlock (.slice A n c) ≠ some g:=fun g h1 h2=>h.ap g h2 h1
 refine ⟨World.ownsRow.kept h.o1 hg (aJJ hap),by unfold OwnG;rw [bS,fQ];exact ho,World.ownsRow.kept h.o3 hg (dB h.o3 h.o2 (by decide)),?_,h.ok,Below.grown h.low hg h.low.size (fun q hq=>(World.ownsRow.lt h.o2 q hq).1)⟩
 intro g hg1 hg2
 rcases hat with e | e
 ·exact hap g (by rw [← e];exact hg2) hg1
 rw [e] at hg2
 injection hg2 with e1
 have:=aEi h.o1 g hg1
 omega
theorem ClF.pushX (h:ClF w0 w A n c N B m d M D k f X) {T:TtR} (hT:RowT.ok T w0) {A':Option Addr} {c':Nat} (ho:w'.ownsRow w0.heap.size 24 3 (.slice A' (k+1) c') (k+1) (gcs X ++ RowT.enc T)) (hg:w.grownBy w' (Value.ownBlock (.slice D k f))):ClF w0 w' A n c N B m d M A' (k+1) c' (X ++ [T]):=by
 refine ⟨World.ownsRow.kept h.o1 hg (dB h.o1 h.o3 (by decide)),World.ownsRow.kept h.o2 hg (dB h.o2 h.o3 (by decide)),by unfold OwnG;rw [bS,fQ];exact ho,h.ap,?_,Below.grown h.low hg h.low.size (fun q hq=>(World.ownsRow.lt h.o3 q hq).1)⟩
 intro U hU
 rcases List.mem_append.1 hU with h1 | h1
 ·exact h.ok U h1
 obtain rfl:=List.mem_singleton.1 h1
 exact hT
end
end
end Go.Proofs.YtohmmcahpakokaaGreat
