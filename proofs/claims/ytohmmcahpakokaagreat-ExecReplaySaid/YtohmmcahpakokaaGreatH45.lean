/- The reference's SameState. -/
import Derived.Test.YtohmmcahpakokaaGreatH41
set_option maxRecDepth 100000
set_option maxHeartbeats 8000000
set_option linter.unusedVariables false
set_option linter.unusedSimpArgs false
namespace Go.Proofs.YtohmmcahpakokaaGreat
section
open Go.RowKit
attribute [local go_sem ↓] Go.wp_at_zero Go.wp_at_succ
theorem qY (s t:StR) (w:World) (hs:s.ok w) (ht:t.ok w):Calls Tryz.prog 22 #[.agg (ssA s),.agg (ssA t)] w fun e w'=>e=.returned (.bool (decide (s.V=t.V)))∧Ext w w':=by
 obtain ⟨W,hW⟩:∃ W,(w.alloc (.cells (ssA s) 44)).alloc (.cells (ssA t) 44)=W:=⟨_,rfl⟩
 have HB:=zh (show Blk W w.heap.size 44 (ssA s) from by rw [← hW];exact (Blk.new w 44 (ssA s)).alloc _)
 have HC:=zh (show Blk W (w.heap.size+1) 44 (ssA t) from by rw [← hW];exact Blk.newAt _ _ _ _ (by simp))
 have HE:=zh (show Ext w W from by rw [← hW];exact ((Ext.refl w).alloc' _).alloc' _)
 have HS:=zh hs
 have HT:=zh ht
 have hle:=hs.s3.le
 have hcap:=hs.s3.cap
 have hle2:=ht.s3.le
 have hcap2:=ht.s3.cap
 obtain ⟨q0,q1,q2,q3,q4⟩:=aE HB.out
 obtain ⟨p0,p1,p2,p3,p4⟩:=aE HC.out
 clear hs ht
 by_cases hnm:s.n3=t.n3
 ·have b0 : ((s.n3 : Int) != (t.n3 : Int)) = false := by rw [hnm]; exact bne_self_eq_false _
  have HNM:=zh hnm
  clear hnm
  go_enter Tryz.func22,Tryz.ntmps22
  go_wp2_with fail
  clear b0 q0 q1 q2 q3 q4 p0 p1 p2 p3 p4
  go_loopw [5] (fun vi wr=>∃ k:Nat,vi=.int .i64 (k:Int)∧k≤s.n3∧Hid (∀ j,j < k→aM s.K j=aM t.K j)∧Hid (Ext W wr)) (fun i _=>s.n3 - (intOf i).toNat)
  case atStart=>exact ⟨0,rfl,Nat.zero_le _,zh (fun j hj=>absurd hj (Nat.not_lt_zero _)),zh (Ext.refl W)⟩
  case round =>
   obtain ⟨k,rfl,hk,HN,HXW⟩:=hrel
   have HB1:=zh (HB.out.ext HXW.out)
   have HC1:=zh (HC.out.ext HXW.out)
   have HX:=zh (HE.out.trans HXW.out)
   have q2:wr.cell? ⟨w.heap.size,2,none⟩=some (.slice s.A3 s.n3 s.c3):=HB1.out.cell 2
   by_cases hlt:k < s.n3
   ·have i0 : (0 : Int) ≤ (k : Int) := by omega
    have i1:(k:Int) < (s.n3:Int):=by omega
    have hlt2:k < t.n3:=by have:=HNM.out;omega
    have i2:(k:Int) < (t.n3:Int):=by omega
    obtain ⟨d,hd⟩:∃ d,aM s.K k=d:=⟨_,rfl⟩
    obtain ⟨d2,hd2⟩:∃ d,aM t.K k=d:=⟨_,rfl⟩
    obtain ⟨b,o,hab,-,-⟩:=HS.out.s3.at (by omega)
    obtain ⟨b2,o2,hab2,-,-⟩:=HT.out.s3.at (by omega)
    have HAB:=zh hab
    have HAB2:=zh hab2
    have HR1:=zh (fun (V:World) (e:Ext w V)=>show V.rangeAt b (o+k * 19) (RowT.enc d) from by
     rw [← hd]
     obtain ⟨b9,o9,e2,hr2,-⟩:=(HS.out.ext e).s3.at (by omega)
     rw [HAB.out] at e2
     injection e2 with e3
     injection e3 with e4 e5
     subst e4
     subst e5
     exact cP (k:=k) hr2 (by rw [HS.out.s3.len];omega))
    have HR2:=zh (fun (V:World) (e:Ext w V)=>show V.rangeAt b2 (o2+k * 19) (RowT.enc d2) from by
     rw [← hd2]
     obtain ⟨b9,o9,e2,hr2,-⟩:=(HT.out.ext e).s3.at (by omega)
     rw [HAB2.out] at e2
     injection e2 with e3
     injection e3 with e4 e5
     subst e4
     subst e5
     exact cP (k:=k) hr2 (by rw [HT.out.s3.len];omega))
    have hw1:lkW d:=by rw [← hd];exact HS.out.s3.nth hlt
    have hw2:lkW d2:=by rw [← hd2];exact HT.out.s3.nth hlt2
    have HNE:=zh (fun W=>aEn d d2 hw1 hw2 W)
    obtain ⟨ne,hne⟩:∃ ne,(!decide (d=d2))=ne:=⟨_,rfl⟩
    rw [hne] at HNE
    have HDK:=zh (show (!decide (aM s.K k=aM t.K k))=ne from by rw [hd,hd2];exact hne)
    clear hab hab2 hd hd2 hne hw1 hw2
    go_upto_region 6 with fail
    clear q2
    refine wp_region_held_drew (S:=fun V=>Blk V w.heap.size 44 (ssA s)∧Blk V (w.heap.size+1) 44 (ssA t)∧Ext w V) (by kernel_rfl) (⟨HB1.out.drew,HC1.out.drew,HX.out.trans ((Ext.refl _).drew')⟩) (fun aA=>?_)
    refine zz0 [0,1,2,3] ?_;repeat first | refine zz1 ?_ (hy:=by intro W aI;have q9:W.cell? ⟨w.heap.size,2,none⟩=some (.slice (some ⟨b,o,none⟩) s.n3 s.c3):=(by rw [← HAB.out];exact aI.1.cell 2);have q8:W.cell? ⟨w.heap.size+1,2,none⟩=some (.slice (some ⟨b2,o2,none⟩) t.n3 t.c3):=(by rw [← HAB2.out];exact aI.2.1.cell 2);go_simp <;> with_reducible rfl) | refine zz2 ?_ | refine zz9 ?_
    refine zu 4 (v:=.agg (lkA d)) aA ?_ (hy:=by exact aG lkP (by rfl) (.tmp 23) rfl b (o+k * 19) rfl d _ rfl (fun V h=>HR1.out V h.2.2))
    refine zz0 [5,6,7,8] ?_;repeat first | refine zz1 ?_ (hy:=by intro W aI;have q9:W.cell? ⟨w.heap.size,2,none⟩=some (.slice (some ⟨b,o,none⟩) s.n3 s.c3):=(by rw [← HAB.out];exact aI.1.cell 2);have q8:W.cell? ⟨w.heap.size+1,2,none⟩=some (.slice (some ⟨b2,o2,none⟩) t.n3 t.c3):=(by rw [← HAB2.out];exact aI.2.1.cell 2);go_simp <;> with_reducible rfl) | refine zz2 ?_ | refine zz9 ?_
    refine zu 9 (v:=.agg (lkA d2)) aA ?_ (hy:=by exact aG lkP (by rfl) (.tmp 28) rfl b2 (o2+k * 19) rfl d2 _ rfl (fun V h=>HR2.out V h.2.2))
    refine zu 10 (v:=.bool ne) aA ?_ (hy:=by exact cK (by rfl) (.tmp 24) (.tmp 29) (by rfl) (vx:=.agg (lkA d)) (vy:=.agg (lkA d2)) (by rfl) (by rfl) (aGx _ _ _ _ _) HNE.out)
    refine wpAnyH_done (by kernel_rfl) ?_ _
    have HXN:=zh (HXW.out.trans ((Ext.refl _).drew'))
    have HXX:=zh aA.2.2
    clear aA
    cases ne
    ·go_wp2_with fail
     go_roundw
     case rel=>exact ⟨k+1,by go_num,hlt,zh (fun j hj=>by
      rcases (by omega:j < k ∨ j=k) with hj | rfl
      ·exact HN.out j hj
      have h9:=HDK.out
      simpa using h9),HXN⟩
     case measure=>simp [intOf];omega
    have HF:=zh (show decide (s.V=t.V)=false from decide_eq_false (fun e=>by
     have e1:s.K=t.K:=congrArg StV.K e
     have h9:=HDK.out
     rw [e1] at h9
     simp at h9))
    go_wp2_with fail
    go_ret
    exact ⟨by rw [HF.out];rfl,HXX.out⟩
   obtain rfl:k=s.n3:=by omega
   have i1:¬ (s.n3:Int) < (s.n3:Int):=by omega
   have HEK:=zh (show s.K=t.K from qI (by rw [HS.out.s3.len,HT.out.s3.len];exact HNM.out) (fun j hj=>HN.out j (by rw [← HS.out.s3.len];exact hj)))
   clear q2
   have HXr:=HX
   clear HB HC
   obtain ⟨q0,q1,q2,q3,q4⟩:=aE HB1.out
   obtain ⟨p0,p1,p2,p3,p4⟩:=aE HC1.out
   have HD:=zh (sJ s.A1 s.n1 s.c1 s.C t.A1 t.n1 t.c1 t.C wr (HS.out.ext HX.out).s1 (HT.out.ext HX.out).s1)
   cases h1:decide (s.C=t.C) with
   | false =>
    rw [h1] at HD
    have HF:=zh (show decide (s.V=t.V)=false from decide_eq_false (fun e=>(of_decide_eq_false h1) (congrArg StV.C e)))
    clear h1
    go_wp2_with fail
    refine HD.out.mono ?_
    rintro e W2 ⟨rfl,he2⟩
    have HX2:=zh (HX.out.trans he2)
    clear he2 q0 q1 q2 q3 q4 p0 p1 p2 p3 p4
    go_wp2_with fail
    go_ret
    exact ⟨by rw [HF.out];rfl,HX2.out⟩
   | true =>
    rw [h1] at HD
    have HE1:=zh (of_decide_eq_true h1)
    clear h1
    go_wp2_with fail
    refine HD.out.mono ?_
    rintro e W2 ⟨rfl,he2⟩
    have HX2:=zh (HX.out.trans he2)
    have HB2:=zh (HB1.out.ext he2)
    have HC2:=zh (HC1.out.ext he2)
    clear he2 q0 q1 q2 q3 q4 p0 p1 p2 p3 p4 HD HB1 HC1
    obtain ⟨q0,q1,q2,q3,q4⟩:=aE HB2.out
    obtain ⟨p0,p1,p2,p3,p4⟩:=aE HC2.out
    have HD:=zh (wQ s.A2 s.n2 s.c2 s.Q t.A2 t.n2 t.c2 t.Q W2 (HS.out.ext HX2.out).s2 (HT.out.ext HX2.out).s2)
    cases h2:decide (s.Q=t.Q) with
    | false =>
     rw [h2] at HD
     have HF:=zh (show decide (s.V=t.V)=false from decide_eq_false (fun e=>(of_decide_eq_false h2) (congrArg StV.Q e)))
     clear h2
     go_wp2_with fail
     refine HD.out.mono ?_
     rintro e W3 ⟨rfl,he3⟩
     have HX3:=zh (HX2.out.trans he3)
     clear he3 q0 q1 q2 q3 q4 p0 p1 p2 p3 p4
     go_wp2_with fail
     go_ret
     exact ⟨by rw [HF.out];rfl,HX3.out⟩
    | true =>
     rw [h2] at HD
     have HE2:=zh (of_decide_eq_true h2)
     clear h2
     go_wp2_with fail
     refine HD.out.mono ?_
     rintro e W3 ⟨rfl,he3⟩
     have HX3:=zh (HX2.out.trans he3)
     have HB3:=zh (HB2.out.ext he3)
     have HC3:=zh (HC2.out.ext he3)
     clear he3 q0 q1 q2 q3 q4 p0 p1 p2 p3 p4 HD HB2 HC2
     obtain ⟨q0,q1,q2,q3,q4⟩:=aE HB3.out
     obtain ⟨p0,p1,p2,p3,p4⟩:=aE HC3.out
     have HD:=zh (uA s.A4 s.n4 s.c4 s.P t.A4 t.n4 t.c4 t.P W3 (HS.out.ext HX3.out).s4 (HT.out.ext HX3.out).s4)
     cases h3:decide (s.P=t.P) with
     | false =>
      rw [h3] at HD
      have HF:=zh (show decide (s.V=t.V)=false from decide_eq_false (fun e=>(of_decide_eq_false h3) (congrArg StV.P e)))
      clear h3
      go_wp2_with fail
      refine HD.out.mono ?_
      rintro e W4 ⟨rfl,he4⟩
      have HX4:=zh (HX3.out.trans he4)
      clear he4 q0 q1 q2 q3 q4 p0 p1 p2 p3 p4
      go_wp2_with fail
      go_ret
      exact ⟨by rw [HF.out];rfl,HX4.out⟩
     | true =>
      rw [h3] at HD
      have HF:=zh (show decide (s.V=t.V)=(s.G == t.G) from by
       have e3:=of_decide_eq_true h3
       rw [Bool.eq_iff_iff,decide_eq_true_eq,beq_iff_eq]
       refine ⟨fun e=>congrArg StV.G e,fun e=>?_⟩
       show (⟨s.C,s.Q,s.K,s.P,s.G⟩:StV)=⟨t.C,t.Q,t.K,t.P,t.G⟩
       rw [HE1.out,HE2.out,HEK.out,e3,e])
      clear h3
      go_wp2_with fail
      refine HD.out.mono ?_
      rintro e W4 ⟨rfl,he4⟩
      have HX4:=zh (HX3.out.trans he4)
      have q4:W4.cell? ⟨w.heap.size,4,none⟩=some (.int .i64 s.G):=(HB3.out.ext he4).cell 4
      have p4:W4.cell? ⟨w.heap.size+1,4,none⟩=some (.int .i64 t.G):=(HC3.out.ext he4).cell 4
      clear he4 q0 q1 q2 q3 p0 p1 p2 p3
      go_wp2_with fail
      go_ret
      exact ⟨by rw [HF.out];rfl,HX4.out⟩
 have HF:=zh (show decide (s.V=t.V)=false from decide_eq_false (fun e=>hnm (by have e1:s.K=t.K:=congrArg StV.K e;have h1:=HS.out.s3.len;have h2:=HT.out.s3.len;rw [e1] at h1;omega)))
 have b0:((s.n3:Int) != (t.n3:Int))=true:=bne_iff_ne.2 (by omega)
 clear hnm
 go_enter Tryz.func22,Tryz.ntmps22
 go_wp2_with fail
 go_ret
 exact ⟨by rw [HF.out];rfl,HE.out⟩
section
variable {o:Oper} {a:Act} {w:World} {K:Act→World→Prop} {Q:Exit→Act→World→Prop}
theorem jM {P:Program} {t e:TypeId} {z:Value} {size bytes:Nat} {ops:Array Oper} {X:Prop} (E:Elem P t e z size bytes) (hgd:o.guard=none) (s x:Operand)
  (ho:o.op=.call { callee:=.builtin .append,args:=#[s,x],argTypes:=#[t,t] })
  (base:Nat) (A:Option Addr) (n c:Nat) (xs:List Value) (hs:a.eval s=.slice A n c) (hown:w.ownsRow base e size (.slice A n c) n xs)
  (A2:Option Addr) (m c2:Nat) (ys:List Value) (hx:a.eval x=.slice A2 m c2) (hr:Rd w A2 ys) (hl:ys.length=m * size) (h1:∀ u ∈ ys,u.oneCell'=true)
  (hb:(n+m) * bytes≤140737488355328) (h63:n+m≤4611686018427387904) (hbase:base≤w.heap.size)
  (h:∀ A' c' w',w'.ownsRow base e size (.slice A' (n+m) c') (n+m) (xs ++ ys)→w.grownBy w' (Value.ownBlock (.slice A n c))→K (a.put o.dst (.slice A' (n+m) c')) w'):if Region.wanted o (yielded ops a.tmps)=true then Oper.wp P o a w K Q else X:=by
 have hw:Region.wanted o (yielded ops a.tmps)=true:=by simp [Region.wanted,hgd]
 rw [if_pos hw]
 exact mE E s x ho base A n c xs hs hown A2 m c2 ys hx hr hl h1 hb h63 hbase h
theorem sY {ty e:TypeId} (x y:Operand) (ho:o.op=.buildSlice ty 2 #[(0,x),(1,y)]) {vx vy:Value} {cs:Array Value} (hx:a.eval x=vx) (hy:a.eval y=vy) (hr:(Instr.buildSlice ty 2 #[(0,vx),(1,vy)]).run Tryz.prog w=.ok (.slice (some ⟨w.heap.size,0,none⟩) 2 2) (w.alloc (.cells cs e)))
  (h:∀ (g:Nat) (W2:World),Hid (Blk W2 g e cs∧Ext w W2)→K (a.put o.dst (.slice (some ⟨g,0,none⟩) 2 2)) W2):o.wp Tryz.prog a w K Q:=by
 have:=h _ _ (zh ⟨Blk.new w e cs,(Ext.refl w).alloc' _⟩)
 unfold Oper.wp
 rw [vG x y ho hx hy hr]
 exact this
end
theorem aFO (s0:StR) (A:Option Addr) (m c:Nat) (l:List DeR) (w:World) (h:s0.ok w) (hl:SlG w A m c l) (hn:s0.n1≤900000∧s0.n2≤1000000∧s0.n3≤1000000∧s0.n4≤1000000) (hm:m≤100000):Calls Tryz.prog 117 #[.agg (ssA s0),.slice A m c] w (gW w (lE s0.V l)):=by
 have HL:=zh hl
 have hmc:=hl.le
 have hcap:=hl.cap
 clear hl
 obtain ⟨W,hW,HB,HR,HE⟩:=en1 w s0
 obtain ⟨q0,q1,q2,q3,q4⟩:=aE HB.out
 have HS0:=zh h
 have HN:=zh hn
 clear h hn
 go_enter Tryz.func117,Tryz.ntmps117
 go_wp2_with fail
 refine (gJ s0 W (HS0.out.ext HE.out) (by have:=HN.out;omega)).mono ?_
 rintro e w5 ⟨s1,rfl,ho1,hv1,he5⟩
 clear q0 q1 q2 q3 q4
 go_upto_region 2 with ((with_reducible refine aF rfl (.tmp 2) (.tmp 7) rfl w.heap.size s1 rfl rfl (HB.out.ext he5) ?_);intro W7 h7)
 obtain ⟨HS7,hk7,HBD⟩:=cpS HS0 (by have:=HN.out;omega) HB HE ho1 hv1 he5 h7
 have HR7:=zh (hk7 _ _ _ HR.out (by omega))
 have HV1:=zh hv1
 clear hk7 h7 ho1 hv1 he5 HB HR HE
 have HL1:=zh HS7.out.own.l1
 have HN1:=zh (show s1.n1≤900000 from by
  have e1:s1.C=s0.C:=congrArg StV.C HV1.out
  have m1:=HL1.out
  have l1:=HS0.out.s1.len
  rw [e1] at m1
  have:=HN.out
  omega)
 have HX7:=zh HS7.out.low
 go_wp2_with fail
 go_loopw [5] (fun vi wr=>∃ (k:Nat) (s:StR),vi=.int .i64 (k:Int)∧k≤m∧Hid (StB w wr w.heap.size s)∧Hid (Blk wr (w.heap.size+1) 44 (ssA ss0))∧Hid (s.V=⟨addL s1.C (l.take k),s1.Q,s1.K,s1.P,s1.G⟩)) (fun i _=>m - (intOf i).toNat)
 case atStart=>exact ⟨0,s1,rfl,Nat.zero_le _,HS7,HR7,zh rfl⟩
 case round =>
  obtain ⟨k,s,rfl,hk,HS,HR,HV⟩:=hrel
  by_cases hlt:k < m
  ·have i0 : (0 : Int) ≤ (k : Int) := by omega
   have i1:(k:Int) < (m:Int):=by omega
   obtain ⟨d,hd⟩:∃ d,aM l k=d:=⟨_,rfl⟩
   obtain ⟨b,o,hab,hrow,-⟩:=(HL.out.ext HS.out.low).at (show 0 < m by omega)
   subst hab
   have hkl:k < l.length:=by rw [HL.out.len];exact hlt
   have HAT:=zh (fun (V:World) (e:Ext wr.drew V)=>show V.rangeAt b (o+k * 11) (RowT.enc d) from by
    rw [← hd]
    obtain ⟨b2,o2,e2,hr2,-⟩:=(HL.out.ext (HS.out.low.trans (((Ext.refl wr).drew').trans e))).at (show 0 < m by omega)
    injection e2 with e3
    injection e3 with e4 e5
    subst e4
    subst e5
    exact cP hr2 hkl)
   have HDR:=zh (fun (V:World) (e:Ext wr.drew V)=>show V.rangeAt b (o+k * 11) (RowT.enc d.c) from aY (k:=10) (HAT.out V e))
   have HDA:=zh (fun (V:World) (e:Ext wr.drew V)=>show V.cell? ⟨b,o+k * 11+10,none⟩=some (.int .i64 d.a) from (HAT.out V e) 10 _ rfl)
   have hdw:deW d:=by rw [← hd];exact HL.out.nth hlt
   obtain ⟨vc,hvc⟩:∃ v,Value.agg (ceA d.c)=v:=⟨_,rfl⟩
   have HVC:=zh hvc
   have HS6:=zh (HS.out.ext ((Ext.refl wr).drew'))
   have HR6:=zh (HR.out.ext ((Ext.refl wr).drew'))
   have hbd:s.n1≤1000000∧s.n2≤1000000∧s.n3≤1000000∧s.n4≤1000000:=by
    have e1:s.C=addL s1.C (l.take k):=congrArg StV.C HV.out
    have e2:s.Q=s1.Q:=congrArg StV.Q HV.out
    have e3:s.K=s1.K:=congrArg StV.K HV.out
    have e4:s.P=s1.P:=congrArg StV.P HV.out
    have m1:=HS.out.own.l1;have m2:=HS.out.own.l2;have m3:=HS.out.own.l3;have m4:=HS.out.own.l4
    have l1:=HS7.out.own.l1;have l2:=HS7.out.own.l2;have l3:=HS7.out.own.l3;have l4:=HS7.out.own.l4
    rw [e1] at m1;rw [e2] at m2;rw [e3] at m3;rw [e4] at m4
    have h5:=lF (l.take k) s1.C
    have h6:(l.take k).length≤100000:=Nat.le_trans (by rw [List.length_take];exact Nat.min_le_right _ _) (by rw [HL.out.len];exact hm)
    have:=HN1.out
    have:=HBD.out
    omega
   have HPUT:=zh (fun (V:World) (e:Ext wr.drew V)=>kV s d.c d.a V (HS6.out.own.ok.ext e) hdw.1 hdw.2 hbd)
   rw [hvc] at HPUT
   have HDD:=zh hd
   have HKL:=zh hkl
   clear hd hrow hvc hdw hbd hkl
   go_upto_region 5 with fail
   refine wp_region_held_drew (S:=fun _=>True) (by kernel_rfl) (trivial) (fun aA=>?_)
   refine zzr [1,2,3,4,6,7,8,9] ?_
   refine zzj (VE 0 (.agg (ssA s)) (VE 5 (vc) (VE 10 (.int .i64 d.a) (VV 11 (fun v V=>∃ s2,v=.agg (ssA s2)∧OwnS V w.heap.size s2∧s2.V=⟨dM s.C d.c d.a,s.Q,s.K,s.P,s.G⟩) VN)))) [(0,some 14),(5,some 19),(10,some 24),(11,some 25)] 1 (fun _ _ h _=>h) (ve (ve (ve (VV.ext (fun v w w' ⟨s2,h1,h2,h3⟩ e=>⟨s2,h1,h2.ext e,h3⟩) VN.ext)))) (zzc ?_ (zzc ?_ (zzc ?_ (zzc ?_ zzn)))) ?_
   ·refine zzp fun W hE hS K hK => ?_
    obtain ⟨q0,q1,q2,q3,q4⟩:=aE (HS6.out.blk.ext hE)
    go_simp
    exact zzF hK (.agg (ssA s))
   ·refine zzp fun W hE hS K hK => ?_
    refine gO ceP (.tmp 18) rfl b (o+k * 11) rfl d.c vc HVC.out (HDR.out W hE) ?_
    exact zzF hK (vc)
   ·refine zzp fun W hE hS K hK => ?_
    have c9:=HDA.out W hE
    go_simp
    exact zzF hK (.int .i64 d.a)
   ·refine zm [(0, some 14), (5, some 19), (10, some 24)] fun env W hE hS hD K hK => ?_
    obtain ⟨h0,h5,h10,-⟩:=zzV hD
    clear hD
    simp only [aJ,h0,h5,h10] at hK ⊢
    clear h0
    clear h5
    clear h10
    go_simp
    go_at_call 42
    refine (HPUT.out _ hE).mono ?_
    rintro e w5 ⟨s2,rfl,ho2,hv2,he5⟩
    exact zzK (hK.out (.agg (ssA s2)) _ (he5) (⟨s2,rfl,aX ho2 (Nat.le_trans HS6.out.low.size hE.size),hv2⟩))
   intro env W hE hS hV
   obtain ⟨h0,h5,h10,h11,-⟩:=zzV hV
   clear hV
   simp only [aJ,h0,h5,h10]
   clear h0
   clear h5
   clear h10
   generalize env 11=x11 at h11 ⊢
   obtain ⟨s2,rfl,ho2,hv2⟩:=h11
   have aA:=hS
   refine za 12 (fun K hK=>?_)
   (refine bE rfl (.tmp 2) (.tmp 25) (by rfl) w.heap.size (.agg (ssA s2)) s2 rfl (by rfl) (by rfl) (HS6.out.blk.ext hE) ?_;intro W9 h9)
   refine hK.out _ _ (trivial) (fun aA=>?_)
   clear hK K
   try simp only [bH]
   refine wpAnyH_done (by kernel_rfl) ?_ _
   have HF:=zh (show StB w W9 w.heap.size s2 from by rw [← h9.out.1];exact StB.start ho2 (HS6.out.blk.ext hE) (HS6.out.low.trans hE) (Nat.le_refl _))
   have HRF:=zh (show Blk W9 (w.heap.size+1) 44 (ssA ss0) from by rw [← h9.out.1];exact (HR6.out.ext hE).grown (aB _ _ _ _) (fun e=>by injection e;omega))
   have HVF:=zh (show s2.V=⟨addL s1.C (l.take (k+1)),s1.Q,s1.K,s1.P,s1.G⟩ from by
    have hh:=HV.out
    rw [hv2,rN HKL.out,HDD.out,show s.C=_ from congrArg StV.C hh,show s.Q=_ from congrArg StV.Q hh,show s.K=_ from congrArg StV.K hh,show s.P=_ from congrArg StV.P hh,show s.G=_ from congrArg StV.G hh])
   clear h9 ho2 hv2 hE hS aA HS6 HR6 HPUT HAT HDR HDA
   go_wp2_with fail
   go_roundw
   case rel=>exact ⟨k+1,s2,by go_num,hlt,HF,HRF,HVF⟩
   case measure=>simp [intOf];omega
  obtain rfl:m=k:=by omega
  have i1:¬ (m:Int) < (m:Int):=by omega
  have HSP:=zh (show s.V=lE s0.V l from by
   have e:s1.V=s0.V:=HV1.out
   rw [HV.out,show l.take m=l from by rw [← HL.out.len];exact List.take_length]
   unfold lE
   rw [← e];rfl)
  go_upto_region 6 with fail
  have HF:=HS
  have HRF:=HR
  obtain ⟨q0,q1,q2,q3,q4⟩:=aE HF.out.blk
  go_wp2_with ((with_reducible refine aF rfl (.tmp 4) (.tmp 26) rfl (w.heap.size+1) (s) rfl rfl HRF.out ?_);intro W9 h9)
  exact rtS _ _ HF.out HRF.out (by omega) h9 (HSP.out)
end
end Go.Proofs.YtohmmcahpakokaaGreat
