/- The reference's SameState. -/
import Derived.Test.YtohmmcahpakokaaGreatC46
import Derived.Test.YtohmmcahpakokaaGreatC47
set_option maxRecDepth 100000
set_option maxHeartbeats 8000000
set_option linter.unusedVariables false
set_option linter.unusedSimpArgs false
namespace Go.Proofs.YtohmmcahpakokaaGreat
open Go.RowKit
attribute [local go_sem ↓] Go.wp_at_zero Go.wp_at_succ
theorem rSame_any (s t:StR) (w:World) (hs:s.ok w) (ht:t.ok w):Calls Tryz.prog 22 #[.agg (ssA s),.agg (ssA t)] w fun e w'=>e=.returned (.bool (decide (s.V=t.V)))∧Ext w w':=by
 obtain ⟨W,hW⟩:∃ W,(w.alloc (.cells (ssA s) 44)).alloc (.cells (ssA t) 44)=W:=⟨_,rfl⟩
 have HB:=zh (show Blk W w.heap.size 44 (ssA s) from by rw [← hW];exact (Blk.new w 44 (ssA s)).alloc _)
 have HC:=zh (show Blk W (w.heap.size+1) 44 (ssA t) from by rw [← hW];exact Blk.newAt _ _ _ _ (by simp))
 have HE:=zh (show Ext w W from by rw [← hW];exact ((Ext.refl w).alloc' _).alloc' _)
 have HS:=zh hs
 have HT:=zh ht
 have hle:=hs.s3.le
 have hcap:=hs.s3.cap
 have hle2:=ht.s3.le
 have hcap2:=ht.s3.cap
 obtain ⟨q0,q1,q2,q3,q4⟩:=ss_facts HB.out
 obtain ⟨p0,p1,p2,p3,p4⟩:=ss_facts HC.out
 clear hs ht
 by_cases hnm:s.n3=t.n3
 ·have b0 : ((s.n3 : Int) != (t.n3 : Int)) = false := by rw [hnm]; exact bne_self_eq_false _
  have HNM:=zh hnm
  clear hnm
  go_enter Tryz.func22,Tryz.ntmps22
  go_wp2_with fail
  clear b0 q0 q1 q2 q3 q4 p0 p1 p2 p3 p4
  go_loopw [5] (fun vi wr=>∃ k:Nat,vi=.int .i64 (k:Int)∧k≤s.n3∧Hid (∀ j,j < k→nthG s.K j=nthG t.K j)∧Hid (Ext W wr)) (fun i _=>s.n3 - (intOf i).toNat)
  case atStart=>exact ⟨0,rfl,Nat.zero_le _,zh (fun j hj=>absurd hj (Nat.not_lt_zero _)),zh (Ext.refl W)⟩
  case round =>
   obtain ⟨k,rfl,hk,HN,HXW⟩:=hrel
   have HB1:=zh (HB.out.ext HXW.out)
   have HC1:=zh (HC.out.ext HXW.out)
   have HX:=zh (HE.out.trans HXW.out)
   have q2:wr.cell? ⟨w.heap.size,2,none⟩=some (.slice s.A3 s.n3 s.c3):=HB1.out.cell 2
   by_cases hlt:k < s.n3
   ·have i0 : (0 : Int) ≤ (k : Int) := by omega
    have i1:(k:Int) < (s.n3:Int):=by omega
    have hlt2:k < t.n3:=by have:=HNM.out;omega
    have i2:(k:Int) < (t.n3:Int):=by omega
    obtain ⟨d,hd⟩:∃ d,nthG s.K k=d:=⟨_,rfl⟩
    obtain ⟨d2,hd2⟩:∃ d,nthG t.K k=d:=⟨_,rfl⟩
    obtain ⟨b,o,hab,-,-⟩:=HS.out.s3.at (by omega)
    obtain ⟨b2,o2,hab2,-,-⟩:=HT.out.s3.at (by omega)
    have HAB:=zh hab
    have HAB2:=zh hab2
    have HR1:=zh (fun (V:World) (e:Ext w V)=>show V.rangeAt b (o+k * 19) (RowT.enc d) from by
     rw [← hd]
     obtain ⟨b9,o9,e2,hr2,-⟩:=(HS.out.ext e).s3.at (by omega)
     rw [HAB.out] at e2
     injection e2 with e3
     injection e3 with e4 e5
     subst e4
     subst e5
     exact el_at (k:=k) hr2 (by rw [HS.out.s3.len];omega))
    have HR2:=zh (fun (V:World) (e:Ext w V)=>show V.rangeAt b2 (o2+k * 19) (RowT.enc d2) from by
     rw [← hd2]
     obtain ⟨b9,o9,e2,hr2,-⟩:=(HT.out.ext e).s3.at (by omega)
     rw [HAB2.out] at e2
     injection e2 with e3
     injection e3 with e4 e5
     subst e4
     subst e5
     exact el_at (k:=k) hr2 (by rw [HT.out.s3.len];omega))
    have hw1:lkW d:=by rw [← hd];exact HS.out.s3.nth hlt
    have hw2:lkW d2:=by rw [← hd2];exact HT.out.s3.nth hlt2
    have HNE:=zh (fun W=>run_neqLk d d2 hw1 hw2 W)
    obtain ⟨ne,hne⟩:∃ ne,(!decide (d=d2))=ne:=⟨_,rfl⟩
    rw [hne] at HNE
    have HDK:=zh (show (!decide (nthG s.K k=nthG t.K k))=ne from by rw [hd,hd2];exact hne)
    clear hab hab2 hd hd2 hne hw1 hw2
    go_upto_region 6 with fail
    clear q2
    refine wp_region_held_drew (S:=fun V=>Blk V w.heap.size 44 (ssA s)∧Blk V (w.heap.size+1) 44 (ssA t)∧Ext w V) (by kernel_rfl) (⟨HB1.out.drew,HC1.out.drew,HX.out.trans ((Ext.refl _).drew')⟩) (fun hHeld=>?_)
    refine zz0 [0,1,2,3] ?_;repeat first | refine zz1 ?_ (hy:=by intro W hSW;have q9:W.cell? ⟨w.heap.size,2,none⟩=some (.slice (some ⟨b,o,none⟩) s.n3 s.c3):=(by rw [← HAB.out];exact hSW.1.cell 2);have q8:W.cell? ⟨w.heap.size+1,2,none⟩=some (.slice (some ⟨b2,o2,none⟩) t.n3 t.c3):=(by rw [← HAB2.out];exact hSW.2.1.cell 2);go_simp <;> with_reducible rfl) | refine zz2 ?_ | refine zz9 ?_
    refine zu 4 (v:=.agg (lkA d)) hHeld ?_ (hy:=by exact yields_loadG lkP (by rfl) (.tmp 23) rfl b (o+k * 19) rfl d _ rfl (fun V h=>HR1.out V h.2.2))
    refine zz0 [5,6,7,8] ?_;repeat first | refine zz1 ?_ (hy:=by intro W hSW;have q9:W.cell? ⟨w.heap.size,2,none⟩=some (.slice (some ⟨b,o,none⟩) s.n3 s.c3):=(by rw [← HAB.out];exact hSW.1.cell 2);have q8:W.cell? ⟨w.heap.size+1,2,none⟩=some (.slice (some ⟨b2,o2,none⟩) t.n3 t.c3):=(by rw [← HAB2.out];exact hSW.2.1.cell 2);go_simp <;> with_reducible rfl) | refine zz2 ?_ | refine zz9 ?_
    refine zu 9 (v:=.agg (lkA d2)) hHeld ?_ (hy:=by exact yields_loadG lkP (by rfl) (.tmp 28) rfl b2 (o2+k * 19) rfl d2 _ rfl (fun V h=>HR2.out V h.2.2))
    refine zu 10 (v:=.bool ne) hHeld ?_ (hy:=by exact yields_cmp (by rfl) (.tmp 24) (.tmp 29) (by rfl) (vx:=.agg (lkA d)) (vy:=.agg (lkA d2)) (by rfl) (by rfl) (guard_Lk _ _ _ _ _) HNE.out)
    refine wpAnyH_done (by kernel_rfl) ?_ _
    have HXN:=zh (HXW.out.trans ((Ext.refl _).drew'))
    have HXX:=zh hHeld.2.2
    clear hHeld
    cases ne
    ·go_wp2_with fail
     go_roundw
     case rel=>exact ⟨k+1,by go_num,hlt,zh (fun j hj=>by
      rcases (by omega:j < k ∨ j=k) with hj | rfl
      ·exact HN.out j hj
      ·have h9 := HDK.out
       simpa using h9),HXN⟩
     case measure=>simp [intOf];omega
    ·have HF:=zh (show decide (s.V=t.V)=false from decide_eq_false (fun e=>by
      have e1:s.K=t.K:=congrArg StV.K e
      have h9:=HDK.out
      rw [e1] at h9
      simp at h9))
     go_wp2_with fail
     go_ret
     exact ⟨by rw [HF.out];rfl,HXX.out⟩
   ·obtain rfl : k = s.n3 := by omega
    have i1:¬ (s.n3:Int) < (s.n3:Int):=by omega
    have HEK:=zh (show s.K=t.K from eq_nthG (by rw [HS.out.s3.len,HT.out.s3.len];exact HNM.out) (fun j hj=>HN.out j (by rw [← HS.out.s3.len];exact hj)))
    clear q2
    have HXr:=HX
    clear HB HC
    obtain ⟨q0,q1,q2,q3,q4⟩:=ss_facts HB1.out
    obtain ⟨p0,p1,p2,p3,p4⟩:=ss_facts HC1.out
    have HD:=zh (rSameDeltas_any s.A1 s.n1 s.c1 s.C t.A1 t.n1 t.c1 t.C wr (HS.out.ext HX.out).s1 (HT.out.ext HX.out).s1)
    cases h1:decide (s.C=t.C) with
    | false =>
     rw [h1] at HD
     have HF:=zh (show decide (s.V=t.V)=false from decide_eq_false (fun e=>(of_decide_eq_false h1) (congrArg StV.C e)))
     clear h1
     go_wp2_with fail
     refine HD.out.mono ?_
     rintro e W2 ⟨rfl,he2⟩
     have HX2:=zh (HX.out.trans he2)
     clear he2 q0 q1 q2 q3 q4 p0 p1 p2 p3 p4
     go_wp2_with fail
     go_ret
     exact ⟨by rw [HF.out];rfl,HX2.out⟩
    | true =>
     rw [h1] at HD
     have HE1:=zh (of_decide_eq_true h1)
     clear h1
     go_wp2_with fail
     refine HD.out.mono ?_
     rintro e W2 ⟨rfl,he2⟩
     have HX2:=zh (HX.out.trans he2)
     have HB2:=zh (HB1.out.ext he2)
     have HC2:=zh (HC1.out.ext he2)
     clear he2 q0 q1 q2 q3 q4 p0 p1 p2 p3 p4 HD HB1 HC1
     obtain ⟨q0,q1,q2,q3,q4⟩:=ss_facts HB2.out
     obtain ⟨p0,p1,p2,p3,p4⟩:=ss_facts HC2.out
     have HD:=zh (rSameInts_any s.A2 s.n2 s.c2 s.Q t.A2 t.n2 t.c2 t.Q W2 (HS.out.ext HX2.out).s2 (HT.out.ext HX2.out).s2)
     cases h2:decide (s.Q=t.Q) with
     | false =>
      rw [h2] at HD
      have HF:=zh (show decide (s.V=t.V)=false from decide_eq_false (fun e=>(of_decide_eq_false h2) (congrArg StV.Q e)))
      clear h2
      go_wp2_with fail
      refine HD.out.mono ?_
      rintro e W3 ⟨rfl,he3⟩
      have HX3:=zh (HX2.out.trans he3)
      clear he3 q0 q1 q2 q3 q4 p0 p1 p2 p3 p4
      go_wp2_with fail
      go_ret
      exact ⟨by rw [HF.out];rfl,HX3.out⟩
     | true =>
      rw [h2] at HD
      have HE2:=zh (of_decide_eq_true h2)
      clear h2
      go_wp2_with fail
      refine HD.out.mono ?_
      rintro e W3 ⟨rfl,he3⟩
      have HX3:=zh (HX2.out.trans he3)
      have HB3:=zh (HB2.out.ext he3)
      have HC3:=zh (HC2.out.ext he3)
      clear he3 q0 q1 q2 q3 q4 p0 p1 p2 p3 p4 HD HB2 HC2
      obtain ⟨q0,q1,q2,q3,q4⟩:=ss_facts HB3.out
      obtain ⟨p0,p1,p2,p3,p4⟩:=ss_facts HC3.out
      have HD:=zh (rSameNames_any s.A4 s.n4 s.c4 s.P t.A4 t.n4 t.c4 t.P W3 (HS.out.ext HX3.out).s4 (HT.out.ext HX3.out).s4)
      cases h3:decide (s.P=t.P) with
      | false =>
       rw [h3] at HD
       have HF:=zh (show decide (s.V=t.V)=false from decide_eq_false (fun e=>(of_decide_eq_false h3) (congrArg StV.P e)))
       clear h3
       go_wp2_with fail
       refine HD.out.mono ?_
       rintro e W4 ⟨rfl,he4⟩
       have HX4:=zh (HX3.out.trans he4)
       clear he4 q0 q1 q2 q3 q4 p0 p1 p2 p3 p4
       go_wp2_with fail
       go_ret
       exact ⟨by rw [HF.out];rfl,HX4.out⟩
      | true =>
       rw [h3] at HD
       have HF:=zh (show decide (s.V=t.V)=(s.G == t.G) from by
        have e3:=of_decide_eq_true h3
        rw [Bool.eq_iff_iff,decide_eq_true_eq,beq_iff_eq]
        refine ⟨fun e=>congrArg StV.G e,fun e=>?_⟩
        show (⟨s.C,s.Q,s.K,s.P,s.G⟩:StV)=⟨t.C,t.Q,t.K,t.P,t.G⟩
        rw [HE1.out,HE2.out,HEK.out,e3,e])
       clear h3
       go_wp2_with fail
       refine HD.out.mono ?_
       rintro e W4 ⟨rfl,he4⟩
       have HX4:=zh (HX3.out.trans he4)
       have q4:W4.cell? ⟨w.heap.size,4,none⟩=some (.int .i64 s.G):=(HB3.out.ext he4).cell 4
       have p4:W4.cell? ⟨w.heap.size+1,4,none⟩=some (.int .i64 t.G):=(HC3.out.ext he4).cell 4
       clear he4 q0 q1 q2 q3 p0 p1 p2 p3
       go_wp2_with fail
       go_ret
       exact ⟨by rw [HF.out];rfl,HX4.out⟩
 ·have HF := zh (show decide (s.V = t.V) = false from decide_eq_false (fun e => hnm (by have e1 : s.K = t.K := congrArg StV.K e; have h1 := HS.out.s3.len; have h2 := HT.out.s3.len; rw [e1] at h1; omega)))
  have b0:((s.n3:Int) != (t.n3:Int))=true:=bne_iff_ne.2 (by omega)
  clear hnm
  go_enter Tryz.func22,Tryz.ntmps22
  go_wp2_with fail
  go_ret
  exact ⟨by rw [HF.out];rfl,HE.out⟩
section
variable {ops:Array Oper} {rest:List Oper} {o o2:Oper} {a:Act} {w:World} {K:Act→World→Prop} {Q:Exit→Act→World→Prop}
theorem wpList_newB (hgd:o.guard=none) (ty:TypeId) (x y:Operand) (ho:o.op=.store ty x y) (cs ds:Array Value) (v:Value) (hv:Value.agg ds=v) (hx:a.eval x=.pointer (some ⟨w.heap.size,0,none⟩)) (hy:a.eval y=v) (hcs:ds.size=cs.size) (hi:(Tryz.prog.info? ty).map (·.size)=some ds.size) (h1:ds.all (·.oneCell')=true)
  (h:∀ W2 g,Hid (Blk W2 g ty ds∧Ext w W2∧w.heap.size=g)→wpList Tryz.prog ops Q rest (a.put o.dst undef) W2):wpList Tryz.prog ops Q (o :: rest) a (w.alloc (.cells cs ty)):=by
 subst hv
 refine wpList_store_mid hgd ty x y ho w.heap.size 0 ds hx hy (by rw [hcs];exact there_of_blk (Blk.new w ty cs)) hi h1 ?_
 rw [setCells_whole w ty cs ds hcs]
 exact h _ _ (zh ⟨Blk.new w ty ds,(Ext.refl w).alloc' _,rfl⟩)
theorem wpList_storeB (hgd:o.guard=none) (ty:TypeId) (x y:Operand) (ho:o.op=.store ty x y) (g:Nat) (cs ds:Array Value) (v:Value) (hv:Value.agg ds=v) (hx:a.eval x=.pointer (some ⟨g,0,none⟩)) (hy:a.eval y=v) (hcs:ds.size=cs.size) (hi:(Tryz.prog.info? ty).map (·.size)=some ds.size) (h1:ds.all (·.oneCell')=true) (hb:Blk w g ty cs)
  (h:∀ W2,Hid (Blk W2 g ty ds∧w.setCells g 0 ds.toList=W2)→wpList Tryz.prog ops Q rest (a.put o.dst undef) W2):wpList Tryz.prog ops Q (o :: rest) a w:=by
 subst hv
 exact wpList_store_mid hgd ty x y ho g 0 ds hx hy (by rw [hcs];exact there_of_blk hb) hi h1 (h _ (zh ⟨blk_whole hb hcs,rfl⟩))
end
theorem opW_cells (n:Int):opA (opW n none 0 none 0)=#[.int .i64 1,.int .i64 1,.int .i64 n,.int .i64 0,.int .i64 0,.int .u8 0,.int .u8 0,.int .u8 0,.int .u8 0,.int .u8 0,.int .u8 0,.int .u8 0,.int .u8 0,.int .u8 0,.int .u8 0,.int .u8 0,.int .u8 0,.int .u8 0,.int .u8 0,.int .u8 0,.int .u8 0,.slice none 0 0,.slice none 0 0]:=by
 unfold opA opW;simp only [nb8_nil 0 (by omega),nb8_nil 1 (by omega),nb8_nil 2 (by omega),nb8_nil 3 (by omega),nb8_nil 4 (by omega),nb8_nil 5 (by omega),nb8_nil 6 (by omega),nb8_nil 7 (by omega)]
theorem slO_W (n:Int) (w:World) (g:Nat) (t:TypeId) (h:Blk w g t (opA (opW n none 0 none 0))):SlO w (some ⟨g,0,none⟩) 1 1 [opW n none 0 none 0] :=
 ⟨rfl,Nat.le_refl _,by omega,by
  have e:ocs [opW n none 0 none 0]=(opA (opW n none 0 none 0)).toList:=by rw [ocs_cons,ocs_nil,List.append_nil];rfl
  rw [e];exact Rd.of_blk h,fun R hR=>by
  rw [List.mem_singleton] at hR
  subst hR
  exact ⟨SlB.nil w,SlB.nil w⟩⟩
def tS (n:Int) (A:Option Addr) (c:Nat) (S:Option Addr) (m d:Nat) (A1:Option Addr) (c1:Nat) (A2:Option Addr) (c2:Nat) (sg:List UInt8):TxR:=⟨0,0,A,1,c,S,m,d,[opW n A1 c1 A2 c2],sg⟩
def Sg22 (n:Int) (w:World) (e:Ending) (w':World):Prop:=∃ (A:Option Addr) (c:Nat) (S:Option Addr) (m d:Nat) (A1:Option Addr) (c1:Nat) (A2:Option Addr) (c2:Nat) (sg:List UInt8),e=.returned (.tuple #[.agg (stA 0 0 A 1 c S m d),.int .i64 0])∧(tS n A c S m d A1 c1 A2 c2 sg).ok w'∧vSg (pubV seedOne 1) (tS n A c S m d A1 c1 A2 c2 sg)=true∧Ext w w'
theorem sign22_any (n:Int) (hn:n=6 ∨ n=4) (w:World):Calls Tryz.prog 41 #[.agg #[.int .u8 1,.int .u8 0,.int .u8 0,.int .u8 0,.int .u8 0,.int .u8 0,.int .u8 0,.int .u8 0],.agg #[.int .i64 0,.int .i64 0,.slice (some ⟨w.heap.size,0,none⟩) 1 1]] (w.alloc (.cells #[.int .i64 1,.int .i64 1,.int .i64 n,.int .i64 0,.int .i64 0,.int .u8 0,.int .u8 0,.int .u8 0,.int .u8 0,.int .u8 0,.int .u8 0,.int .u8 0,.int .u8 0,.int .u8 0,.int .u8 0,.int .u8 0,.int .u8 0,.int .u8 0,.int .u8 0,.int .u8 0,.int .u8 0,.slice none 0 0,.slice none 0 0] 69)) (Sg22 n w):=by
 rw [← seedOne_cells,← opW_cells n]
 refine (refSignTx_any seedOne 0 0 (some ⟨w.heap.size,0,none⟩) 1 1 [opW n none 0 none 0] _ (slO_W n _ _ 69 (Blk.new w _ _))).mono ?_
 have hV:vTx 0 0 [opW n none 0 none 0]=true:=by rcases hn with rfl | rfl;exact vW6 none 0 none 0;exact vW4 none 0 none 0
 rintro e w' ⟨he,h⟩
 rcases h with ⟨h,-⟩ | ⟨-,T,rfl,hT,hv⟩
 ·rw [hV] at h;cases h
 ·have hl:OpLens [opW n none 0 none 0]:=by
   intro R hR
   rw [List.mem_singleton] at hR
   subst hR
   exact ⟨rfl,rfl⟩
  have h1:=vSg_right seedOne _ 0 0 _ rfl hl hV T (lens_of hT) hv
  obtain ⟨ac,sq,A,k,c,S,m,d,L,sg⟩:=T
  unfold TxR.v at hv
  simp only [Prod.mk.injEq] at hv
  obtain ⟨rfl,rfl,h3,h4⟩:=hv
  have hops:=hT.ops
  simp only at hops h3 h4
  obtain ⟨A1,c1,A2,c2,rfl⟩:=ops_of hops.ok h3
  have h5:1=k:=hops.len
  subst h5
  exact ⟨A,c,S,m,d,A1,c1,A2,c2,sg,rfl,hT,h1,((Ext.refl w).alloc' _).trans he⟩
theorem aw_s6 (H:List UInt8→UInt64) (ev:OpR→Bool) (A1:Option Addr) (c1:Nat) (A2:Option Addr) (c2:Nat):exeS (chkO 2 1 1 H ev 0) true 2 true S22 0 0 [opW 6 A1 c1 A2 c2]=S22:=by kernel_rfl
theorem slZ_of {w:World} {A:Option Addr} {n c:Nat} {l:List Int} (h:SlG w A n c l):SlZ w A n c l:=⟨h.len,h.le,h.cap,by
 have e:gcs l=ics l:=by
  induction l with
  | nil=>rfl
  | cons x r ih =>
   clear h ih
   generalize x :: r=L
   induction L with
   | nil=>rfl
   | cons y q iq=>rw [gcs_cons,iq];rfl
 rw [← e];exact h.rd⟩
theorem S22_bd {w:World} {s:StR} (h:s.ok w) (hv:s.V=S22):s.n1≤200000∧s.n2≤200000∧s.n3≤200000∧s.n4≤200000:=by
 rw [S22_v] at hv
 have e1:s.C=_:=congrArg StV.C hv
 have e2:s.Q=_:=congrArg StV.Q hv
 have e3:s.K=_:=congrArg StV.K hv
 have e4:s.P=_:=congrArg StV.P hv
 have l1:=h.s1.len
 have l2:=h.s2.len
 have l3:=h.s3.len
 have l4:=h.s4.len
 rw [e1] at l1;rw [e2] at l2;rw [e3] at l3;rw [e4] at l4
 simp only [List.length_cons,List.length_nil] at l1 l2 l3 l4
 omega
theorem exec22_any (n:Int) (hn:n=6 ∨ n=4) (s:StR) (hv:s.V=S22) (B1 B2 B3 A:Option Addr) (c:Nat) (S:Option Addr) (m d:Nat) (A1:Option Addr) (c1:Nat) (A2:Option Addr) (c2:Nat) (sg:List UInt8) (w:World) (hs:s.ok w) (hN:SlG w B2 2 2 [pubV seedOne 1,pubV seedTwo 1]) (hB:SlG w B3 2 2 [(5:Int),0]) (hT:(tS n A c S m d A1 c1 A2 c2 sg).ok w) (hg:vSg (pubV seedOne 1) (tS n A c S m d A1 c1 A2 c2 sg)=true) :
  Calls Tryz.prog 20 #[.agg (genC 1 3 B1 1 1 B2 2 2 B3 2 2),.agg (ssA s),.agg (stA 0 0 A 1 c S m d),.int .i64 1] w (fun e w'=>∃ (s2:StR) (A9:Option Addr) (n9 c9:Nat) (g9:Int),e=.returned (.tuple #[.agg (ssA s2),.agg (rcA ⟨if n=6 then 100 else 0,A9,n9,c9,if n=6 then 0 else 4,g9⟩)])∧s2.ok w'∧(n=6→s2.V=S22)∧(n=4→s2.C=[⟨balC 0,1⟩,⟨balC 1,4⟩,⟨stkC 0,3⟩]∧n9=2)∧Ext w w'):=by
 have hA:=execute_any ⟨1,3,B1,1,1,B2,2,2,B3,2,2,s,0,0,A,1,c,1⟩ S m d [opW n A1 c1 A2 c2] sg [pubV seedOne 1,pubV seedTwo 1] [5,0] (fun _=>false) true true _ w hs hT hN (slZ_of hB) (show (1:Nat)≤9223372036854775807 from by decide) (S22_bd hs hv) (by
  intro R hR
  rw [List.mem_singleton] at hR
  subst hR
  exact Nat.zero_le _) vldW hg rfl (by
  intro R hR hk
  rw [List.mem_singleton] at hR
  subst hR
  exact absurd (show (1:Int)=6 from hk) (by decide))
 refine hA.mono ?_
 simp only
 rw [hv]
 rintro e w' ⟨s2,A9,n9,c9,rfl,ho,hV,hl,he⟩
 rcases hn with rfl | rfl
 ·rw [aw_c6] at hl ⊢
  rw [aw_s6] at hV ⊢
  exact ⟨s2,A9,n9,c9,_,rfl,ho.ok,fun _=>hV,fun h=>absurd h (by decide),he⟩
 ·rw [aw_c4] at hl ⊢
  refine ⟨s2,A9,n9,c9,rcG 0 S22 (exeS (chkO 2 1 1 sumU (fun _=>false) 0) true 2 true S22 0 0 [opW 4 A1 c1 A2 c2]),?_,ho.ok,fun h=>absurd h (by decide),fun _=>⟨?_,?_⟩,he⟩
  ·rw [if_neg (by decide),if_neg (by decide),show rcO 0 0 0 [opW 4 A1 c1 A2 c2]=4 from by unfold rcO;rw [if_pos rfl,aw_o4]]
  ·exact (congrArg StV.C hV).trans (aw_s4 _ _ A1 c1 A2 c2)
  ·have h1 := hl.len
   unfold rcE at h1
   rw [if_pos rfl,aw_e4] at h1
   exact h1.symm
end Go.Proofs.YtohmmcahpakokaaGreat
