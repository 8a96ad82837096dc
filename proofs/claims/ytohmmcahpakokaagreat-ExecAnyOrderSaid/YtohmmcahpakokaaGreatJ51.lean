/- The conditions of law22. -/
import Derived.Lib.BytesEntry
import Derived.Test.YtohmmcahpakokaaGreatJ49
import Derived.Test.YtohmmcahpakokaaGreatJ50
set_option maxRecDepth 100000
set_option maxHeartbeats 8000000
set_option linter.unusedVariables false
set_option linter.unusedSimpArgs false
namespace Go.Proofs.YtohmmcahpakokaaGreat
section
open Go.RowKit
attribute [local go_sem ↓] Go.wp_at_zero Go.wp_at_succ
theorem aDr (ac sq:Int) (A:Option Addr) (n c:Nat) (L:List OpR) (w:World) (hS:SlO w A n c L) :
  Calls Tryz.prog 11 #[.agg (txA ac sq A n c)] w (aJi w):=by
 have hle:=hS.le
 have hcap:=hS.cap
 have HL:=zh hS.len
 have hE:=(Ext.refl w).alloc' (.cells (txA ac sq A n c) 24)
 obtain ⟨w0,hw0⟩:∃ w0,w.alloc (.cells (txA ac sq A n c) 24)=w0:=⟨_,rfl⟩
 have q0:(w.alloc (.cells (txA ac sq A n c) 24)).cell? ⟨w.heap.size,2,none⟩=some (.slice A n c):=(Blk.new w 24 (txA ac sq A n c)).cell 2
 have HE:=zh hE
 have HS:=zh (hS.ext hE)
 rw [hw0] at HE HS q0
 clear hS hE
 by_cases h50:50 < n
 ·have d1 : (50 : Int) < (n : Int) := by omega
  go_enter Tryz.func11,Tryz.ntmps11
  go_wp2_with fail
  go_ret
  exact ⟨⟨_,rfl⟩,HE.out⟩
 have d1:decide ((50:Int) < (n:Int))=false:=decide_eq_false (by omega)
 go_enter Tryz.func11,Tryz.ntmps11
 go_wp2_with fail
 clear hw0
 go_loop [3] (fun i=>∃ k:Nat,k≤n∧i=.int .i64 (k:Int)) (fun i=>n - (intOf i).toNat)
 case atStart=>exact ⟨0,Nat.zero_le _,rfl⟩
 case round =>
  obtain ⟨k,hk,rfl⟩:=hrel
  by_cases hlt:k < n
  ·obtain ⟨b, o, rfl, hr, hb⟩ := HS.out.at (by omega)
   have hrt:=kW hr (k:=k) (by rw [HL.out];exact hlt)
   have hok:=HS.out.nth hlt
   have i0:(0:Int)≤(k:Int):=by omega
   have i1:(k:Int) < (n:Int):=by omega
   obtain ⟨R,hR⟩:∃ R,aY L k=R:=⟨_,rfl⟩
   rw [hR] at hrt hok
   obtain ⟨r1,r2⟩:=aFp hrt
   have m1:=hok.pre.le
   have m2:=hok.pre.cap
   have m3:=hok.prf.le
   have m4:=hok.prf.cap
   clear hr hb hrt hok hR
   by_cases hC:5000 < R.n2
   ·have d4 : (5000 : Int) < (R.n2 : Int) := by omega
    go_wp2_with fail
    go_ret
    exact ⟨⟨_,rfl⟩,HE.out⟩
   have d4:decide ((5000:Int) < (R.n2:Int))=false:=decide_eq_false (by omega)
   by_cases hD:5000 < R.n1
   ·have d5 : (5000 : Int) < (R.n1 : Int) := by omega
    go_wp2_with fail
    go_ret
    exact ⟨⟨_,rfl⟩,HE.out⟩
   have d5:decide ((5000:Int) < (R.n1:Int))=false:=decide_eq_false (by omega)
   go_wp2_with fail
   go_round
   case rel=>exact ⟨k+1,by omega,by go_num⟩
   case measure=>simp [intOf];omega
  obtain rfl:k=n:=by omega
  go_wp2_with fail
  go_ret
  exact ⟨⟨_,rfl⟩,HE.out⟩
def aLS (w:World) (s:StR) (e:Ending) (w':World):Prop:=(∃ b,e=.returned (.bool b)∧(b=false→s.n1≤100∧s.n2≤100∧s.n3≤100∧s.n4≤100))∧Ext w w'
theorem aBK (s:StR) (w:World) (h:s.ok w):Calls Tryz.prog 19 #[.agg (ssA s)] w (aLS w s):=by
 obtain ⟨W,hW⟩:∃ W,w.alloc (.cells (ssA s) 44)=W:=⟨_,rfl⟩
 have HB:=zh (show Blk W w.heap.size 44 (ssA s) from by rw [← hW];exact Blk.new w 44 (ssA s))
 have HE:=zh (show Ext w W from by rw [← hW];exact (Ext.refl w).alloc' _)
 have a1:=h.s1.le
 have b1:=h.s1.cap
 have a2:=h.s2.le
 have b2:=h.s2.cap
 have a3:=h.s3.le
 have b3:=h.s3.cap
 have a4:=h.s4.le
 have b4:=h.s4.cap
 obtain ⟨q0,q1,q2,q3,q4⟩:=aE HB.out
 clear h
 by_cases h1:100 < s.n1
 ·have d1 : decide ((100 : Int) < (s.n1 : Int)) = true := decide_eq_true (by omega)
  go_enter Tryz.func19,Tryz.ntmps19
  go_wp2_with fail
  go_ret
  exact ⟨⟨true,rfl,fun h=>by cases h⟩,HE.out⟩
 have d1:decide ((100:Int) < (s.n1:Int))=false:=decide_eq_false (by omega)
 by_cases h2:100 < s.n2
 ·have d2 : decide ((100 : Int) < (s.n2 : Int)) = true := decide_eq_true (by omega)
  go_enter Tryz.func19,Tryz.ntmps19
  go_wp2_with fail
  go_ret
  exact ⟨⟨true,rfl,fun h=>by cases h⟩,HE.out⟩
 have d2:decide ((100:Int) < (s.n2:Int))=false:=decide_eq_false (by omega)
 by_cases h3:100 < s.n3
 ·have d3 : decide ((100 : Int) < (s.n3 : Int)) = true := decide_eq_true (by omega)
  go_enter Tryz.func19,Tryz.ntmps19
  go_wp2_with fail
  go_ret
  exact ⟨⟨true,rfl,fun h=>by cases h⟩,HE.out⟩
 have d3:decide ((100:Int) < (s.n3:Int))=false:=decide_eq_false (by omega)
 have HN:=zh (show s.n1≤100∧s.n2≤100∧s.n3≤100 from by omega)
 clear h1 h2 h3
 go_enter Tryz.func19,Tryz.ntmps19
 go_wp2_with fail
 go_ret
 refine ⟨⟨_,rfl,fun h=>?_⟩,HE.out⟩
 have h4:¬ (100:Int) < (s.n4:Int):=of_decide_eq_false h
 have:=HN.out
 omega
section
variable {ops:Array Oper} {o:Oper} {a:Act} {w:World} {K:Act→World→Prop} {Q:Exit→Act→World→Prop} {X:Prop}
theorem iY (hgd:o.guard=none) (ho:o.op=.alloc 44)
  (h:∀ (g:Nat) (W2:World),Hid (Blk W2 g 44 (ssA ss0)∧Ext w W2∧w.heap.size≤g)→K (a.put o.dst (.pointer (some ⟨g,0,none⟩))) W2):if Region.wanted o (yielded ops a.tmps)=true then Oper.wp Tryz.prog o a w K Q else X:=by
 refine cY hgd ?_
 have this:=rS w
 have h2:=h _ _ (zh ⟨Blk.new w 44 (ssA ss0),(Ext.refl w).alloc' _,Nat.le_refl _⟩)
 clear h
 generalize w.alloc (.cells (ssA ss0) 44)=W2 at *
 unfold Oper.wp execOp
 simp only [ho,Sem.run_bind,Sem.run_pure,this,Result.andThen_ok,Oper.upon]
 exact h2
theorem rP (hgd:o.guard=none) (x:Operand) (ho:o.op=.load 44 x) (g:Nat) (s:StR) (v:Value) (hv:Value.agg (ssA s)=v) (hx:a.eval x=.pointer (some ⟨g,0,none⟩)) (hb:Blk w g 44 (ssA s))
  (h:K (a.put o.dst v) w):if Region.wanted o (yielded ops a.tmps)=true then Oper.wp Tryz.prog o a w K Q else X:=by
 subst hv
 exact cY hgd (wp_load_mid (P:=Tryz.prog) (Q:=Q) (op:=o) (K:=K) 44 x ho g 0 hx (ssA s).toList _ (aD hb) Tryz.underlying44 rfl (by kernel_rfl) h)
end
theorem jB {w W:World} {g:Nat} {vs:List Value} (h:w.setCells g 0 vs=W):w.grownBy W (some g):=by rw [← h];exact aC _ _ _ _
theorem jE {B:Nat} {a w W:World} {g:Nat} {vs:List Value} (h:w.setCells g 0 vs=W) (hl:Below B a w) (hg:B≤g):Below B a W:=by rw [← h];exact Below.setCells' hl hg _ _
structure AoF (w W:World) (g h:Nat) (a b:StR):Prop where
 hg:Blk W g 44 (ssA a)
 hh:Blk W h 44 (ssA b)
 ne:g ≠ h
 bg:w.heap.size≤g
 bh:w.heap.size≤h
 low:Ext w W
 ka:OwnS W w.heap.size a ∨ a.ok w
 kb:OwnS W w.heap.size b ∨ b.ok w
section
variable {w W W':World} {g h:Nat} {a b c:StR}
theorem AoF.ext (H:AoF w W g h a b) (e:Ext W W'):AoF w W' g h a b:=⟨H.hg.ext e,H.hh.ext e,H.ne,H.bg,H.bh,H.low.trans e,H.ka.imp (fun k=>k.ext e) id,H.kb.imp (fun k=>k.ext e) id⟩
theorem AoF.oka (H:AoF w W g h a b):a.ok W:=H.ka.elim OwnS.ok (fun k=>k.ext H.low)
theorem AoF.okb (H:AoF w W g h a b):b.ok W:=H.kb.elim OwnS.ok (fun k=>k.ext H.low)
theorem sY {s:StR} (k:OwnS W w.heap.size s ∨ s.ok w) (hb:Blk W g 44 (ssA a)) (hg:W.grownBy W' (some g)):OwnS W' w.heap.size s ∨ s.ok w :=
 k.imp (fun k=>k.kept hg hb (by decide) (by decide) (by decide) (by decide)) id
theorem AoF.putA (H:AoF w W g h a b) (ho:OwnS W w.heap.size c) (hs:W.setCells g 0 (ssA c).toList=W'∧Blk W' g 44 (ssA c)):AoF w W' g h c b:=by
 have hgr:W.grownBy W' (some g):=by rw [← hs.1];exact aC _ _ _ _
 exact ⟨hs.2,H.hh.grown hgr (fun e=>H.ne (by injection e with e;exact e.symm)),H.ne,H.bg,H.bh,by rw [← hs.1];exact Below.setCells' H.low H.bg _ _,sY (.inl ho) H.hg hgr,sY H.kb H.hg hgr⟩
theorem AoF.putB (H:AoF w W g h a b) (ho:OwnS W w.heap.size c) (hs:W.setCells h 0 (ssA c).toList=W'∧Blk W' h 44 (ssA c)):AoF w W' g h a c:=by
 have hgr:W.grownBy W' (some h):=by rw [← hs.1];exact aC _ _ _ _
 exact ⟨H.hg.grown hgr (fun e=>H.ne (by injection e)),hs.2,H.ne,H.bg,H.bh,by rw [← hs.1];exact Below.setCells' H.low H.bh _ _,sY H.ka H.hh hgr,sY (.inl ho) H.hh hgr⟩
end
theorem aCf (s:StR) (A:Option Addr) (n c:Nat) (L:List TtR) (fr:Int) (w:World) (hs:s.ok w) (hL:SlG w A n c L) (hf:jS fr) :
  Calls Tryz.prog 10 #[.agg (ssA s),.slice A n c,.int .i64 fr] w fun e w'=>e=.returned (.bool true)∧Ext w w':=by
 obtain ⟨W,hW⟩:∃ W,w.alloc (.cells (ssA s) 44)=W:=⟨_,rfl⟩
 have HP:=zh (show Blk W w.heap.size 44 (ssA s) from by rw [← hW];exact Blk.new w 44 (ssA s))
 have HE:=zh (show Ext w W from by rw [← hW];exact (Ext.refl w).alloc' _)
 have HO:=zh hs
 have HS:=zh hL
 have HLEN:=zh hL.len
 have hle:=hL.le
 have hcap:=hL.cap
 unfold jS at hf
 clear hs hL
 obtain ⟨p0,p1,p2,p3,p4⟩:=aE HP.out
 go_enter Tryz.func10,Tryz.ntmps10
 go_wp2_with fail
 refine (aBK s W (HO.out.ext HE.out)).mono ?_
 rintro e w1 ⟨⟨b,rfl,hb⟩,he1⟩
 have HP1:=zh (HP.out.ext he1)
 have HE1:=zh (HE.out.trans he1)
 clear p0 p1 p2 p3 p4 he1 HE hW HP
 cases b with
 | true =>
  go_wp2_with fail
  refine (dI _).mono ?_
  rintro e w9 ⟨rfl,he9⟩
  have HX9:=zh (HE1.out.trans he9)
  clear he9
  go_wp2_with fail
  go_ret
  exact ⟨rfl,HX9.out⟩
 | false =>
  have HNS:=zh (hb rfl)
  clear hb
  obtain ⟨p0,p1,p2,p3,p4⟩:=aE HP1.out
  go_wp2_with fail
  refine (sN s w1 (HO.out.ext HE1.out)).mono ?_
  rintro e w2 ⟨b,rfl,hb,he2⟩
  have HP2:=zh (HP1.out.ext he2)
  have HE2:=zh (HE1.out.trans he2)
  clear p0 p1 p2 p3 p4 he2 HE1 HP1
  cases b with
  | false =>
   go_wp2_with fail
   refine (dI _).mono ?_
   rintro e w9 ⟨rfl,he9⟩
   have HX9:=zh (HE2.out.trans he9)
   clear he9
   go_wp2_with fail
   go_ret
   exact ⟨rfl,HX9.out⟩
  | true =>
   have HVS:=zh (hb rfl)
   clear hb
   by_cases h12:(n:Int) > 12
   ·
    go_wp2_with fail
    refine (dI _).mono ?_
    rintro e w9 ⟨rfl,he9⟩
    have HX9:=zh (HE2.out.trans he9)
    clear he9
    go_wp2_with fail
    go_ret
    exact ⟨rfl,HX9.out⟩
   by_cases h0:(n:Int)=0
   ·have d0 : ((n : Int) == 0) = true := by simp [h0]
    go_wp2_with fail
    refine (dI _).mono ?_
    rintro e w9 ⟨rfl,he9⟩
    have HX9:=zh (HE2.out.trans he9)
    clear he9
    go_wp2_with fail
    go_ret
    exact ⟨rfl,HX9.out⟩
   have d0:((n:Int) == 0)=false:=by simp;omega
   by_cases hf0:fr < 0
   ·
    go_wp2_with fail
    refine (dI _).mono ?_
    rintro e w9 ⟨rfl,he9⟩
    have HX9:=zh (HE2.out.trans he9)
    clear he9
    go_wp2_with fail
    go_ret
    exact ⟨rfl,HX9.out⟩
   by_cases hf1:fr ≥ (n:Int)
   ·
    go_wp2_with fail
    refine (dI _).mono ?_
    rintro e w9 ⟨rfl,he9⟩
    have HX9:=zh (HE2.out.trans he9)
    clear he9
    go_wp2_with fail
    go_ret
    exact ⟨rfl,HX9.out⟩
   obtain ⟨f,rfl⟩:∃ f:Nat,fr=(f:Int):=⟨fr.toNat,by omega⟩
   have hfn:f < n:=by omega
   have hn12:n≤12:=by omega
   have hn0:0 < n:=by omega
   obtain ⟨b,o,hab,-,-⟩:=HS.out.at hn0
   subst hab
   have HTR:=zh (fun (i:Nat) (hi:i < n) (V:World) (e:Ext w V)=>show V.rangeAt b (o+i * 3) (RowT.enc (nthG L i)) from by
    obtain ⟨b2,o2,e2,hr2,-⟩:=(HS.out.ext e).at hn0
    injection e2 with e3
    injection e3 with e4 e5
    subst e4
    subst e5
    exact cG (k:=i) hr2 (by rw [HLEN.out];exact hi))
   have HTK:=zh (fun (i:Nat) (hi:i < n)=>show RowT.ok (nthG L i) w from HS.out.nth hi)
   go_wp2_with fail
   go_loopw [7] (fun v7 wr=>∃ i:Nat,v7=.int .i64 (i:Int)∧i≤n∧Hid (∀ j,j < i→noB (nthG L j).L)∧Hid (Ext w wr)∧Hid (Blk wr w.heap.size 44 (ssA s))) (fun i _=>n - (intOf i).toNat)
   case atStart=>exact ⟨0,rfl,Nat.zero_le _,zh (fun j hj=>absurd hj (Nat.not_lt_zero _)),HE2,HP2⟩
   case round =>
    clear HE2 HP2
    obtain ⟨i,rfl,hi,HB,HX,HP⟩:=hrel
    by_cases hlt:i < n
    ·have i0 : (0 : Int) ≤ (i : Int) := by omega
     have i1:(i:Int) < (n:Int):=by omega
     have hr0:=HTR.out i hlt
     have hk0:=HTK.out i hlt
     obtain ⟨T,hT⟩:∃ T,nthG L i=T:=⟨_,rfl⟩
     rw [hT] at hr0 hk0
     have HTD:=zh hT
     have HTRi:=zh hr0
     have HTKi:=zh hk0
     have hr:=hr0 wr HX.out
     clear hr0 hk0 hT
     go_wp2_with (first | (with_reducible refine aB ttP rfl (.tmp 48) rfl b (o+i * 3) rfl T _ rfl hr ?_))
     refine (aDr T.ac T.sq T.A T.n T.c T.L _ (RowT.ext _ _ _ HTKi.out HX.out)).mono ?_
     rintro e w3 ⟨⟨bl,rfl⟩,he3⟩
     have HX3:=zh (HX.out.trans he3)
     have HP3:=zh (HP.out.ext he3)
     clear hr he3 HX HP
     cases bl with
     | true =>
      go_wp2_with fail
      refine (dI _).mono ?_
      rintro e w9 ⟨rfl,he9⟩
      have HX9:=zh (HX3.out.trans he9)
      clear he9
      go_wp2_with fail
      go_ret
      exact ⟨rfl,HX9.out⟩
     | false =>
      go_wp2_with fail
      go_loopw [8] (fun v8 wr=>∃ k:Nat,v8=.int .i64 (k:Int)∧k≤T.n∧Hid (∀ j,j < k→(aY T.L j).k ≠ 6)∧Hid (Ext w wr)∧Hid (Blk wr w.heap.size 44 (ssA s))) (fun i _=>T.n - (intOf i).toNat)
      case atStart=>exact ⟨0,rfl,Nat.zero_le _,zh (fun j hj=>absurd hj (Nat.not_lt_zero _)),HX3,HP3⟩
      case round =>
       clear HX3 HP3
       obtain ⟨k,rfl,hk,HBK,HX3,HP3⟩:=hrel
       have ht1:=SlO.le HTKi.out
       have ht2:=SlO.cap HTKi.out
       have q2:=HTRi.out _ HX3.out 2 _ rfl
       by_cases hlk:k < T.n
       ·have k0 : (0 : Int) ≤ (k : Int) := by omega
        have k1:(k:Int) < (T.n:Int):=by omega
        obtain ⟨b2,o2,hab2,hr2,-⟩:=SlO.at (SlO.ext HTKi.out HX3.out) (show 0 < T.n by omega)
        obtain ⟨R,hR⟩:∃ R,aY T.L k=R:=⟨_,rfl⟩
        have h1:=kW (k:=k) hr2 (by rw [SlO.len HTKi.out];exact hlk)
        rw [hR] at h1
        have q3:wr.cell? ⟨b2,o2+k * 23,none⟩=some (.int .i64 R.k):=h1 0 _ rfl
        rw [hab2] at q2
        have HRD:=zh hR
        clear h1 hr2 hab2 hR
        by_cases hk6:R.k=6
        ·have k2 : (R.k == 6) = true := by simp [hk6]
         go_wp2_with fail
         refine (dI _).mono ?_
         rintro e w9 ⟨rfl,he9⟩
         have HX9:=zh (HX3.out.trans he9)
         clear he9
         go_wp2_with fail
         go_ret
         exact ⟨rfl,HX9.out⟩
        have k2:(R.k == 6)=false:=by simp [hk6]
        have HBK':=zh (show ∀ j,j < k+1→(aY T.L j).k ≠ 6 from fun j hj=>by
         rcases (by omega:j < k ∨ j=k) with hj | rfl
         ·exact HBK.out j hj
         rw [HRD.out];exact hk6)
        go_wp2_with fail
        go_roundw
        case rel=>exact ⟨k+1,by go_num,hlk,HBK',HX3,HP3⟩
        case measure=>simp [intOf];omega
       have k1:¬ (k:Int) < (T.n:Int):=by omega
       have HB':=zh (show ∀ j,j < i+1→noB (nthG L j).L from fun j hj=>by
        rcases (by omega:j < i ∨ j=i) with hj | rfl
        ·exact HB.out j hj
        rw [HTD.out];exact fun j hj=>HBK.out j (by have h1:=SlO.len HTKi.out;omega))
       go_wp2_with fail
       go_roundw
       case rel=>first | exact ⟨i+1,by go_num,hlt,HB',HX3,HP3⟩ | exact ⟨i+1,by go_num,hlt,HB'⟩
       case measure=>simp [intOf];omega
    obtain rfl:n=i:=by omega
    have i1:¬ (n:Int) < (n:Int):=by omega
    go_wp2_with fail
    refine (aCk _ n c L _ (HS.out.ext HX.out) hn12).mono ?_
    rintro e w3 ⟨he,he3⟩
    have HX3:=zh (HX.out.trans he3)
    have HP3:=zh (HP.out.ext he3)
    clear he3 HX HP
    rcases he with ⟨rfl,hnc⟩ | rfl
    rotate_left
    ·
     go_wp2_with fail
     refine (dI _).mono ?_
     rintro e w9 ⟨rfl,he9⟩
     have HX9:=zh (HX3.out.trans he9)
     clear he9
     go_wp2_with fail
     go_ret
     exact ⟨rfl,HX9.out⟩
    have HNC:=zh hnc
    have HX:=HX3
    have HP:=HP3
    clear hnc HX3 HP3
    go_upto_region 15 with fail
    go_cut [9,10] (fun t9 t10 wx=>∃ g9 g10:Nat,t9=.pointer (some ⟨g9,0,none⟩)∧t10=.pointer (some ⟨g10,0,none⟩)∧Hid (AoF w wx g9 g10 s s))
    case first =>
     refine wp_region_held_drew (S:=fun V=>Blk V w.heap.size 44 (ssA s)∧Ext w V) (by kernel_rfl) (⟨HP.out.drew,HX.out.drew'⟩) (fun aA=>?_)
     refine zu 0 (v:=.agg (ssA s)) aA ?_ (hy:=by refine .inl ⟨by rfl,fun V aM=>?_⟩;obtain ⟨q0,q1,q2,q3,q4⟩:=aE (aM.1);go_simp;try rfl)
     refine zu 1 (v:=.agg (ssA s)) aA ?_ (hy:=by refine .inl ⟨by rfl,fun V aM=>?_⟩;obtain ⟨q0,q1,q2,q3,q4⟩:=aE (aM.1);go_simp;try rfl)
     refine wpAnyH_ready (rs:=[2,3]) (by kernel_rfl) (by simp) ?_
     refine (AllReadyH.cons (o:=⟨some 9,.alloc 44,0,"law.go:185",#[],none⟩) rfl (fun K hK=>?ka1_15_2_2_n1) (AllReadyH.cons (o:=⟨some 10,.alloc 44,0,"law.go:185",#[],none⟩) rfl (fun K hK=>?ka1_15_2_3_n1) AllReadyH.nil))
     case' ka1_15_2_2_n1 =>
      (refine iY rfl (by rfl) ?_;intro g9 W6 h6;have HB9:=zh (show w.heap.size < g9 from Nat.lt_of_lt_of_le aA.1.lt h6.out.2.2);(try (have HN:=zh (show g9 ≠ g10 from by have h1:=h6.out.2.2;have h2:=G10.out.lt;omega)));(try (have G10:=zh (G10.out.ext h6.out.2.1)));have HK:=zh (show _∧_ from ⟨aA.1.ext h6.out.2.1,aA.2.trans h6.out.2.1⟩);have G9:=zh h6.out.1;clear h6)
      refine hK.out _ _ (HK.out) (fun aA=>?_)
      clear hK K
      try simp only [aS]
      refine za 3 (fun K hK=>?_)
      (refine iY rfl (by rfl) ?_;intro g10 W6 h6;have HB10:=zh (show w.heap.size < g10 from Nat.lt_of_lt_of_le aA.1.lt h6.out.2.2);(try (have HN:=zh (show g9 ≠ g10 from by have h1:=h6.out.2.2;have h2:=G9.out.lt;omega)));(try (have G9:=zh (G9.out.ext h6.out.2.1)));have HK:=zh (show _∧_ from ⟨aA.1.ext h6.out.2.1,aA.2.trans h6.out.2.1⟩);have G10:=zh h6.out.1;clear h6)
      refine hK.out _ _ (HK.out) (fun aA=>?_)
      clear hK K
      try simp only [aS]
      refine za 4 (fun K hK=>?_)
      (refine bC rfl (.tmp 9) (.tmp 76) (by rfl) g9 (.agg (ssA s)) s rfl (by rfl) (by rfl) G9.out ?_;intro W7 h7;have hgr:=jB h7.out.1;(try (have G10:=zh (G10.out.grown hgr (fun e=>by injection e with e;exact HN.out e.symm))));have HK:=zh (show _∧_ from ⟨aA.1.grown hgr (fun e=>by injection e with e;have:=HB9.out;omega),jE h7.out.1 aA.2 (Nat.le_of_lt HB9.out)⟩);have G9:=zh h7.out.2;clear h7 hgr)
      refine hK.out _ _ (HK.out) (fun aA=>?_)
      clear hK K
      try simp only [aS]
      refine za 5 (fun K hK=>?_)
      (refine bC rfl (.tmp 10) (.tmp 77) (by rfl) g10 (.agg (ssA s)) s rfl (by rfl) (by rfl) G10.out ?_;intro W7 h7;have hgr:=jB h7.out.1;(try (have G9:=zh (G9.out.grown hgr (fun e=>by injection e with e;exact HN.out e))));have HK:=zh (show _∧_ from ⟨aA.1.grown hgr (fun e=>by injection e with e;have:=HB10.out;omega),jE h7.out.1 aA.2 (Nat.le_of_lt HB10.out)⟩);have G10:=zh h7.out.2;clear h7 hgr)
      refine hK.out _ _ (HK.out) (fun aA=>?_)
      clear hK K
      try simp only [aS]
      refine wpAnyH_done (by kernel_rfl) ?_ _
     case' ka1_15_2_3_n1 =>
      (refine iY rfl (by rfl) ?_;intro g10 W6 h6;have HB10:=zh (show w.heap.size < g10 from Nat.lt_of_lt_of_le aA.1.lt h6.out.2.2);(try (have HN:=zh (show g9 ≠ g10 from by have h1:=h6.out.2.2;have h2:=G9.out.lt;omega)));(try (have G9:=zh (G9.out.ext h6.out.2.1)));have HK:=zh (show _∧_ from ⟨aA.1.ext h6.out.2.1,aA.2.trans h6.out.2.1⟩);have G10:=zh h6.out.1;clear h6)
      refine hK.out _ _ (HK.out) (fun aA=>?_)
      clear hK K
      try simp only [aS]
      refine za 2 (fun K hK=>?_)
      (refine iY rfl (by rfl) ?_;intro g9 W6 h6;have HB9:=zh (show w.heap.size < g9 from Nat.lt_of_lt_of_le aA.1.lt h6.out.2.2);(try (have HN:=zh (show g9 ≠ g10 from by have h1:=h6.out.2.2;have h2:=G10.out.lt;omega)));(try (have G10:=zh (G10.out.ext h6.out.2.1)));have HK:=zh (show _∧_ from ⟨aA.1.ext h6.out.2.1,aA.2.trans h6.out.2.1⟩);have G9:=zh h6.out.1;clear h6)
      refine hK.out _ _ (HK.out) (fun aA=>?_)
      clear hK K
      try simp only [aS]
      refine za 4 (fun K hK=>?_)
      (refine bC rfl (.tmp 9) (.tmp 76) (by rfl) g9 (.agg (ssA s)) s rfl (by rfl) (by rfl) G9.out ?_;intro W7 h7;have hgr:=jB h7.out.1;(try (have G10:=zh (G10.out.grown hgr (fun e=>by injection e with e;exact HN.out e.symm))));have HK:=zh (show _∧_ from ⟨aA.1.grown hgr (fun e=>by injection e with e;have:=HB9.out;omega),jE h7.out.1 aA.2 (Nat.le_of_lt HB9.out)⟩);have G9:=zh h7.out.2;clear h7 hgr)
      refine hK.out _ _ (HK.out) (fun aA=>?_)
      clear hK K
      try simp only [aS]
      refine za 5 (fun K hK=>?_)
      (refine bC rfl (.tmp 10) (.tmp 77) (by rfl) g10 (.agg (ssA s)) s rfl (by rfl) (by rfl) G10.out ?_;intro W7 h7;have hgr:=jB h7.out.1;(try (have G9:=zh (G9.out.grown hgr (fun e=>by injection e with e;exact HN.out e))));have HK:=zh (show _∧_ from ⟨aA.1.grown hgr (fun e=>by injection e with e;have:=HB10.out;omega),jE h7.out.1 aA.2 (Nat.le_of_lt HB10.out)⟩);have G10:=zh h7.out.2;clear h7 hgr)
      refine hK.out _ _ (HK.out) (fun aA=>?_)
      clear hK K
      try simp only [aS]
      refine wpAnyH_done (by kernel_rfl) ?_ _
     all_goals (
      go_wp2_with fail
      go_meet
      exact ⟨g9,g10,rfl,rfl,zh ⟨G9.out,G10.out,HN.out,Nat.le_of_lt HB9.out,Nat.le_of_lt HB10.out,aA.2,.inr HO.out,.inr HO.out⟩⟩)
    case rest =>
     obtain ⟨g9,g10,rfl,rfl,HA0⟩:=hcut
     clear HX HP
     obtain ⟨W0,hW0⟩:∃ W0,wc=W0:=⟨_,rfl⟩
     rw [hW0] at HA0 ⊢
     clear hW0
     go_wp2_with fail
     go_loopw [11] (fun v11 wr=>∃ (i:Nat) (a d:StR),v11=.int .i64 (i:Int)∧i≤n∧Hid (AoF w wr g9 g10 a d)∧Hid (a.V=lH s.V (fun j=>nthG L j) i)∧Hid (d.V=lH s.V (fun j=>nthG L ((j+f) % n)) i)) (fun i _=>n - (intOf i).toNat)
     case atStart=>exact ⟨0,s,s,rfl,Nat.zero_le _,HA0,zh rfl,zh rfl⟩
     case round =>
      clear HA0
      obtain ⟨i,a,d,rfl,hi,HA,HVA,HVB⟩:=hrel
      have HTRn:=HTR
      have HTKn:=HTK
      by_cases hlt:i < n
      ·have i0 : (0 : Int) ≤ (i : Int) := by omega
       have i2:(i:Int) < (n:Int):=by omega
       have HNN:=zh (aEf HO.out HA.out.oka HVA.out HNS.out (show i≤12 by omega))
       have HNN2:=zh (aEf HO.out HA.out.okb HVB.out HNS.out (show i≤12 by omega))
       have hr0:=HTRn.out i hlt
       have hk0:=HTKn.out i hlt
       obtain ⟨T,hT⟩:∃ T,nthG L i=T:=⟨_,rfl⟩
       rw [hT] at hr0 hk0
       have HTD:=zh hT
       have HTR:=zh hr0
       have HTK:=zh hk0
       clear hr0 hk0 hT
       go_upto_region 19 with fail
       have HA:=zh (HA.out.ext ((Ext.refl _).drew'))
       refine wp_region_held_drew (S:=fun V=>Ext w V) (by kernel_rfl) (HA.out.low) (fun aA=>?_)
       refine zzr [1,2,3] ?_
       refine zu 4 (v:=.agg (ttA T)) aA ?_ (hy:=by exact aF ttP (by rfl) (.tmp 87) (by rfl) b (o+i * 3) (by rfl) T _ rfl (fun V h=>HTR.out V h))
       refine za 0 (fun K hK=>?_)
       (refine rP rfl (.tmp 9) (by rfl) g9 a (.agg (ssA a)) rfl (by rfl) HA.out.hg ?_)
       refine hK.out _ _ (aA) (fun aA=>?_)
       clear hK K
       try simp only [aS]
       refine za 5 (fun K hK=>?_)
       (go_simp;go_at_call 24;refine (oH a T.ac T.sq T.A T.n T.c T.L _ HA.out.oka (RowT.ext _ _ _ HTK.out aA) HNN.out).mono ?_;rintro e w5 ⟨a5,rfl,ho5,hv5,he5⟩;have HO5:=zh (ho5.mono aA.size);have HV5:=zh hv5;have HA:=zh (HA.out.ext he5);clear ho5 hv5)
       refine hK.out _ _ (aA.trans he5) (fun aA=>?_)
       clear hK K
       try simp only [aS]
       refine za 6 (fun K hK=>?_)
       (refine bC rfl (.tmp 9) (.tmp 89) (by rfl) g9 (.agg (ssA a5)) a5 rfl (by rfl) (by rfl) HA.out.hg ?_;intro W6 h6;have HA:=zh (HA.out.putA HO5.out h6.out);clear h6)
       refine hK.out _ _ (HA.out.low) (fun aA=>?_)
       clear hK K
       try simp only [aS]
       refine wpAnyH_done (by kernel_rfl) ?_ _
       have HVA5:=zh (show a5.V=lH s.V (fun j=>nthG L j) (i+1) from by
        rw [HV5.out,HVA.out,← HTD.out];rfl)
       clear aA HO5 HV5
       obtain ⟨j,hj⟩:∃ j,(i+f) % n=j:=⟨_,rfl⟩
       have HJ:=zh hj
       have hjn:j < n:=by rw [← hj];exact Nat.mod_lt _ hn0
       have ej:(IntKind.i64.wrap ((i:Int)+(f:Int))).tmod (n:Int)=(j:Int):=by rw [show IntKind.i64.wrap ((i:Int)+(f:Int))=(i:Int)+(f:Int) from by rw [IntKind.wrap_i64];omega,← hj];exact (Int.ofNat_tmod (i+f) n).symm
       have j0:(0:Int)≤(j:Int):=by omega
       have j1:(j:Int) < (n:Int):=by omega
       have hr0:=HTRn.out j hjn
       have hk0:=HTKn.out j hjn
       obtain ⟨T,hT⟩:∃ T,nthG L j=T:=⟨_,rfl⟩
       rw [hT] at hr0 hk0
       have HTD:=zh hT
       have HTR:=zh hr0
       have HTK:=zh hk0
       have HNN:=HNN2
       clear hr0 hk0 hT hj
       have n0:¬ n=0:=by omega
       go_upto_region 20 with fail
       have HA:=zh (HA.out.ext ((Ext.refl _).drew'))
       refine wp_region_held_drew (S:=fun V=>Ext w V) (by kernel_rfl) (HA.out.low) (fun aA=>?_)
       refine zzr [1,2,3,4,5,6,7,8] ?_
       refine zu 9 (v:=.agg (ttA T)) aA ?_ (hy:=by exact aF ttP (by rfl) (.tmp 98) (by rfl) b (o+j * 3) (by rfl) T _ rfl (fun V h=>HTR.out V h))
       refine za 0 (fun K hK=>?_)
       (refine rP rfl (.tmp 10) (by rfl) g10 d (.agg (ssA d)) rfl (by rfl) HA.out.hh ?_)
       refine hK.out _ _ (aA) (fun aA=>?_)
       clear hK K
       try simp only [aS]
       refine za 10 (fun K hK=>?_)
       (go_simp;go_at_call 24;refine (oH d T.ac T.sq T.A T.n T.c T.L _ HA.out.okb (RowT.ext _ _ _ HTK.out aA) HNN.out).mono ?_;rintro e w5 ⟨a5,rfl,ho5,hv5,he5⟩;have HO5:=zh (ho5.mono aA.size);have HV5:=zh hv5;have HA:=zh (HA.out.ext he5);clear ho5 hv5)
       refine hK.out _ _ (aA.trans he5) (fun aA=>?_)
       clear hK K
       try simp only [aS]
       refine za 11 (fun K hK=>?_)
       (refine bC rfl (.tmp 10) (.tmp 100) (by rfl) g10 (.agg (ssA a5)) a5 rfl (by rfl) (by rfl) HA.out.hh ?_;intro W6 h6;have HA:=zh (HA.out.putB HO5.out h6.out);clear h6)
       refine hK.out _ _ (HA.out.low) (fun aA=>?_)
       clear hK K
       try simp only [aS]
       refine wpAnyH_done (by kernel_rfl) ?_ _
       have HVB5:=zh (show a5.V=lH s.V (fun j=>nthG L ((j+f) % n)) (i+1) from by
        rw [HV5.out,HVB.out,← HTD.out,← HJ.out];rfl)
       clear aA HO5 HV5
       go_wp2_with fail
       go_roundw
       case rel=>exact ⟨i+1,_,_,by go_num,hlt,HA,HVA5,HVB5⟩
       case measure=>simp [intOf];omega
      obtain rfl:n=i:=by omega
      have HEQ:=zh (show a.V.s3=d.V.s3 from by
       have h1:=aFU (k:=f) HVS.out (by rw [HLEN.out];exact hfn) (by rw [HLEN.out];exact HB.out) HNC.out
       rw [HLEN.out,← HVA.out,← HVB.out] at h1
       exact h1)
      have e1:decide (a.C=d.C)=true:=decide_eq_true (congrArg St3.C HEQ.out)
      have e2:decide (a.Q=d.Q)=true:=decide_eq_true (congrArg St3.Q HEQ.out)
      have e4:decide (a.P=d.P)=true:=decide_eq_true (congrArg St3.P HEQ.out)
      obtain ⟨q0,q1,q2,q3,q4⟩:=aE HA.out.hg
      obtain ⟨r0,r1,r2,r3,r4⟩:=aE HA.out.hh
      go_wp2_with fail
      refine (lU _ _ _ a.C _ _ _ d.C _ HA.out.oka.s1 HA.out.okb.s1).mono ?_
      rw [e1]
      rintro e w4 ⟨rfl,he4⟩
      have HA4:=zh (HA.out.ext he4)
      clear q0 q1 q2 q3 q4 r0 r1 r2 r3 r4 he4 HA
      obtain ⟨q0,q1,q2,q3,q4⟩:=aE HA4.out.hg
      obtain ⟨r0,r1,r2,r3,r4⟩:=aE HA4.out.hh
      go_wp2_with fail
      refine (nR _ _ _ a.Q _ _ _ d.Q _ HA4.out.oka.s2 HA4.out.okb.s2).mono ?_
      rw [e2]
      rintro e w5 ⟨rfl,he5⟩
      have HA5:=zh (HA4.out.ext he5)
      clear q0 q1 q2 q3 q4 r0 r1 r2 r3 r4 he5 HA4
      obtain ⟨q0,q1,q2,q3,q4⟩:=aE HA5.out.hg
      obtain ⟨r0,r1,r2,r3,r4⟩:=aE HA5.out.hh
      go_wp2_with fail
      refine (mO _ _ _ a.P _ _ _ d.P _ HA5.out.oka.s4 HA5.out.okb.s4).mono ?_
      rw [e4]
      rintro e w6 ⟨rfl,he6⟩
      have HA6:=zh (HA5.out.ext he6)
      clear q0 q1 q2 q3 q4 r0 r1 r2 r3 r4 he6 HA5
      have HL6:=zh HA6.out.low
      go_wp2_with fail
      refine (dI _).mono ?_
      rintro e w9 ⟨rfl,he9⟩
      have HX9:=zh (HL6.out.trans he9)
      clear he9
      go_wp2_with fail
      go_ret
      exact ⟨rfl,HX9.out⟩
end
end Go.Proofs.YtohmmcahpakokaaGreat
