/- States that came in (printed by gen_opd.py). -/
import Derived.Test.YtohmmcahpakokaaGreatG33
import Derived.Test.YtohmmcahpakokaaGreatG34
set_option maxRecDepth 100000
set_option maxHeartbeats 8000000
set_option linter.unusedVariables false
set_option linter.unusedSimpArgs false
namespace Go.Proofs.YtohmmcahpakokaaGreat
section
open Go.ChangeShapes Go.WideShapes Go.ChangeAt Go.RowKit Go.Deep
theorem aFj:Tryz.prog.cellsOf 32=10:=by kernel_rfl
theorem aFi:Tryz.prog.cellsOf 34=11:=by kernel_rfl
theorem aFh:Tryz.prog.cellsOf 94=19:=by kernel_rfl
theorem aKe:Tryz.prog.cellsOf 42=1:=by kernel_rfl
theorem aKd:Tryz.prog.cellsOf 44=5:=by kernel_rfl
theorem aKc:Tryz.prog.cellsOf 27=1:=by kernel_rfl
theorem aKb:Tryz.prog.cellsOf 38=1:=by kernel_rfl
theorem aKa:Tryz.prog.cellsOf 41=1:=by kernel_rfl
theorem aJZ:Tryz.prog.cellsOf 37=1:=by kernel_rfl
theorem aCt {α:Type} {l:List α} (h:l.length=5):∃ x0 x1 x2 x3 x4,l=[x0,x1,x2,x3,x4]:=by
 match l,h with
 | [x0,x1,x2,x3,x4],_=>exact ⟨x0,x1,x2,x3,x4,rfl⟩
theorem aHU {α:Type} {l:List α} (h:l.length=3):∃ x0 x1 x2,l=[x0,x1,x2]:=by
 match l,h with
 | [x0,x1,x2],_=>exact ⟨x0,x1,x2,rfl⟩
section
variable {H:Type} {enc:TypeId × Value→H} {w:World} {base fuel:Nat} {held:Bool} {cs:List Value} {x:DataW H × List MemPlace}
theorem lM {α:Type} [RowT α] {t e:TypeId} (ht:Tryz.prog.underlying t=some (.slice e)) (hsz:Tryz.prog.cellsOf e=RowT.sz α)
  (hel:∀ {fuel:Nat} {cs:List Value} {x:DataW H × List MemPlace},DataW.trod enc Tryz.prog w base (fun _=>true) held fuel e cs=some x→∃ y:α,cs=RowT.enc y∧RowT.ok y w)
  (hone:∀ (y:α) (a:Addr) (v:Value),(RowT.enc y)[0]?=some v→w.cell? a=some v→a.spot=none)
  (h:DataW.trod enc Tryz.prog w base (fun _=>true) held fuel t cs=some x):∃ A n c,∃ L:List α,cs=[.slice A n c]∧SlG w A n c L:=by
 rcases open_slice ht h with ⟨hcs,_⟩ | ⟨x,l,c',m,n,D,Pl,hcs,_,hl,hm,hmm,_,hi⟩
 ·exact ⟨none,0,0,[],hcs,SlG.nil w⟩
 rw [if_pos rfl] at hmm
 subst hmm
 have hcell:∀ j,j < l→∃ y:α,(∀ q v,(RowT.enc y)[q]?=some v→w.cell? ((x.add (j * RowT.sz α)).add q)=some v)∧RowT.ok y w:=by
  intro j hj
  obtain ⟨cs',hc,ht⟩:=hi j (by omega)
  obtain ⟨y,rfl,hyo⟩:=hel ht
  rw [hsz] at hc
  obtain ⟨_,hln,hat⟩:=World.cells?_some hc
  refine ⟨y,fun q v hv=>?_,hyo⟩
  have hq:=(List.getElem?_eq_some_iff.1 hv).1
  have:=hat q (by rw [RowT.len] at hq;omega)
  rw [this,hv]
 rcases Nat.eq_zero_or_pos l with rfl | h0
 ·exact ⟨_,0,_,[],hcs,rfl,Nat.zero_le _,by unfold maxLen at hm;omega,.nil,fun R hR=>by cases hR⟩
 have hx:x.spot=none:=by
  obtain ⟨y,hy,_⟩:=hcell 0 h0
  have hp:0 < (RowT.enc y).length:=by rw [RowT.len];exact RowT.pos
  have:=hy 0 _ (List.getElem?_eq_getElem hp)
  have e0:((x.add (0 * RowT.sz α)).add 0)=x:=by simp [Addr.add]
  rw [e0] at this
  exact hone y x _ (List.getElem?_eq_getElem hp) this
 obtain ⟨bl,ol,sp⟩:=x
 simp only at hx
 subst hx
 obtain ⟨L,hL,hr,hok⟩:=aKY (α:=α) (w:=w) (b:=bl) (o:=ol) rfl l (fun j hj=>by
  obtain ⟨y,hy,hyo⟩:=hcell j hj
  refine ⟨y,fun q v hv=>?_,hyo⟩
  have:=hy q v hv
  rwa [Addr.add_mid,Addr.add_mid] at this)
 exact ⟨_,l,_,L,hcs,hL,hl,by unfold maxLen at hm;omega,.inr ⟨bl,ol,rfl,hr⟩,hok⟩
theorem aHI (h:DataW.trod enc Tryz.prog w base (fun _=>true) held fuel 32 cs=some x):∃ C:CeR,cs=ceL C∧ceW C:=by
 obtain ⟨xs,m,_,_,hl,hxl,hg⟩:=DataW.trod_struct Tryz.underlying32 h
 rw [aFj] at hl
 obtain ⟨x0,x1,x2,rfl⟩:=aHU (show xs.length=3 from hxl)
 have h0:DataW.trod enc Tryz.prog w base (fun _=>true) held m 3 ((cs.drop 0).take (Tryz.prog.cellsOf 3))=some x0:=hg 0 _ rfl
 rw [gV] at h0
 have h1:DataW.trod enc Tryz.prog w base (fun _=>true) held m 3 ((cs.drop 1).take (Tryz.prog.cellsOf 3))=some x1:=hg 1 _ rfl
 rw [gV] at h1
 have h2:DataW.trod enc Tryz.prog w base (fun _=>true) held m 30 ((cs.drop 2).take (Tryz.prog.cellsOf 30))=some x2:=hg 2 _ rfl
 rw [lT] at h2
 obtain ⟨k,e0,_,w0⟩:=DataW.trod_int Tryz.underlying3 h0
 obtain ⟨i,e1,_,w1⟩:=DataW.trod_int Tryz.underlying3 h1
 obtain ⟨l,e2⟩:=jR h2
 rw [bJ,dU] at e2
 refine ⟨⟨k,i,l⟩,?_,⟨w0,w1⟩⟩
 have e:cs=cs.drop 0:=rfl
 rw [e,dL cs (0) 1,e0,dL cs (0+1) 1,e1,dL cs (0+1+1) 8,e2,List.drop_of_length_le (by omega)]
 rfl
theorem aHH (h:DataW.trod enc Tryz.prog w base (fun _=>true) held fuel 34 cs=some x):∃ C:DeR,cs=deL C∧deW C:=by
 obtain ⟨xs,m,_,_,hl,hxl,hg⟩:=DataW.trod_struct Tryz.underlying34 h
 rw [aFi] at hl
 obtain ⟨x0,x1,rfl⟩:=aKv (show xs.length=2 from hxl)
 have h0:DataW.trod enc Tryz.prog w base (fun _=>true) held m 32 ((cs.drop 0).take (Tryz.prog.cellsOf 32))=some x0:=hg 0 _ rfl
 rw [aFj] at h0
 have h1:DataW.trod enc Tryz.prog w base (fun _=>true) held m 3 ((cs.drop 10).take (Tryz.prog.cellsOf 3))=some x1:=hg 1 _ rfl
 rw [gV] at h1
 obtain ⟨c,e0,w0⟩:=aHI h0
 obtain ⟨a,e1,_,w1⟩:=DataW.trod_int Tryz.underlying3 h1
 refine ⟨⟨c,a⟩,?_,⟨w0,w1⟩⟩
 have e:cs=cs.drop 0:=rfl
 rw [e,dL cs (0) 10,e0,dL cs (0+10) 1,e1,List.drop_of_length_le (by omega)]
 rfl
theorem aHD (h:DataW.trod enc Tryz.prog w base (fun _=>true) held fuel 94 cs=some x):∃ C:LkR,cs=lkL C∧lkW C:=by
 obtain ⟨xs,m,_,_,hl,hxl,hg⟩:=DataW.trod_struct Tryz.underlying94 h
 rw [aFh] at hl
 obtain ⟨x0,x1,x2,x3,x4,rfl⟩:=aCt (show xs.length=5 from hxl)
 have h0:DataW.trod enc Tryz.prog w base (fun _=>true) held m 30 ((cs.drop 0).take (Tryz.prog.cellsOf 30))=some x0:=hg 0 _ rfl
 rw [lT] at h0
 have h1:DataW.trod enc Tryz.prog w base (fun _=>true) held m 30 ((cs.drop 8).take (Tryz.prog.cellsOf 30))=some x1:=hg 1 _ rfl
 rw [lT] at h1
 have h2:DataW.trod enc Tryz.prog w base (fun _=>true) held m 3 ((cs.drop 16).take (Tryz.prog.cellsOf 3))=some x2:=hg 2 _ rfl
 rw [gV] at h2
 have h3:DataW.trod enc Tryz.prog w base (fun _=>true) held m 3 ((cs.drop 17).take (Tryz.prog.cellsOf 3))=some x3:=hg 3 _ rfl
 rw [gV] at h3
 have h4:DataW.trod enc Tryz.prog w base (fun _=>true) held m 3 ((cs.drop 18).take (Tryz.prog.cellsOf 3))=some x4:=hg 4 _ rfl
 rw [gV] at h4
 obtain ⟨n1,e0⟩:=jR h0
 rw [bJ,dU] at e0
 obtain ⟨n2,e1⟩:=jR h1
 rw [bJ,dU] at e1
 obtain ⟨a,e2,_,w2⟩:=DataW.trod_int Tryz.underlying3 h2
 obtain ⟨b,e3,_,w3⟩:=DataW.trod_int Tryz.underlying3 h3
 obtain ⟨c,e4,_,w4⟩:=DataW.trod_int Tryz.underlying3 h4
 refine ⟨⟨n1,n2,a,b,c⟩,?_,⟨w2,w3,w4⟩⟩
 have e:cs=cs.drop 0:=rfl
 rw [e,dL cs (0) 8,e0,dL cs (0+8) 8,e1,dL cs (0+8+8) 1,e2,dL cs (0+8+8+1) 1,e3,dL cs (0+8+8+1+1) 1,e4,List.drop_of_length_le (by omega)]
 rfl
theorem aHB (h:DataW.trod enc Tryz.prog w base (fun _=>true) held fuel 30 cs=some x):∃ y:UInt64,cs=nmL y∧True:=by
 obtain ⟨y,e⟩:=jR h
 rw [bJ] at e
 exact ⟨y,e,trivial⟩
theorem aHF (h:DataW.trod enc Tryz.prog w base (fun _=>true) held fuel 3 cs=some x):∃ y:Int,cs=inL y∧wfI y:=by
 obtain ⟨y,e,_,w0⟩:=DataW.trod_int Tryz.underlying3 h
 exact ⟨y,e,w0⟩
theorem aHG (h:DataW.trod enc Tryz.prog w base (fun _=>true) held fuel 27 cs=some x):∃ A n c,∃ L:List DeR,cs=[.slice A n c]∧SlG w A n c L :=
 lM Tryz.underlying27 aFi (fun h=>aHH h) (fun y a v hv hc=>by have e:=Option.some.inj hv;subst e;exact gA hc) h
theorem aHC (h:DataW.trod enc Tryz.prog w base (fun _=>true) held fuel 41 cs=some x):∃ A n c,∃ L:List LkR,cs=[.slice A n c]∧SlG w A n c L :=
 lM Tryz.underlying41 aFh (fun h=>aHD h) (fun y a v hv hc=>by have e:=Option.some.inj hv;subst e;exact gA hc) h
theorem aHA (h:DataW.trod enc Tryz.prog w base (fun _=>true) held fuel 37 cs=some x):∃ A n c,∃ L:List UInt64,cs=[.slice A n c]∧SlG w A n c L :=
 lM Tryz.underlying37 lT (fun h=>aHB h) (fun y a v hv hc=>by have hv:(nmL y)[0]?=some v:=hv;rw [nmL,dU] at hv;have e:=Option.some.inj hv;subst e;exact gA hc) h
theorem aHE (h:DataW.trod enc Tryz.prog w base (fun _=>true) held fuel 38 cs=some x):∃ A n c,∃ L:List Int,cs=[.slice A n c]∧SlG w A n c L :=
 lM Tryz.underlying38 gV (fun h=>aHF h) (fun y a v hv hc=>by have e:=Option.some.inj hv;subst e;exact gA hc) h
theorem aCj (h:DataW.trod enc Tryz.prog w base (fun _=>true) held fuel 44 cs=some x):∃ s:StR,cs=(ssA s).toList∧s.ok w:=by
 obtain ⟨xs,m,_,_,hl,hxl,hg⟩:=DataW.trod_struct Tryz.underlying44 h
 rw [aKd] at hl
 obtain ⟨x0,x1,x2,x3,x4,rfl⟩:=aCt (show xs.length=5 from hxl)
 have h0:DataW.trod enc Tryz.prog w base (fun _=>true) held m 27 ((cs.drop 0).take (Tryz.prog.cellsOf 27))=some x0:=hg 0 _ rfl
 rw [aKc] at h0
 have h1:DataW.trod enc Tryz.prog w base (fun _=>true) held m 38 ((cs.drop 1).take (Tryz.prog.cellsOf 38))=some x1:=hg 1 _ rfl
 rw [aKb] at h1
 have h2:DataW.trod enc Tryz.prog w base (fun _=>true) held m 41 ((cs.drop 2).take (Tryz.prog.cellsOf 41))=some x2:=hg 2 _ rfl
 rw [aKa] at h2
 have h3:DataW.trod enc Tryz.prog w base (fun _=>true) held m 37 ((cs.drop 3).take (Tryz.prog.cellsOf 37))=some x3:=hg 3 _ rfl
 rw [aJZ] at h3
 have h4:DataW.trod enc Tryz.prog w base (fun _=>true) held m 42 ((cs.drop 4).take (Tryz.prog.cellsOf 42))=some x4:=hg 4 _ rfl
 rw [aKe] at h4
 obtain ⟨A1,n1,c1,L1,e0,w0⟩:=aHG h0
 obtain ⟨A2,n2,c2,L2,e1,w1⟩:=aHE h1
 obtain ⟨A3,n3,c3,L3,e2,w2⟩:=aHC h2
 obtain ⟨A4,n4,c4,L4,e3,w3⟩:=aHA h3
 obtain ⟨g,e4,_,w4⟩:=DataW.trod_int Tryz.underlying42 h4
 refine ⟨⟨A1,n1,c1,L1,A2,n2,c2,L2,A3,n3,c3,L3,A4,n4,c4,L4,g⟩,?_,⟨w0,w1,w2,w3,w4⟩⟩
 have e:cs=cs.drop 0:=rfl
 rw [e,dL cs (0) 1,e0,dL cs (0+1) 1,e1,dL cs (0+1+1) 1,e2,dL cs (0+1+1+1) 1,e3,dL cs (0+1+1+1+1) 1,e4,List.drop_of_length_le (by omega)]
 rfl
end
theorem uZ {H:Type} {enc:TypeId × Value→H} {W:World} {base b0:Nat} {held:Bool} {v:Value} {d:DataW H} {q:List MemPlace} (hv:Value.okWide Tryz.prog W .any b0 44 v)
  (h:DataW.Trod enc Tryz.prog W base (fun _=>true) held 44 v d q):∃ s:StR,v=.agg (ssA s)∧s.ok W:=by
 obtain ⟨fuel,hf⟩:=h
 simp only [Value.okWide,Tryz.underlying44] at hv
 obtain ⟨cs,rfl,_,_⟩:=hv
 obtain ⟨s,e,h1⟩:=aCj hf
 refine ⟨s,?_,h1⟩
 congr 1
 apply Array.toList_inj.1
 exact e
end
section
open Go.RowKit
attribute [local go_sem ↓] Go.wp_at_zero Go.wp_at_succ
def aNs (w:World) (L:List OpR) (e:Ending) (w':World):Prop:=(∃ b,e=.returned (.bool b)∧(b=false→∀ R ∈ L,R.n1≤5000))∧Ext w w'
theorem aCs (ac sq:Int) (A:Option Addr) (n c:Nat) (L:List OpR) (w:World) (hS:SlO w A n c L) :
  Calls Tryz.prog 11 #[.agg (txA ac sq A n c)] w (aNs w L):=by
 have hle:=hS.le
 have hcap:=hS.cap
 have HL:=zh hS.len
 have hE:=(Ext.refl w).alloc' (.cells (txA ac sq A n c) 24)
 obtain ⟨w0,hw0⟩:∃ w0,w.alloc (.cells (txA ac sq A n c) 24)=w0:=⟨_,rfl⟩
 have q0:(w.alloc (.cells (txA ac sq A n c) 24)).cell? ⟨w.heap.size,2,none⟩=some (.slice A n c):=(Blk.new w 24 (txA ac sq A n c)).cell 2
 have HE:=zh hE
 have HS:=zh (hS.ext hE)
 rw [hw0] at HE HS q0
 clear hS hE
 by_cases h50:50 < n
 ·have d1 : (50 : Int) < (n : Int) := by omega
  go_enter Tryz.func11,Tryz.ntmps11
  go_wp2_with fail
  go_ret
  exact ⟨⟨true,rfl,fun h=>by cases h⟩,HE.out⟩
 have d1:decide ((50:Int) < (n:Int))=false:=decide_eq_false (by omega)
 go_enter Tryz.func11,Tryz.ntmps11
 go_wp2_with fail
 clear hw0
 go_loop [3] (fun i=>∃ k:Nat,k≤n∧i=.int .i64 (k:Int)∧Hid (∀ j,j < k→(bI L j).n1≤5000)) (fun i=>n - (intOf i).toNat)
 case atStart=>exact ⟨0,Nat.zero_le _,rfl,zh (fun j hj=>absurd hj (Nat.not_lt_zero _))⟩
 case round =>
  obtain ⟨k,hk,rfl,HJ⟩:=hrel
  by_cases hlt:k < n
  ·obtain ⟨b, o, rfl, hr, hb⟩ := HS.out.at (by omega)
   have hrt:=vB hr (k:=k) (by rw [HL.out];exact hlt)
   have hok:=HS.out.nth hlt
   have i0:(0:Int)≤(k:Int):=by omega
   have i1:(k:Int) < (n:Int):=by omega
   obtain ⟨R,hR⟩:∃ R,bI L k=R:=⟨_,rfl⟩
   rw [hR] at hrt hok
   have HRR:=zh hR
   obtain ⟨r1,r2⟩:=aFZ hrt
   have m1:=hok.pre.le
   have m2:=hok.pre.cap
   have m3:=hok.prf.le
   have m4:=hok.prf.cap
   clear hr hb hrt hok hR
   by_cases hC:5000 < R.n2
   ·have d4 : (5000 : Int) < (R.n2 : Int) := by omega
    go_wp2_with fail
    go_ret
    exact ⟨⟨true,rfl,fun h=>by cases h⟩,HE.out⟩
   have d4:decide ((5000:Int) < (R.n2:Int))=false:=decide_eq_false (by omega)
   by_cases hD:5000 < R.n1
   ·have d5 : (5000 : Int) < (R.n1 : Int) := by omega
    go_wp2_with fail
    go_ret
    exact ⟨⟨true,rfl,fun h=>by cases h⟩,HE.out⟩
   have d5:decide ((5000:Int) < (R.n1:Int))=false:=decide_eq_false (by omega)
   have HN:=zh (show R.n1≤5000 from by omega)
   go_wp2_with fail
   go_round
   case rel=>exact ⟨k+1,by omega,by go_num,zh (fun j hj=>by
    rcases (by omega:j < k ∨ j=k) with hj | rfl
    ·exact HJ.out j hj
    rw [HRR.out];exact HN.out)⟩
   case measure=>simp [intOf];omega
  obtain rfl:k=n:=by omega
  go_wp2_with fail
  go_ret
  exact ⟨⟨false,rfl,fun _=>fun R hR=>by
   obtain ⟨j,hj,rfl⟩:=List.getElem_of_mem hR
   rw [show L[j]=bI L j from cF hj]
   exact HJ.out j (by rw [← HL.out];exact hj)⟩,HE.out⟩
def aNp (w:World) (a b c:Nat) (e:Ending) (w':World):Prop:=(∃ z,e=.returned (.bool z)∧(z=false→a≤100∧b≤100∧c≤100))∧Ext w w'
theorem nR (N Z:Int) (B1:Option Addr) (m1 d1:Nat) (B2:Option Addr) (m2 d2:Nat) (B3:Option Addr) (m3 d3:Nat) (w:World) (h1:m1≤d1∧d1≤9223372036854775807) (h2:m2≤d2∧d2≤9223372036854775807) (h3:m3≤d3∧d3≤9223372036854775807):Calls Tryz.prog 18 #[.agg (genC N Z B1 m1 d1 B2 m2 d2 B3 m3 d3)] w (aNp w m1 m2 m3):=by
 obtain ⟨W,hW⟩:∃ W,w.alloc (.cells (genC N Z B1 m1 d1 B2 m2 d2 B3 m3 d3) 40)=W:=⟨_,rfl⟩
 have HB:=zh (show Blk W w.heap.size 40 (genC N Z B1 m1 d1 B2 m2 d2 B3 m3 d3) from by rw [← hW];exact Blk.new w 40 (genC N Z B1 m1 d1 B2 m2 d2 B3 m3 d3))
 have HE:=zh (show Ext w W from by rw [← hW];exact (Ext.refl w).alloc' _)
 have q2:W.cell? ⟨w.heap.size,2,none⟩=some (.slice B1 m1 d1):=HB.out.cell 2
 have q3:W.cell? ⟨w.heap.size,3,none⟩=some (.slice B2 m2 d2):=HB.out.cell 3
 have q4:W.cell? ⟨w.heap.size,4,none⟩=some (.slice B3 m3 d3):=HB.out.cell 4
 have hcs:(m1 > 100) ∨ (¬ m1 > 100∧m2 > 100) ∨ (¬ m1 > 100∧¬ m2 > 100):=by omega
 rcases hcs with c1 | ⟨c1,c2⟩ | ⟨c1,c2⟩
 ·have k1 : (m1 : Int) > 100 := by omega
  clear c1
  go_enter Tryz.func18,Tryz.ntmps18
  go_wp2_with fail
  go_ret
  exact ⟨⟨true,rfl,fun h=>by cases h⟩,HE.out⟩
 ·have k1 : ¬ (m1 : Int) > 100 := by omega
  have k2:(m2:Int) > 100:=by omega
  clear c1 c2
  go_enter Tryz.func18,Tryz.ntmps18
  go_wp2_with fail
  go_ret
  exact ⟨⟨true,rfl,fun h=>by cases h⟩,HE.out⟩
 have k1:¬ (m1:Int) > 100:=by omega
 have k2:¬ (m2:Int) > 100:=by omega
 have HN:=zh (And.intro c1 c2)
 clear c1 c2
 by_cases c3:m3 > 100
 ·have k3 : (m3 : Int) > 100 := by omega
  clear c3
  go_enter Tryz.func18,Tryz.ntmps18
  go_wp2_with fail
  go_ret
  exact ⟨⟨true,rfl,fun h=>by cases h⟩,HE.out⟩
 have k3:¬ (m3:Int) > 100:=by omega
 have HN3:=zh c3
 clear c3
 go_enter Tryz.func18,Tryz.ntmps18
 go_wp2_with fail
 go_ret
 exact ⟨⟨false,rfl,fun _=>by have:=HN.out;have:=HN3.out;omega⟩,HE.out⟩
def aNr (w:World) (C:List DeR) (e:Ending) (w':World):Prop:=(∃ b,e=.returned (.bool b)∧(b=false ↔ ∀ d,d ∈ C→0≤d.a))∧Ext w w'
theorem mU (s:StR) (w:World) (h:s.ok w):Calls Tryz.prog 32 #[.agg (ssA s)] w (aNr w s.C):=by
 obtain ⟨W,hW⟩:∃ W,w.alloc (.cells (ssA s) 44)=W:=⟨_,rfl⟩
 have HB:=zh (show Blk W w.heap.size 44 (ssA s) from by rw [← hW];exact Blk.new w 44 (ssA s))
 have HE:=zh (show Ext w W from by rw [← hW];exact (Ext.refl w).alloc' _)
 have HS:=zh (h.s1.ext HE.out)
 have HLEN:=zh h.s1.len
 have hle:=h.s1.le
 have hcap:=h.s1.cap
 clear h
 go_enter Tryz.func32,Tryz.ntmps32
 go_wp2_with fail
 go_loopw [3] (fun vi wr=>∃ k:Nat,vi=.int .i64 (k:Int)∧k≤s.n1∧Hid (∀ j,j < k→0≤(aH s.C j).a)∧wr=W) (fun i _=>s.n1 - (intOf i).toNat)
 case atStart=>exact ⟨0,rfl,Nat.zero_le _,zh (fun j hj=>absurd hj (Nat.not_lt_zero _)),rfl⟩
 case round =>
  obtain ⟨k,rfl,hk,HJ,rfl⟩:=hrel
  obtain ⟨q0,-⟩:=aE HB.out
  by_cases hlt:k < s.n1
  ·have i0 : (0 : Int) ≤ (k : Int) := by omega
   have i1:(k:Int) < (s.n1:Int):=by omega
   obtain ⟨b,o,hab,hcell⟩:=qF HS.out hlt
   rw [hab] at q0
   obtain ⟨av,hav⟩:∃ z,(aH s.C k).a=z:=⟨_,rfl⟩
   rw [hav] at hcell
   have HAV:=zh hav
   have HMM:=zh (show aH s.C k ∈ s.C from iR (by rw [HLEN.out];exact hlt))
   clear hab hav
   by_cases hn:av < 0
   ·have HF := zh hn
    go_wp2_with fail
    go_ret
    exact ⟨⟨true,rfl,⟨(fun h=>by cases h),fun h=>by have:=h _ HMM.out;rw [HAV.out] at this;have:=HF.out;omega⟩⟩,HE.out⟩
   have HF:=zh hn
   go_wp2_with fail
   go_roundw
   case rel=>exact ⟨k+1,by go_num,hlt,zh (fun j hj=>by
    rcases (by omega:j < k ∨ j=k) with hj | rfl
    ·exact HJ.out j hj
    rw [HAV.out];have:=HF.out;omega),trivial⟩
   case measure=>simp [intOf];omega
  obtain rfl:s.n1=k:=by omega
  have i1:¬ (s.n1:Int) < (s.n1:Int):=by omega
  go_wp2_with fail
  go_ret
  exact ⟨⟨false,rfl,⟨fun _ d hd=>by
   obtain ⟨j,hj,rfl⟩:=List.getElem_of_mem hd
   rw [cF]
   exact HJ.out j (by rw [← HLEN.out];exact hj),fun _=>rfl⟩⟩,HE.out⟩
theorem rK (x:StpR) (S:Option Addr) (m d:Nat) (L:List OpR) (sig:List UInt8) (VN PN:List UInt64) (BL:List Int) (w:World) (hs:x.s.ok w) (hT:(⟨x.ac,x.sq,x.A,x.n,x.c,S,m,d,L,sig⟩:TxR).ok w) (hV:SlG w x.B1 x.m1 x.d1 VN) (hN:SlG w x.B2 x.m2 x.d2 PN) (hB:SlZ w x.B3 x.m3 x.d3 BL) (hn:x.s.n1≤200000∧x.s.n2≤200000∧x.s.n3≤200000∧x.s.n4≤200000) (hpn:∀ R ∈ L,R.n1≤5000) :
  Calls Tryz.prog 20 #[.agg (genC x.gN x.gZ x.B1 x.m1 x.d1 x.B2 x.m2 x.d2 x.B3 x.m3 x.d3),.agg (ssA x.s),.agg (stA x.ac x.sq x.A x.n x.c S m d),.int .i64 x.ht] w
   (aIB w (lQ (dA x.m2 x.m1 x.ht cM (evU VN) x.ac) (eV x.gN x.gZ x.m1 x.m2 x.m3 BL) x.m2 (vSg (aH PN x.ac.toNat) ⟨x.ac, x.sq, x.A, x.n, x.c, S, m, d, L, sig⟩) x.s.V x.ac x.sq L)
    (gX (dA x.m2 x.m1 x.ht cM (evU VN) x.ac) (eV x.gN x.gZ x.m1 x.m2 x.m3 BL) x.m2 (vSg (aH PN x.ac.toNat) ⟨x.ac,x.sq,x.A,x.n,x.c,S,m,d,L,sig⟩) x.s.V x.ac x.sq L)
    (rcE (gX (dA x.m2 x.m1 x.ht cM (evU VN) x.ac) (eV x.gN x.gZ x.m1 x.m2 x.m3 BL) x.m2 (vSg (aH PN x.ac.toNat) ⟨x.ac,x.sq,x.A,x.n,x.c,S,m,d,L,sig⟩) x.s.V x.ac x.sq L) x.ac x.sq L)
    (rcO (gX (dA x.m2 x.m1 x.ht cM (evU VN) x.ac) (eV x.gN x.gZ x.m1 x.m2 x.m3 BL) x.m2 (vSg (aH PN x.ac.toNat) ⟨x.ac,x.sq,x.A,x.n,x.c,S,m,d,L,sig⟩) x.s.V x.ac x.sq L) x.ac x.sq L)
    (rcG (gX (dA x.m2 x.m1 x.ht cM (evU VN) x.ac) (eV x.gN x.gZ x.m1 x.m2 x.m3 BL) x.m2 (vSg (aH PN x.ac.toNat) ⟨x.ac,x.sq,x.A,x.n,x.c,S,m,d,L,sig⟩) x.s.V x.ac x.sq L) x.s.V (lQ (dA x.m2 x.m1 x.ht cM (evU VN) x.ac) (eV x.gN x.gZ x.m1 x.m2 x.m3 BL) x.m2 (vSg (aH PN x.ac.toNat) ⟨x.ac,x.sq,x.A,x.n,x.c,S,m,d,L,sig⟩) x.s.V x.ac x.sq L))) :=
 sL x S m d L sig PN BL (evU VN) _ _ _ w hs hT hN hB (Nat.le_trans hV.le hV.cap) hn (fun R hR=>Nat.le_trans (hpn R hR) (by omega)) rfl rfl rfl
  (fun R hR hk hv V s e hsV=>aGA { x with s:=s } R VN V hsV (RowT.ext R w V (hT.ops.g.ok R hR) e) (hV.ext e) hv hk)
theorem zT (w:World) (c1 c2:Array Value) (t1 t2:TypeId):∃ U,(w.alloc (.cells c1 t1)).alloc (.cells c2 t2)=U∧Hid (Blk U w.heap.size t1 c1)∧Hid (Blk U (w.heap.size+1) t2 c2)∧Hid (Ext w U) :=
 ⟨_,rfl,zh ((Blk.new w t1 c1).alloc _),zh (Blk.newAt _ _ _ _ (by simp)),zh (((Ext.refl w).alloc' _).alloc' _)⟩
end
section
open Go.ChangeShapes Go.WideShapes Go.ChangeAt Go.RowKit Go.Deep
theorem aJY:Tryz.prog.cellsOf 40=5:=by kernel_rfl
theorem aJW:Tryz.prog.cellsOf 37=1:=by kernel_rfl
theorem aJX:Tryz.prog.cellsOf 38=1:=by kernel_rfl
theorem aDM {w:World} {b o:Nat}:∀ (n:Nat),(∀ j,j < n→∃ y,w.rangeAt b (o+j * 8) (bcs (nmb y)))→∃ L,L.length=n∧w.rangeAt b o (ncs L):=by
 intro n
 induction n with
 | zero=>intro _;exact ⟨[],rfl,fun j v hv=>by simp [ncs] at hv⟩
 | succ n ih =>
  intro h
  obtain ⟨L,hL,hr⟩:=ih (fun j hj=>h j (by omega))
  obtain ⟨y,hy⟩:=h n (by omega)
  refine ⟨L ++ [y],by simp [hL],?_⟩
  rw [eP,gR,aJj,List.append_nil]
  refine jN hr ?_
  rw [cV,hL];exact hy
theorem vA {H:Type} {enc:TypeId × Value→H} {W:World} {base fuel:Nat} {held:Bool} {cs:List Value} {x:DataW H × List MemPlace}
  (h:DataW.trod enc Tryz.prog W base (fun _=>true) held fuel 37 cs=some x):∃ A n c L,cs=[.slice A n c]∧SlN W A n c L:=by
 rcases open_slice Tryz.underlying37 h with ⟨hcs,_⟩ | ⟨x,l,c',m,n,D,Pl,hcs,_,hl,hm,hmm,_,hi⟩
 ·exact ⟨none,0,0,[],hcs,rfl,Nat.le_refl _,Nat.zero_le _,.nil⟩
 rw [if_pos rfl] at hmm
 subst hmm
 have hcell:∀ j,j < l→∃ y,∀ q v,(bcs (nmb y))[q]?=some v→W.cell? ((x.add (j * 8)).add q)=some v:=by
  intro j hj
  obtain ⟨cs',hc,ht⟩:=hi j (by omega)
  obtain ⟨y,hy⟩:=jR ht
  rw [bJ] at hy
  subst hy
  rw [lT] at hc
  obtain ⟨_,hln,hat⟩:=World.cells?_some hc
  refine ⟨y,fun q v hv=>?_⟩
  have hq:=(List.getElem?_eq_some_iff.1 hv).1
  have:=hat q (by rw [aJ,aG] at hq;omega)
  rw [this,hv]
 rcases Nat.eq_zero_or_pos l with rfl | h0
 ·exact ⟨_,0,_,[],hcs,rfl,Nat.zero_le _,by unfold maxLen at hm;omega,.nil⟩
 have hx:x.spot=none:=by
  obtain ⟨y,hy⟩:=hcell 0 h0
  have:=hy 0 (.int .u8 (nb8 y 0)) (by rw [dU];rfl)
  have e0:((x.add (0 * 8)).add 0)=x:=by simp [Addr.add]
  rw [e0] at this
  exact gA this
 obtain ⟨bl,ol,sp⟩:=x
 simp only at hx
 subst hx
 obtain ⟨L,hL,hr⟩:=aDM (w:=W) (b:=bl) (o:=ol) l (fun j hj=>by
  obtain ⟨y,hy⟩:=hcell j hj
  refine ⟨y,fun q v hv=>?_⟩
  have:=hy q v hv
  rwa [Addr.add_mid,Addr.add_mid] at this)
 exact ⟨_,l,_,L,hcs,hL,hl,by unfold maxLen at hm;omega,.inr ⟨bl,ol,rfl,hr⟩⟩
theorem aDD {w:World} {a:Option Addr} {len cap:Nat} {zs:List Int} (h:aKP .i64 w a len cap zs):∃ l,SlZ w a len cap l:=by
 rcases h with ⟨rfl,rfl,rfl,rfl⟩ | ⟨x,rfl,hl,hm,hz,hc,hw⟩
 ·exact ⟨[],SlZ.nil w⟩
 refine ⟨zs.take len,by simp;omega,hl,by unfold maxLen at hm;omega,?_⟩
 by_cases h0:len=0
 ·subst h0;exact .inl (by simp [ics])
 have hcell:∀ j,j < len→w.cell? (x.add j)=some (.int .i64 (zs.getD j 0)):=fun j hj=>hc j (by omega)
 have hx:x.spot=none:=by
  have:=hcell 0 (by omega)
  simp only [Addr.add,if_pos] at this
  exact gA this
 refine .inr ⟨x.block,x.off,by cases x;simp_all,fun j v hv=>?_⟩
 have hj:j < len:=by have:=(List.getElem?_eq_some_iff.1 hv).1;simp [ics] at this;omega
 have e:(⟨x.block,x.off+j,none⟩:Addr)=x.add j:=by
  cases x;simp only at hx;subst hx;rw [Addr.add_mid]
 rw [e,hcell j hj,← hv]
 simp [ics,iv,hj,show j < zs.length from by omega]
theorem aJb {H:Type} {enc:TypeId × Value→H} {W:World} {base fuel:Nat} {held:Bool} {cs:List Value} {x:DataW H × List MemPlace}
  (h:DataW.trod enc Tryz.prog W base (fun _=>true) held fuel 38 cs=some x):∃ A n c l,cs=[.slice A n c]∧SlZ W A n c l:=by
 rcases open_ints Tryz.underlying38 Tryz.underlying3 gV h with ⟨hcs,_⟩ | ⟨x,l,c,zs,hcs,_,hl,hm,hz,_,hcell,hwz⟩
 ·exact ⟨_,_,_,[],hcs,SlZ.nil W⟩
 obtain ⟨l',hs⟩:=aDD (.inr ⟨_,rfl,hl,hm,by simpa using hz,hcell,hwz⟩)
 exact ⟨_,_,_,l',hcs,hs⟩
theorem aCk {H:Type} {enc:TypeId × Value→H} {W:World} {base b0:Nat} {held:Bool} {v:Value} {d:DataW H} {q:List MemPlace} (hv:Value.okWide Tryz.prog W .any b0 40 v)
  (h:DataW.Trod enc Tryz.prog W base (fun _=>true) held 40 v d q):∃ N Z A1 n1 c1 A2 n2 c2 A3 n3 c3 V Ac Bl,v=.agg (genC N Z A1 n1 c1 A2 n2 c2 A3 n3 c3)∧SlN W A1 n1 c1 V∧SlN W A2 n2 c2 Ac∧SlZ W A3 n3 c3 Bl:=by
 obtain ⟨fuel,hf⟩:=h
 simp only [Value.okWide,Tryz.underlying40] at hv
 obtain ⟨cs,rfl,_,_⟩:=hv
 obtain ⟨xs,m,_,_,hl,hxl,hg⟩:=DataW.trod_struct Tryz.underlying40 hf
 rw [aJY] at hl
 simp only [Value.cells] at hl hg
 have hx5:xs.length=5:=hxl
 obtain ⟨x0,x1,x2,x3,x4,rfl⟩:∃ a b c d e,xs=[a,b,c,d,e]:=by
  match xs,hx5 with
  | [a,b,c,d,e],_=>exact ⟨a,b,c,d,e,rfl⟩
 obtain ⟨cs⟩:=cs
 simp only at hl hg
 obtain ⟨c0,c1,c2,c3,c4,rfl⟩:∃ a b c d e,cs=[a,b,c,d,e]:=by
  match cs,hl with
  | [a,b,c,d,e],_=>exact ⟨a,b,c,d,e,rfl⟩
 have h0:DataW.trod enc Tryz.prog W base (fun _=>true) held m 3 (([c0,c1,c2,c3,c4].drop 0).take (Tryz.prog.cellsOf 3))=some x0:=hg 0 _ rfl
 have h1:DataW.trod enc Tryz.prog W base (fun _=>true) held m 3 (([c0,c1,c2,c3,c4].drop 1).take (Tryz.prog.cellsOf 3))=some x1:=hg 1 _ rfl
 have h2:DataW.trod enc Tryz.prog W base (fun _=>true) held m 37 (([c0,c1,c2,c3,c4].drop 2).take (Tryz.prog.cellsOf 37))=some x2:=hg 2 _ rfl
 have h3:DataW.trod enc Tryz.prog W base (fun _=>true) held m 37 (([c0,c1,c2,c3,c4].drop 3).take (Tryz.prog.cellsOf 37))=some x3:=hg 3 _ rfl
 have h4:DataW.trod enc Tryz.prog W base (fun _=>true) held m 38 (([c0,c1,c2,c3,c4].drop 4).take (Tryz.prog.cellsOf 38))=some x4:=hg 4 _ rfl
 rw [gV] at h0 h1
 rw [aJW] at h2 h3
 rw [aJX] at h4
 obtain ⟨N,e0,_,_⟩:=DataW.trod_int Tryz.underlying3 h0
 obtain ⟨Z,e1,_,_⟩:=DataW.trod_int Tryz.underlying3 h1
 obtain ⟨A1,n1,d1,V,e2,s1⟩:=vA h2
 obtain ⟨A2,n2,d2,Ac,e3,s2⟩:=vA h3
 obtain ⟨A3,n3,d3,Bl,e4,s3⟩:=aJb h4
 simp only [List.drop_zero,List.drop_succ_cons,List.take_succ_cons,List.take_zero,List.cons.injEq,and_true] at e0 e1 e2 e3 e4
 exact ⟨N,Z,A1,n1,d1,A2,n2,d2,A3,n3,d3,V,Ac,Bl,by rw [e0,e1,e2,e3,e4],s1,s2,s3⟩
end
section
open Go.RowKit
attribute [local go_sem ↓] Go.wp_at_zero Go.wp_at_succ
structure LwS (w W:World) (x:StpR) (S:Option Addr) (m d:Nat) (L:List OpR) (sig:List UInt8) (VN PN:List UInt64) (BL:List Int):Prop where
 g:Blk W w.heap.size 40 (genC x.gN x.gZ x.B1 x.m1 x.d1 x.B2 x.m2 x.d2 x.B3 x.m3 x.d3)
 p:Blk W (w.heap.size+1) 44 (ssA x.s)
 t:Blk W (w.heap.size+2) 47 (stA x.ac x.sq x.A x.n x.c S m d)
 hV:SlG W x.B1 x.m1 x.d1 VN
 hN:SlG W x.B2 x.m2 x.d2 PN
 hB:SlZ W x.B3 x.m3 x.d3 BL
 hs:x.s.ok W
 hT:(⟨x.ac,x.sq,x.A,x.n,x.c,S,m,d,L,sig⟩:TxR).ok W
 low:Ext w W
section
variable {w W W':World} {x:StpR} {S:Option Addr} {m d:Nat} {L:List OpR} {sig:List UInt8} {VN PN:List UInt64} {BL:List Int}
theorem LwS.ext (h:LwS w W x S m d L sig VN PN BL) (e:Ext W W'):LwS w W' x S m d L sig VN PN BL:=⟨h.g.ext e,h.p.ext e,h.t.ext e,h.hV.ext e,h.hN.ext e,h.hB.ext e,h.hs.ext e,h.hT.ext e,h.low.trans e⟩
theorem LwS.f (h:LwS w W x S m d L sig VN PN BL):W.cell? ⟨w.heap.size,0,none⟩=some (.int .i64 x.gN)∧W.cell? ⟨w.heap.size,1,none⟩=some (.int .i64 x.gZ)∧W.cell? ⟨w.heap.size,2,none⟩=some (.slice x.B1 x.m1 x.d1)∧W.cell? ⟨w.heap.size,3,none⟩=some (.slice x.B2 x.m2 x.d2)∧W.cell? ⟨w.heap.size,4,none⟩=some (.slice x.B3 x.m3 x.d3)∧W.cell? ⟨w.heap.size+1,0,none⟩=some (.slice x.s.A1 x.s.n1 x.s.c1)∧W.cell? ⟨w.heap.size+1,1,none⟩=some (.slice x.s.A2 x.s.n2 x.s.c2)∧W.cell? ⟨w.heap.size+1,2,none⟩=some (.slice x.s.A3 x.s.n3 x.s.c3)∧W.cell? ⟨w.heap.size+1,3,none⟩=some (.slice x.s.A4 x.s.n4 x.s.c4)∧W.cell? ⟨w.heap.size+1,4,none⟩=some (.int .i64 x.s.G)∧W.cell? ⟨w.heap.size+2,0,none⟩=some (.int .i64 x.ac)∧W.cell? ⟨w.heap.size+2,1,none⟩=some (.int .i64 x.sq)∧W.cell? ⟨w.heap.size+2,2,none⟩=some (.slice x.A x.n x.c)∧W.cell? ⟨w.heap.size+2,3,none⟩=some (.slice S m d) :=
 ⟨h.g.cell 0,h.g.cell 1,h.g.cell 2,h.g.cell 3,h.g.cell 4,h.p.cell 0,h.p.cell 1,h.p.cell 2,h.p.cell 3,h.p.cell 4,h.t.cell 0,h.t.cell 1,h.t.cell 2,h.t.cell 3⟩
theorem LwS.new (hV:SlG w x.B1 x.m1 x.d1 VN) (hN:SlG w x.B2 x.m2 x.d2 PN) (hB:SlZ w x.B3 x.m3 x.d3 BL) (hs:x.s.ok w) (hT:(⟨x.ac,x.sq,x.A,x.n,x.c,S,m,d,L,sig⟩:TxR).ok w) :
  ∃ W,((w.alloc (.cells (genC x.gN x.gZ x.B1 x.m1 x.d1 x.B2 x.m2 x.d2 x.B3 x.m3 x.d3) 40)).alloc (.cells (ssA x.s) 44)).alloc (.cells (stA x.ac x.sq x.A x.n x.c S m d) 47)=W∧Hid (LwS w W x S m d L sig VN PN BL):=by
 have he:=(((Ext.refl w).alloc' (.cells (genC x.gN x.gZ x.B1 x.m1 x.d1 x.B2 x.m2 x.d2 x.B3 x.m3 x.d3) 40)).alloc' (.cells (ssA x.s) 44)).alloc' (.cells (stA x.ac x.sq x.A x.n x.c S m d) 47)
 exact ⟨_,rfl,zh ⟨((Blk.new w 40 (genC x.gN x.gZ x.B1 x.m1 x.d1 x.B2 x.m2 x.d2 x.B3 x.m3 x.d3)).alloc _).alloc _,Blk.alloc (Blk.newAt _ _ _ _ (by simp)) _,Blk.newAt _ _ _ _ (by simp),hV.ext he,hN.ext he,hB.ext he,hs.ext he,hT.ext he,he⟩⟩
end
end
section
open Go.RowKit
def opW (n:Int) (A1:Option Addr) (c1:Nat) (A2:Option Addr) (c2:Nat):OpR:=⟨1,1,n,0,0,0,0,A1,0,c1,[],A2,0,c2,[]⟩
def aLe (n:Int):OpV:=⟨1,1,n,0,0,0,0,[],[]⟩
theorem aMm {n:Int} {R:OpR} {w:World} (h:R.ok w) (hv:R.v=aLe n):∃ A1 c1 A2 c2,R=opW n A1 c1 A2 c2:=by
 obtain ⟨k,to',am,ul,va,lk,hs,A1,n1,c1,pre,A2,n2,c2,prf⟩:=R
 have h1:=h.pre.len
 have h2:=h.prf.len
 unfold OpR.v aLe at hv
 injection hv with e1 e2 e3 e4 e5 e6 e7 e8 e9
 simp only at h1 h2 e1 e2 e3 e4 e5 e6 e7 e8 e9
 subst e1;subst e2;subst e3;subst e4;subst e5;subst e6;subst e7;subst e8;subst e9
 simp only [List.length_nil] at h1 h2
 subst h1;subst h2
 exact ⟨A1,c1,A2,c2,rfl⟩
theorem aLc {n:Int} {L:List OpR} {w:World} (h:∀ R,R ∈ L→R.ok w) (hv:L.map OpR.v=[aLe n]):∃ A1 c1 A2 c2,L=[opW n A1 c1 A2 c2]:=by
 cases L with
 | nil=>simp at hv
 | cons R r =>
  cases r with
  | nil =>
   obtain ⟨A1,c1,A2,c2,rfl⟩:=aMm (h R (by simp)) (by simpa using hv)
   exact ⟨A1,c1,A2,c2,rfl⟩
  | cons _ _=>simp at hv
def S22:StV:=aKx 2 [5,0] 3 1
section
variable (H:List UInt8→UInt64) (ev:OpR→Bool) (A1:Option Addr) (c1:Nat) (A2:Option Addr) (c2:Nat)
theorem vW6:vTx 0 0 [opW 6 A1 c1 A2 c2]=true:=by kernel_rfl
theorem vW4:vTx 0 0 [opW 4 A1 c1 A2 c2]=true:=by kernel_rfl
theorem aNj:eV 1 3 1 2 2 [5,0]=true:=by decide
theorem aNc:S22=⟨[⟨aY 0,5⟩,⟨cN 0,3⟩],[0,0],[],[],0⟩:=by kernel_rfl
theorem aMW:gX (dA 2 1 1 H ev 0) true 2 true S22 0 0 [opW 6 A1 c1 A2 c2]=100:=by kernel_rfl
theorem aMX:gX (dA 2 1 1 H ev 0) true 2 true S22 0 0 [opW 4 A1 c1 A2 c2]=0:=by kernel_rfl
theorem aML:(lQ (dA 2 1 1 H ev 0) true 2 true S22 0 0 [opW 4 A1 c1 A2 c2]).C=[⟨aY 0,1⟩,⟨aY 1,4⟩,⟨cN 0,3⟩]:=by kernel_rfl
theorem aMO:kX 0 0 [opW 4 A1 c1 A2 c2]=4:=by kernel_rfl
theorem aMN:kX 0 0 [opW 6 A1 c1 A2 c2]=6:=by kernel_rfl
theorem aMV:(oW 0 0 [opW 4 A1 c1 A2 c2]).length=2:=by kernel_rfl
theorem aMU:(oW 0 0 [opW 6 A1 c1 A2 c2]).length=2:=by kernel_rfl
theorem aKM:(iP S22 0 0 [opW 6 A1 c1 A2 c2]).C=[⟨aY 0,-1⟩,⟨aY 1,6⟩,⟨cN 0,3⟩]:=by kernel_rfl
theorem aMM:dM [⟨aY 0,-1⟩,⟨aY 1,6⟩,⟨cN 0,3⟩] bW 4=[⟨aY 0,-1⟩,⟨aY 1,6⟩,⟨cN 0,3⟩,⟨bW,4⟩]:=by kernel_rfl
theorem aNo:aMx [⟨aY 0,-1⟩,⟨aY 1,6⟩,⟨cN 0,3⟩,⟨bW,4⟩]=[⟨aY 1,6⟩,⟨cN 0,3⟩,⟨bW,3⟩]:=by kernel_rfl
theorem aNn:xV 1 S22=⟨[⟨aY 0,5⟩,⟨bW,3⟩],[0,0],[],[],1⟩:=by kernel_rfl
theorem aMT:getC [⟨aY 0,1⟩,⟨aY 1,4⟩,⟨cN 0,3⟩] (aY 1)=4:=by kernel_rfl
theorem aMS:getC [⟨aY 0,-1⟩,⟨aY 1,6⟩,⟨cN 0,3⟩] (aY 0)=-1:=by kernel_rfl
theorem aMR:getC [⟨aY 1,6⟩,⟨cN 0,3⟩,⟨bW,3⟩] (aY 0)=0:=by kernel_rfl
theorem aMQ:getC [⟨aY 1,6⟩,⟨cN 0,3⟩,⟨bW,3⟩] bW=3:=by kernel_rfl
theorem aMP:getC [⟨aY 0,5⟩,⟨bW,3⟩] bW=3:=by kernel_rfl
end
end
section
open Go.RowKit
attribute [local go_sem ↓] Go.wp_at_zero Go.wp_at_succ
theorem aFz (seed pb:UInt64) (ac sq:Int) (L:List OpR) (hpb:kL seed 1=pb) (hl:aEA L) (hv:vTx ac sq L=true) (T:TxR) (hT:aIA T) (e:T.v=(ac,sq,L.map OpR.v,wY seed sq.toNat (cB ac sq L))):vSg pb T=true:=by
 obtain ⟨hh,_⟩:=eW hv
 obtain ⟨nm,hnm⟩:∃ nm,cB ac sq L=nm:=⟨_,rfl⟩
 have hsq:((sq.toNat:Nat):Int)=sq:=by omega
 obtain ⟨s,h1,_,h3,h4,_⟩:=aFB seed nm 1 sq.toNat (.inl ⟨rfl,by omega⟩)
 rw [hsq,aEL seed nm hh.2.2.1 hh.2.2.2.1] at h1
 injection h1 with h1
 rw [hpb] at h4
 rw [hnm] at e
 unfold TxR.v at e
 injection e with e1 e
 injection e with e2 e
 injection e with e3 e4
 have hn:=congrArg List.length e3
 rw [List.length_map,List.length_map] at hn
 have hvt:vTx T.ac T.sq T.L=true:=by
  rw [aKp (fun R hR=>aKq (hT.1 R hR).1 (hT.1 R hR).2),e1,e2,e3,← aKp (fun R hR=>aKq (hl R hR).1 (hl R hR).2)]
  exact hv
 have hnt:cB T.ac T.sq T.L=nm:=by
  rw [← hnm]
  unfold cB
  rw [hvt,hv]
  unfold mB
  rw [aIl e3,hn,e1,e2]
 unfold vSg
 rw [hvt,hnt,e4,h1,h4,h3,hsq,e2]
 simp
def lH:UInt64:=144115188075855872
theorem wZ:nmc lH=#[.int .u8 2,.int .u8 0,.int .u8 0,.int .u8 0,.int .u8 0,.int .u8 0,.int .u8 0,.int .u8 0]:=by kernel_rfl
theorem aHl (a b:UInt64) (w:World):(Instr.buildSlice 37 2 #[(0,.agg (nmc a)),(1,.agg (nmc b))]).run Tryz.prog w=.ok (.slice (some ⟨w.heap.size,0,none⟩) 2 2) (w.alloc (.cells (nmc a ++ nmc b) 30)):=by
 rw [← fJ a,← fJ b];kernel_rfl
section
variable {ops:Array Oper} {rest:List Oper} {o:Oper} {a:Act} {w:World} {K:Act→World→Prop} {Q:Exit→Act→World→Prop}
theorem aDm (hgd:o.guard=none) {ty e:TypeId} (x y:Operand) (ho:o.op=.buildSlice ty 2 #[(0,x),(1,y)]) {vx vy:Value} {cs:Array Value} (hx:a.eval x=vx) (hy:a.eval y=vy) (hr:(Instr.buildSlice ty 2 #[(0,vx),(1,vy)]).run Tryz.prog w=.ok (.slice (some ⟨w.heap.size,0,none⟩) 2 2) (w.alloc (.cells cs e)))
  (h:∀ (g:Nat) (W2:World),Hid (Blk W2 g e cs∧Ext w W2)→wpList Tryz.prog ops Q rest (a.put o.dst (.slice (some ⟨g,0,none⟩) 2 2)) W2):wpList Tryz.prog ops Q (o :: rest) a w :=
 oE hgd (aCL x y ho hx hy hr) (h _ _ (zh ⟨Blk.new w e cs,(Ext.refl w).alloc' _⟩))
theorem tU (hgd:o.guard=none) (x y:Operand) (ho:o.op=.store 40 x y) (g:Nat) (N Z:Int) (B1:Option Addr) (m1 d1:Nat) (B2:Option Addr) (m2 d2:Nat) (B3:Option Addr) (m3 d3:Nat) (hx:a.eval x=.pointer (some ⟨g,0,none⟩)) (hy:a.eval y=.agg (genC N Z B1 m1 d1 B2 m2 d2 B3 m3 d3)) {cs:Array Value} (hcs:cs.size=5) (hb:Blk w g 40 cs)
  (h:∀ W,Hid (Blk W g 40 (genC N Z B1 m1 d1 B2 m2 d2 B3 m3 d3)∧w.setCells g 0 (genC N Z B1 m1 d1 B2 m2 d2 B3 m3 d3).toList=W)→wpList Tryz.prog ops Q rest (a.put o.dst undef) W):wpList Tryz.prog ops Q (o :: rest) a w :=
 wpList_store_mid hgd 40 x y ho g 0 (genC N Z B1 m1 d1 B2 m2 d2 B3 m3 d3) hx hy (by have:=aK hb;rw [hcs] at this;exact this) (by kernel_rfl) (by simp [Value.oneCell']) (h _ (zh ⟨aQ (ds:=genC N Z B1 m1 d1 B2 m2 d2 B3 m3 d3) hb (by rw [hcs];rfl),rfl⟩))
end
def aNe (w:World) (e:Ending) (w':World):Prop:=∃ B1 B2 B3:Option Addr,e=.returned (.agg (genC 1 3 B1 1 1 B2 2 2 B3 2 2))∧SlG w' B2 2 2 [kL eD 1,kL lH 1]∧SlG w' B3 2 2 [(5:Int),0]∧SlG w' B1 1 1 [eD]∧Ext w w'
theorem xT (w:World):Calls Tryz.prog 39 #[] w (aNe w):=by
 obtain ⟨W,hW⟩:∃ W,w.alloc (.cells #[.int .i64 0,.int .i64 0,.slice none 0 0,.slice none 0 0,.slice none 0 0] 40)=W:=⟨_,rfl⟩
 have HB:=zh (show Blk W w.heap.size 40 #[.int .i64 0,.int .i64 0,.slice none 0 0,.slice none 0 0,.slice none 0 0] from by rw [← hW];exact Blk.new w _ _)
 have HE:=zh (show Ext w W from by rw [← hW];exact (Ext.refl w).alloc' _)
 obtain ⟨k1,hk1⟩:∃ k,kL eD 1=k:=⟨_,rfl⟩
 obtain ⟨k2,hk2⟩:∃ k,kL lH 1=k:=⟨_,rfl⟩
 have HP1:=zh (fun (V:World)=>nU eD 1 V)
 have HP2:=zh (fun (V:World)=>nU lH 1 V)
 rw [hk1,kK] at HP1
 rw [hk2,wZ] at HP2
 have HBN:=zh (fun (V:World)=>aHl k1 k2 V)
 obtain ⟨v1,hv1⟩:∃ v,Value.agg (nmc k1)=v:=⟨_,rfl⟩
 obtain ⟨v2,hv2⟩:∃ v,Value.agg (nmc k2)=v:=⟨_,rfl⟩
 rw [hv1] at HP1
 rw [hv2] at HP2
 rw [hv1,hv2] at HBN
 obtain ⟨W1,hW1⟩:∃ W1,W.alloc (.cells #[.int .u8 1,.int .u8 0,.int .u8 0,.int .u8 0,.int .u8 0,.int .u8 0,.int .u8 0,.int .u8 0] 30)=W1:=⟨_,rfl⟩
 obtain ⟨X,hX⟩:∃ X,W.heap.size=X:=⟨_,rfl⟩
 have HX:=zh (show Blk W1 X 30 (nmc eD) from by rw [← hW1,← hX,kK];exact Blk.new W _ _)
 have HE1:=zh (show Ext W W1 from by rw [← hW1];exact (Ext.refl W).alloc' _)
 have HXE:=zh hX
 have HK1:=zh hk1
 have HK2:=zh hk2
 show Calls _ _ _ _ (fun e w'=>∃ B1 B2 B3:Option Addr,e=.returned (.agg (genC 1 3 B1 1 1 B2 2 2 B3 2 2))∧SlG w' B2 2 2 [kL eD 1,kL lH 1]∧SlG w' B3 2 2 [(5:Int),0]∧SlG w' B1 1 1 [eD]∧Ext w w')
 rw [hk1,hk2]
 clear hk1 hk2 hv1 hv2 hX
 go_enter Tryz.func39,Tryz.ntmps39
 go_wp2_with fail
 try rw [hW1]
 rw [HXE.out]
 clear hW1
 refine (HP1.out _).mono ?_
 rintro e w1 ⟨rfl,he1⟩
 have HA1:=zh (HE1.out.trans he1)
 have HX1:=zh (HX.out.ext he1)
 clear he1
 go_wp2_with fail
 refine (HP2.out _).mono ?_
 rintro e w2 ⟨rfl,he2⟩
 have HA2:=zh (HA1.out.trans he2)
 have HX2:=zh (HX1.out.ext he2)
 clear he2
 have HZ2:=zh (HB.out.ext HA2.out)
 go_wp2_with (first | ((with_reducible refine aDm (vx:=v1) (vy:=v2) rfl (.tmp 4) (.tmp 6) rfl rfl rfl (HBN.out _) ?_);intro g3 W3 h3;obtain ⟨W4,hW4⟩:∃ W4,W3.alloc (.cells #[.int .i64 5,.int .i64 0] 3)=W4:=⟨_,rfl⟩;have HE4:=zh (show Ext W3 W4 from by rw [← hW4];exact (Ext.refl W3).alloc' _);have HI4:=zh (show Blk W4 W3.heap.size 3 #[.int .i64 5,.int .i64 0] from by rw [← hW4];exact Blk.new W3 _ _);have HZ4:=zh ((HZ2.out.ext h3.out.2).ext HE4.out)) | ((try rw [hW4]);(with_reducible refine tU rfl (.tmp 0) (.tmp 9) rfl w.heap.size 1 3 (some ⟨X,0,none⟩) 1 1 (some ⟨g3,0,none⟩) 2 2 (some ⟨W3.heap.size,0,none⟩) 2 2 rfl rfl rfl HZ4.out ?_);intro W5 h5))
 have hZ:=HZ4.out
 have hb1:Blk W4 X 30 (nmc eD):=(HX2.out.ext h3.out.2).ext HE4.out
 have hb2:Blk W4 g3 30 (nmc k1 ++ nmc k2):=h3.out.1.ext HE4.out
 have hb3:=HI4.out
 have hA:Ext w W4:=HE.out.trans (HA2.out.trans (h3.out.2.trans HE4.out))
 have hst:=h5.out.1
 have h55:=h5.out.2
 have c1:Blk W5 X 30 (nmc eD):=by rw [← h55];exact hb1.setCells_far (aEp hb1 hZ (by decide)) _ _
 have c2:Blk W5 g3 30 (nmc k1 ++ nmc k2):=by rw [← h55];exact hb2.setCells_far (aEp hb2 hZ (by decide)) _ _
 have c3:Blk W5 W3.heap.size 3 #[.int .i64 5,.int .i64 0]:=by rw [← h55];exact hb3.setCells_far (aEp hb3 hZ (by decide)) _ _
 have c4:Ext w W5:=by rw [← h55];exact Below.setCells' hA (Nat.le_refl _) _ _
 refine bodyPost_ret (v:=.agg (genC 1 3 (some ⟨X,0,none⟩) 1 1 (some ⟨g3,0,none⟩) 2 2 (some ⟨W3.heap.size,0,none⟩) 2 2)) (gM rfl _ _ w.heap.size _ rfl (run_loadVar_row _ _ _ _ _ (0,0) _ hst Tryz.underlying40 rfl (by kernel_rfl))) rfl ⟨_,_,_,rfl,⟨rfl,by decide,by decide,?_,fun _ _=>trivial⟩,⟨rfl,by decide,by decide,?_,?_⟩,⟨rfl,by decide,by decide,?_,fun _ _=>trivial⟩,c4⟩
 ·have := Rd.of_blk c2
  rwa [Array.toList_append,bJ,bJ] at this
 ·exact Rd.of_blk c3
 ·intro R hR
  rcases List.mem_cons.1 hR with rfl | hR
  ·show (Lit.int .i64 5).wf=true;decide
  rcases List.mem_cons.1 hR with rfl | hR
  ·show (Lit.int .i64 0).wf=true;decide
  simp at hR
 have:=Rd.of_blk c1
 rwa [bJ] at this
section
variable {ops:Array Oper} {rest:List Oper} {o o2:Oper} {a:Act} {w:World} {K:Act→World→Prop} {Q:Exit→Act→World→Prop}
theorem gI (hgd:o.guard=none) (ty:TypeId) (x y:Operand) (ho:o.op=.store ty x y) (cs ds:Array Value) (v:Value) (hv:Value.agg ds=v) (hx:a.eval x=.pointer (some ⟨w.heap.size,0,none⟩)) (hy:a.eval y=v) (hcs:ds.size=cs.size) (hi:(Tryz.prog.info? ty).map (·.size)=some ds.size) (h1:ds.all (·.oneCell')=true)
  (h:∀ W2 g,Hid (Blk W2 g ty ds∧Ext w W2∧w.heap.size=g)→wpList Tryz.prog ops Q rest (a.put o.dst undef) W2):wpList Tryz.prog ops Q (o :: rest) a (w.alloc (.cells cs ty)):=by
 subst hv
 refine wpList_store_mid hgd ty x y ho w.heap.size 0 ds hx hy (by rw [hcs];exact aK (Blk.new w ty cs)) hi h1 ?_
 rw [dO w ty cs ds hcs]
 exact h _ _ (zh ⟨Blk.new w ty ds,(Ext.refl w).alloc' _,rfl⟩)
theorem cR (hgd:o.guard=none) (ty:TypeId) (x y:Operand) (ho:o.op=.store ty x y) (g:Nat) (cs ds:Array Value) (v:Value) (hv:Value.agg ds=v) (hx:a.eval x=.pointer (some ⟨g,0,none⟩)) (hy:a.eval y=v) (hcs:ds.size=cs.size) (hi:(Tryz.prog.info? ty).map (·.size)=some ds.size) (h1:ds.all (·.oneCell')=true) (hb:Blk w g ty cs)
  (h:∀ W2,Hid (Blk W2 g ty ds∧w.setCells g 0 ds.toList=W2)→wpList Tryz.prog ops Q rest (a.put o.dst undef) W2):wpList Tryz.prog ops Q (o :: rest) a w:=by
 subst hv
 exact wpList_store_mid hgd ty x y ho g 0 ds hx hy (by rw [hcs];exact aK hb) hi h1 (h _ (zh ⟨aQ hb hcs,rfl⟩))
end
theorem aFY (n:Int):opA (opW n none 0 none 0)=#[.int .i64 1,.int .i64 1,.int .i64 n,.int .i64 0,.int .i64 0,.int .u8 0,.int .u8 0,.int .u8 0,.int .u8 0,.int .u8 0,.int .u8 0,.int .u8 0,.int .u8 0,.int .u8 0,.int .u8 0,.int .u8 0,.int .u8 0,.int .u8 0,.int .u8 0,.int .u8 0,.int .u8 0,.slice none 0 0,.slice none 0 0]:=by
 unfold opA opW;simp only [bC 0 (by omega),bC 1 (by omega),bC 2 (by omega),bC 3 (by omega),bC 4 (by omega),bC 5 (by omega),bC 6 (by omega),bC 7 (by omega)]
theorem aMk (n:Int) (w:World) (g:Nat) (t:TypeId) (h:Blk w g t (opA (opW n none 0 none 0))):SlO w (some ⟨g,0,none⟩) 1 1 [opW n none 0 none 0] :=
 ⟨rfl,Nat.le_refl _,by omega,by
  have e:ocs [opW n none 0 none 0]=(opA (opW n none 0 none 0)).toList:=by rw [mS,aET,List.append_nil];rfl
  rw [e];exact Rd.of_blk h,fun R hR=>by
  rw [List.mem_singleton] at hR
  subst hR
  exact ⟨SlB.nil w,SlB.nil w⟩⟩
def tS (n:Int) (A:Option Addr) (c:Nat) (S:Option Addr) (m d:Nat) (A1:Option Addr) (c1:Nat) (A2:Option Addr) (c2:Nat) (sg:List UInt8):TxR:=⟨0,0,A,1,c,S,m,d,[opW n A1 c1 A2 c2],sg⟩
def aNq (n:Int) (w:World) (e:Ending) (w':World):Prop:=∃ (A:Option Addr) (c:Nat) (S:Option Addr) (m d:Nat) (A1:Option Addr) (c1:Nat) (A2:Option Addr) (c2:Nat) (sg:List UInt8),e=.returned (.tuple #[.agg (stA 0 0 A 1 c S m d),.int .i64 0])∧(tS n A c S m d A1 c1 A2 c2 sg).ok w'∧vSg (kL eD 1) (tS n A c S m d A1 c1 A2 c2 sg)=true∧Ext w w'
theorem uE (n:Int) (hn:n=6 ∨ n=4) (w:World):Calls Tryz.prog 41 #[.agg #[.int .u8 1,.int .u8 0,.int .u8 0,.int .u8 0,.int .u8 0,.int .u8 0,.int .u8 0,.int .u8 0],.agg #[.int .i64 0,.int .i64 0,.slice (some ⟨w.heap.size,0,none⟩) 1 1]] (w.alloc (.cells #[.int .i64 1,.int .i64 1,.int .i64 n,.int .i64 0,.int .i64 0,.int .u8 0,.int .u8 0,.int .u8 0,.int .u8 0,.int .u8 0,.int .u8 0,.int .u8 0,.int .u8 0,.int .u8 0,.int .u8 0,.int .u8 0,.int .u8 0,.int .u8 0,.int .u8 0,.int .u8 0,.int .u8 0,.slice none 0 0,.slice none 0 0] 69)) (aNq n w):=by
 rw [← kK,← aFY n]
 refine (xE eD 0 0 (some ⟨w.heap.size,0,none⟩) 1 1 [opW n none 0 none 0] _ (aMk n _ _ 69 (Blk.new w _ _))).mono ?_
 have hV:vTx 0 0 [opW n none 0 none 0]=true:=by rcases hn with rfl | rfl;exact vW6 none 0 none 0;exact vW4 none 0 none 0
 rintro e w' ⟨he,h⟩
 rcases h with ⟨h,-⟩ | ⟨-,T,rfl,hT,hv⟩
 ·rw [hV] at h;cases h
 have hl:aEA [opW n none 0 none 0]:=by
  intro R hR
  rw [List.mem_singleton] at hR
  subst hR
  exact ⟨rfl,rfl⟩
 have h1:=aFz eD _ 0 0 _ rfl hl hV T (aJu hT) hv
 obtain ⟨ac,sq,A,k,c,S,m,d,L,sg⟩:=T
 unfold TxR.v at hv
 simp only [Prod.mk.injEq] at hv
 obtain ⟨rfl,rfl,h3,h4⟩:=hv
 have hops:=hT.ops
 simp only at hops h3 h4
 obtain ⟨A1,c1,A2,c2,rfl⟩:=aLc hops.ok h3
 have h5:1=k:=hops.len
 subst h5
 exact ⟨A,c,S,m,d,A1,c1,A2,c2,sg,rfl,hT,h1,((Ext.refl w).alloc' _).trans he⟩
theorem aMK (H:List UInt8→UInt64) (ev:OpR→Bool) (A1:Option Addr) (c1:Nat) (A2:Option Addr) (c2:Nat):lQ (dA 2 1 1 H ev 0) true 2 true S22 0 0 [opW 6 A1 c1 A2 c2]=S22:=by kernel_rfl
theorem aKW {w:World} {A:Option Addr} {n c:Nat} {l:List Int} (h:SlG w A n c l):SlZ w A n c l:=⟨h.len,h.le,h.cap,by
 have e:gcs l=ics l:=by
  induction l with
  | nil=>rfl
  | cons x r ih =>
   clear h ih
   generalize x :: r=L
   induction L with
   | nil=>rfl
   | cons y q iq=>rw [dD,iq];rfl
 rw [← e];exact h.rd⟩
theorem aEz {w:World} {s:StR} (h:s.ok w) (hv:s.V=S22):s.n1≤200000∧s.n2≤200000∧s.n3≤200000∧s.n4≤200000:=by
 rw [aNc] at hv
 have e1:s.C=_:=congrArg StV.C hv
 have e2:s.Q=_:=congrArg StV.Q hv
 have e3:s.K=_:=congrArg StV.K hv
 have e4:s.P=_:=congrArg StV.P hv
 have l1:=h.s1.len
 have l2:=h.s2.len
 have l3:=h.s3.len
 have l4:=h.s4.len
 rw [e1] at l1;rw [e2] at l2;rw [e3] at l3;rw [e4] at l4
 simp only [List.length_cons,List.length_nil] at l1 l2 l3 l4
 omega
theorem wF (n:Int) (hn:n=6 ∨ n=4) (s:StR) (hv:s.V=S22) (B1 B2 B3 A:Option Addr) (c:Nat) (S:Option Addr) (m d:Nat) (A1:Option Addr) (c1:Nat) (A2:Option Addr) (c2:Nat) (sg:List UInt8) (w:World) (hs:s.ok w) (hN:SlG w B2 2 2 [kL eD 1,kL lH 1]) (hB:SlG w B3 2 2 [(5:Int),0]) (hT:(tS n A c S m d A1 c1 A2 c2 sg).ok w) (hg:vSg (kL eD 1) (tS n A c S m d A1 c1 A2 c2 sg)=true) :
  Calls Tryz.prog 20 #[.agg (genC 1 3 B1 1 1 B2 2 2 B3 2 2),.agg (ssA s),.agg (stA 0 0 A 1 c S m d),.int .i64 1] w (fun e w'=>∃ (s2:StR) (A9:Option Addr) (n9 c9:Nat) (g9:Int),e=.returned (.tuple #[.agg (ssA s2),.agg (rcA ⟨if n=6 then 100 else 0,A9,n9,c9,if n=6 then 0 else 4,g9⟩)])∧s2.ok w'∧(n=6→s2.V=S22)∧(n=4→s2.C=[⟨aY 0,1⟩,⟨aY 1,4⟩,⟨cN 0,3⟩]∧n9=2)∧Ext w w'):=by
 have hA:=sL ⟨1,3,B1,1,1,B2,2,2,B3,2,2,s,0,0,A,1,c,1⟩ S m d [opW n A1 c1 A2 c2] sg [kL eD 1,kL lH 1] [5,0] (fun _=>false) true true _ w hs hT hN (aKW hB) (show (1:Nat)≤9223372036854775807 from by decide) (aEz hs hv) (by
  intro R hR
  rw [List.mem_singleton] at hR
  subst hR
  exact Nat.zero_le _) aNj hg rfl (by
  intro R hR hk
  rw [List.mem_singleton] at hR
  subst hR
  exact absurd (show (1:Int)=6 from hk) (by decide))
 refine hA.mono ?_
 simp only
 rw [hv]
 rintro e w' ⟨s2,A9,n9,c9,rfl,ho,hV,hl,he⟩
 rcases hn with rfl | rfl
 ·rw [aMW] at hl ⊢
  rw [aMK] at hV ⊢
  exact ⟨s2,A9,n9,c9,_,rfl,ho.ok,fun _=>hV,fun h=>absurd h (by decide),he⟩
 rw [aMX] at hl ⊢
 refine ⟨s2,A9,n9,c9,rcG 0 S22 (lQ (dA 2 1 1 cM (fun _=>false) 0) true 2 true S22 0 0 [opW 4 A1 c1 A2 c2]),?_,ho.ok,fun h=>absurd h (by decide),fun _=>⟨?_,?_⟩,he⟩
 ·rw [if_neg (by decide),if_neg (by decide),show rcO 0 0 0 [opW 4 A1 c1 A2 c2]=4 from by unfold rcO;rw [if_pos rfl,aMO]]
 ·exact (congrArg StV.C hV).trans (aML _ _ A1 c1 A2 c2)
 have h1:=hl.len
 unfold rcE at h1
 rw [if_pos rfl,aMV] at h1
 exact h1.symm
end
end Go.Proofs.YtohmmcahpakokaaGreat
