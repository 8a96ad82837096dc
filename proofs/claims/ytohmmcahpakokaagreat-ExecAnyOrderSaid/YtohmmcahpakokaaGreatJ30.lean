/- States that came in (printed by gen_opd.py). -/
import Derived.Test.YtohmmcahpakokaaGreatJ27
import Derived.Test.YtohmmcahpakokaaGreatJ29
set_option maxRecDepth 100000
set_option maxHeartbeats 8000000
set_option linter.unusedVariables false
set_option linter.unusedSimpArgs false
namespace Go.Proofs.YtohmmcahpakokaaGreat
section
open Go.ChangeShapes Go.WideShapes Go.ChangeAt Go.RowKit Go.Deep
theorem aEz:Tryz.prog.cellsOf 32=10:=by kernel_rfl
theorem aEy:Tryz.prog.cellsOf 34=11:=by kernel_rfl
theorem aEx:Tryz.prog.cellsOf 94=19:=by kernel_rfl
theorem aIW:Tryz.prog.cellsOf 42=1:=by kernel_rfl
theorem aIV:Tryz.prog.cellsOf 44=5:=by kernel_rfl
theorem aIU:Tryz.prog.cellsOf 27=1:=by kernel_rfl
theorem aIT:Tryz.prog.cellsOf 38=1:=by kernel_rfl
theorem aIS:Tryz.prog.cellsOf 41=1:=by kernel_rfl
theorem aIR:Tryz.prog.cellsOf 37=1:=by kernel_rfl
theorem aBI {α:Type} {l:List α} (h:l.length=5):∃ x0 x1 x2 x3 x4,l=[x0,x1,x2,x3,x4]:=by
 match l,h with
 | [x0,x1,x2,x3,x4],_=>exact ⟨x0,x1,x2,x3,x4,rfl⟩
theorem aHh {α:Type} {l:List α} (h:l.length=3):∃ x0 x1 x2,l=[x0,x1,x2]:=by
 match l,h with
 | [x0,x1,x2],_=>exact ⟨x0,x1,x2,rfl⟩
section
variable {H:Type} {enc:TypeId × Value→H} {w:World} {base fuel:Nat} {held:Bool} {cs:List Value} {x:DataW H × List MemPlace}
theorem jN {α:Type} [RowT α] {t e:TypeId} (ht:Tryz.prog.underlying t=some (.slice e)) (hsz:Tryz.prog.cellsOf e=RowT.sz α)
  (hel:∀ {fuel:Nat} {cs:List Value} {x:DataW H × List MemPlace},DataW.trod enc Tryz.prog w base (fun _=>true) held fuel e cs=some x→∃ y:α,cs=RowT.enc y∧RowT.ok y w)
  (hone:∀ (y:α) (a:Addr) (v:Value),(RowT.enc y)[0]?=some v→w.cell? a=some v→a.spot=none)
  (h:DataW.trod enc Tryz.prog w base (fun _=>true) held fuel t cs=some x):∃ A n c,∃ L:List α,cs=[.slice A n c]∧SlG w A n c L:=by
 rcases open_slice ht h with ⟨hcs,_⟩ | ⟨x,l,c',m,n,D,Pl,hcs,_,hl,hm,hmm,_,hi⟩
 ·exact ⟨none,0,0,[],hcs,SlG.nil w⟩
 rw [if_pos rfl] at hmm
 subst hmm
 have hcell:∀ j,j < l→∃ y:α,(∀ q v,(RowT.enc y)[q]?=some v→w.cell? ((x.add (j * RowT.sz α)).add q)=some v)∧RowT.ok y w:=by
  intro j hj
  obtain ⟨cs',hc,ht⟩:=hi j (by omega)
  obtain ⟨y,rfl,hyo⟩:=hel ht
  rw [hsz] at hc
  obtain ⟨_,hln,hat⟩:=World.cells?_some hc
  refine ⟨y,fun q v hv=>?_,hyo⟩
  have hq:=(List.getElem?_eq_some_iff.1 hv).1
  have:=hat q (by rw [RowT.len] at hq;omega)
  rw [this,hv]
 rcases Nat.eq_zero_or_pos l with rfl | h0
 ·exact ⟨_,0,_,[],hcs,rfl,Nat.zero_le _,by unfold maxLen at hm;omega,.nil,fun R hR=>by cases hR⟩
 have hx:x.spot=none:=by
  obtain ⟨y,hy,_⟩:=hcell 0 h0
  have hp:0 < (RowT.enc y).length:=by rw [RowT.len];exact RowT.pos
  have:=hy 0 _ (List.getElem?_eq_getElem hp)
  have e0:((x.add (0 * RowT.sz α)).add 0)=x:=by simp [Addr.add]
  rw [e0] at this
  exact hone y x _ (List.getElem?_eq_getElem hp) this
 obtain ⟨bl,ol,sp⟩:=x
 simp only at hx
 subst hx
 obtain ⟨L,hL,hr,hok⟩:=aJR (α:=α) (w:=w) (b:=bl) (o:=ol) rfl l (fun j hj=>by
  obtain ⟨y,hy,hyo⟩:=hcell j hj
  refine ⟨y,fun q v hv=>?_,hyo⟩
  have:=hy q v hv
  rwa [Addr.add_mid,Addr.add_mid] at this)
 exact ⟨_,l,_,L,hcs,hL,hl,by unfold maxLen at hm;omega,.inr ⟨bl,ol,rfl,hr⟩,hok⟩
theorem aGW (h:DataW.trod enc Tryz.prog w base (fun _=>true) held fuel 32 cs=some x):∃ C:CeR,cs=ceL C∧ceW C:=by
 obtain ⟨xs,m,_,_,hl,hxl,hg⟩:=DataW.trod_struct Tryz.underlying32 h
 rw [aEz] at hl
 obtain ⟨x0,x1,x2,rfl⟩:=aHh (show xs.length=3 from hxl)
 have h0:DataW.trod enc Tryz.prog w base (fun _=>true) held m 3 ((cs.drop 0).take (Tryz.prog.cellsOf 3))=some x0:=hg 0 _ rfl
 rw [jD] at h0
 have h1:DataW.trod enc Tryz.prog w base (fun _=>true) held m 3 ((cs.drop 1).take (Tryz.prog.cellsOf 3))=some x1:=hg 1 _ rfl
 rw [jD] at h1
 have h2:DataW.trod enc Tryz.prog w base (fun _=>true) held m 30 ((cs.drop 2).take (Tryz.prog.cellsOf 30))=some x2:=hg 2 _ rfl
 rw [nJ] at h2
 obtain ⟨k,e0,_,w0⟩:=DataW.trod_int Tryz.underlying3 h0
 obtain ⟨i,e1,_,w1⟩:=DataW.trod_int Tryz.underlying3 h1
 obtain ⟨l,e2⟩:=kV h2
 rw [bF,fF] at e2
 refine ⟨⟨k,i,l⟩,?_,⟨w0,w1⟩⟩
 have e:cs=cs.drop 0:=rfl
 rw [e,dG cs (0) 1,e0,dG cs (0+1) 1,e1,dG cs (0+1+1) 8,e2,List.drop_of_length_le (by omega)]
 rfl
theorem aGV (h:DataW.trod enc Tryz.prog w base (fun _=>true) held fuel 34 cs=some x):∃ C:DeR,cs=deL C∧deW C:=by
 obtain ⟨xs,m,_,_,hl,hxl,hg⟩:=DataW.trod_struct Tryz.underlying34 h
 rw [aEy] at hl
 obtain ⟨x0,x1,rfl⟩:=aLj (show xs.length=2 from hxl)
 have h0:DataW.trod enc Tryz.prog w base (fun _=>true) held m 32 ((cs.drop 0).take (Tryz.prog.cellsOf 32))=some x0:=hg 0 _ rfl
 rw [aEz] at h0
 have h1:DataW.trod enc Tryz.prog w base (fun _=>true) held m 3 ((cs.drop 10).take (Tryz.prog.cellsOf 3))=some x1:=hg 1 _ rfl
 rw [jD] at h1
 obtain ⟨c,e0,w0⟩:=aGW h0
 obtain ⟨a,e1,_,w1⟩:=DataW.trod_int Tryz.underlying3 h1
 refine ⟨⟨c,a⟩,?_,⟨w0,w1⟩⟩
 have e:cs=cs.drop 0:=rfl
 rw [e,dG cs (0) 10,e0,dG cs (0+10) 1,e1,List.drop_of_length_le (by omega)]
 rfl
theorem aGR (h:DataW.trod enc Tryz.prog w base (fun _=>true) held fuel 94 cs=some x):∃ C:LkR,cs=lkL C∧lkW C:=by
 obtain ⟨xs,m,_,_,hl,hxl,hg⟩:=DataW.trod_struct Tryz.underlying94 h
 rw [aEx] at hl
 obtain ⟨x0,x1,x2,x3,x4,rfl⟩:=aBI (show xs.length=5 from hxl)
 have h0:DataW.trod enc Tryz.prog w base (fun _=>true) held m 30 ((cs.drop 0).take (Tryz.prog.cellsOf 30))=some x0:=hg 0 _ rfl
 rw [nJ] at h0
 have h1:DataW.trod enc Tryz.prog w base (fun _=>true) held m 30 ((cs.drop 8).take (Tryz.prog.cellsOf 30))=some x1:=hg 1 _ rfl
 rw [nJ] at h1
 have h2:DataW.trod enc Tryz.prog w base (fun _=>true) held m 3 ((cs.drop 16).take (Tryz.prog.cellsOf 3))=some x2:=hg 2 _ rfl
 rw [jD] at h2
 have h3:DataW.trod enc Tryz.prog w base (fun _=>true) held m 3 ((cs.drop 17).take (Tryz.prog.cellsOf 3))=some x3:=hg 3 _ rfl
 rw [jD] at h3
 have h4:DataW.trod enc Tryz.prog w base (fun _=>true) held m 3 ((cs.drop 18).take (Tryz.prog.cellsOf 3))=some x4:=hg 4 _ rfl
 rw [jD] at h4
 obtain ⟨n1,e0⟩:=kV h0
 rw [bF,fF] at e0
 obtain ⟨n2,e1⟩:=kV h1
 rw [bF,fF] at e1
 obtain ⟨a,e2,_,w2⟩:=DataW.trod_int Tryz.underlying3 h2
 obtain ⟨b,e3,_,w3⟩:=DataW.trod_int Tryz.underlying3 h3
 obtain ⟨c,e4,_,w4⟩:=DataW.trod_int Tryz.underlying3 h4
 refine ⟨⟨n1,n2,a,b,c⟩,?_,⟨w2,w3,w4⟩⟩
 have e:cs=cs.drop 0:=rfl
 rw [e,dG cs (0) 8,e0,dG cs (0+8) 8,e1,dG cs (0+8+8) 1,e2,dG cs (0+8+8+1) 1,e3,dG cs (0+8+8+1+1) 1,e4,List.drop_of_length_le (by omega)]
 rfl
theorem aGP (h:DataW.trod enc Tryz.prog w base (fun _=>true) held fuel 30 cs=some x):∃ y:UInt64,cs=nmL y∧True:=by
 obtain ⟨y,e⟩:=kV h
 rw [bF] at e
 exact ⟨y,e,trivial⟩
theorem aGT (h:DataW.trod enc Tryz.prog w base (fun _=>true) held fuel 3 cs=some x):∃ y:Int,cs=inL y∧wfI y:=by
 obtain ⟨y,e,_,w0⟩:=DataW.trod_int Tryz.underlying3 h
 exact ⟨y,e,w0⟩
theorem aGU (h:DataW.trod enc Tryz.prog w base (fun _=>true) held fuel 27 cs=some x):∃ A n c,∃ L:List DeR,cs=[.slice A n c]∧SlG w A n c L :=
 jN Tryz.underlying27 aEy (fun h=>aGV h) (fun y a v hv hc=>by have e:=Option.some.inj hv;subst e;exact hI hc) h
theorem aGQ (h:DataW.trod enc Tryz.prog w base (fun _=>true) held fuel 41 cs=some x):∃ A n c,∃ L:List LkR,cs=[.slice A n c]∧SlG w A n c L :=
 jN Tryz.underlying41 aEx (fun h=>aGR h) (fun y a v hv hc=>by have e:=Option.some.inj hv;subst e;exact hI hc) h
theorem aGO (h:DataW.trod enc Tryz.prog w base (fun _=>true) held fuel 37 cs=some x):∃ A n c,∃ L:List UInt64,cs=[.slice A n c]∧SlG w A n c L :=
 jN Tryz.underlying37 nJ (fun h=>aGP h) (fun y a v hv hc=>by have hv:(nmL y)[0]?=some v:=hv;rw [nmL,fF] at hv;have e:=Option.some.inj hv;subst e;exact hI hc) h
theorem aGS (h:DataW.trod enc Tryz.prog w base (fun _=>true) held fuel 38 cs=some x):∃ A n c,∃ L:List Int,cs=[.slice A n c]∧SlG w A n c L :=
 jN Tryz.underlying38 jD (fun h=>aGT h) (fun y a v hv hc=>by have e:=Option.some.inj hv;subst e;exact hI hc) h
theorem aBz (h:DataW.trod enc Tryz.prog w base (fun _=>true) held fuel 44 cs=some x):∃ s:StR,cs=(ssA s).toList∧s.ok w:=by
 obtain ⟨xs,m,_,_,hl,hxl,hg⟩:=DataW.trod_struct Tryz.underlying44 h
 rw [aIV] at hl
 obtain ⟨x0,x1,x2,x3,x4,rfl⟩:=aBI (show xs.length=5 from hxl)
 have h0:DataW.trod enc Tryz.prog w base (fun _=>true) held m 27 ((cs.drop 0).take (Tryz.prog.cellsOf 27))=some x0:=hg 0 _ rfl
 rw [aIU] at h0
 have h1:DataW.trod enc Tryz.prog w base (fun _=>true) held m 38 ((cs.drop 1).take (Tryz.prog.cellsOf 38))=some x1:=hg 1 _ rfl
 rw [aIT] at h1
 have h2:DataW.trod enc Tryz.prog w base (fun _=>true) held m 41 ((cs.drop 2).take (Tryz.prog.cellsOf 41))=some x2:=hg 2 _ rfl
 rw [aIS] at h2
 have h3:DataW.trod enc Tryz.prog w base (fun _=>true) held m 37 ((cs.drop 3).take (Tryz.prog.cellsOf 37))=some x3:=hg 3 _ rfl
 rw [aIR] at h3
 have h4:DataW.trod enc Tryz.prog w base (fun _=>true) held m 42 ((cs.drop 4).take (Tryz.prog.cellsOf 42))=some x4:=hg 4 _ rfl
 rw [aIW] at h4
 obtain ⟨A1,n1,c1,L1,e0,w0⟩:=aGU h0
 obtain ⟨A2,n2,c2,L2,e1,w1⟩:=aGS h1
 obtain ⟨A3,n3,c3,L3,e2,w2⟩:=aGQ h2
 obtain ⟨A4,n4,c4,L4,e3,w3⟩:=aGO h3
 obtain ⟨g,e4,_,w4⟩:=DataW.trod_int Tryz.underlying42 h4
 refine ⟨⟨A1,n1,c1,L1,A2,n2,c2,L2,A3,n3,c3,L3,A4,n4,c4,L4,g⟩,?_,⟨w0,w1,w2,w3,w4⟩⟩
 have e:cs=cs.drop 0:=rfl
 rw [e,dG cs (0) 1,e0,dG cs (0+1) 1,e1,dG cs (0+1+1) 1,e2,dG cs (0+1+1+1) 1,e3,dG cs (0+1+1+1+1) 1,e4,List.drop_of_length_le (by omega)]
 rfl
end
theorem aDi {H:Type} {enc:TypeId × Value→H} {W:World} {base b0:Nat} {held:Bool} {v:Value} {d:DataW H} {q:List MemPlace} (hv:Value.okWide Tryz.prog W .any b0 44 v)
  (h:DataW.Trod enc Tryz.prog W base (fun _=>true) held 44 v d q):∃ s:StR,v=.agg (ssA s)∧s.ok W:=by
 obtain ⟨fuel,hf⟩:=h
 simp only [Value.okWide,Tryz.underlying44] at hv
 obtain ⟨cs,rfl,_,_⟩:=hv
 obtain ⟨s,e,h1⟩:=aBz hf
 refine ⟨s,?_,h1⟩
 congr 1
 apply Array.toList_inj.1
 exact e
end
section
open Go.RowKit
attribute [local go_sem ↓] Go.wp_at_zero Go.wp_at_succ
theorem vB {w:World} {A:Option Addr} {n c:Nat} {C:List DeR} (h:SlG w A n c C) {k:Nat} (hk:k < n):∃ b o,A=some ⟨b,o,none⟩∧w.cell? ⟨b,o+k * 11+10,none⟩=some (.int .i64 (nthG C k).a):=by
 obtain ⟨b,o,rfl,hr,-⟩:=h.at (by omega)
 have h1:w.rangeAt b (o+k * 11) (RowT.enc (nthG C k)):=cG hr (by rw [h.len];exact hk)
 exact ⟨b,o,rfl,h1 10 _ rfl⟩
theorem gY (s:StR) (c:CeR) (w:World) (h:s.ok w) (hc:ceW c):Calls Tryz.prog 67 #[.agg (ssA s),.agg (ceA c)] w fun e w'=>e=.returned (.int .i64 (bW s.C c))∧Ext w w':=by
 obtain ⟨W,hW⟩:∃ W,((w.alloc (.cells (ssA s) 44)).alloc (.cells (ceA c) 32))=W:=⟨_,rfl⟩
 have HB:=zh (show Blk W w.heap.size 44 (ssA s) from by rw [← hW];exact (Blk.new w 44 (ssA s)).alloc _)
 have HC:=zh (show Blk W (w.heap.size+1) 32 (ceA c) from by rw [← hW];exact Blk.newAt _ _ _ _ (by simp))
 have HE:=zh (show Ext w W from by rw [← hW];exact ((Ext.refl w).alloc' _).alloc' _)
 have q0:=HB.out.cell 0
 have q1:=HB.out.cell 1
 have q2:=HB.out.cell 2
 have q3:=HB.out.cell 3
 have q4:=HB.out.cell 4
 have r1:W.rangeAt (w.heap.size+1) 0 (RowT.enc c):=aD HC.out
 have HS:=zh h
 have hl1:=h.s1.len
 have hle:=h.s1.le
 have hcap:=h.s1.cap
 have HCW:=zh hc
 obtain ⟨v1,hv1⟩:∃ v,Value.agg (ceA c)=v:=⟨_,rfl⟩
 have HV1:=zh hv1
 have HL:=zh hl1
 rcases iS (fun x:DeR=>decide (x.c=c)) s.C with hno | ⟨k,hk,h1,h2⟩
 ·have HF := zh (vG s c W (h.ext HE.out) hc (-1) (.inl ⟨rfl, hno⟩))
  have HG:=zh (dV (sZ hno))
  rw [hv1] at HF
  clear hno h hc hv1 hl1
  go_enter Tryz.func67,Tryz.ntmps67
  go_wp2_with (first | (with_reducible refine aB ceP rfl (.tmp 3) rfl (w.heap.size+1) 0 rfl c v1 HV1.out r1 ?_) | fail "A")
  refine HF.out.mono ?_
  rintro e w5 ⟨rfl,he5⟩
  have HX:=zh (HE.out.trans he5)
  clear hW
  clear he5 r1 q0 q1 q2 q3 q4
  go_wp2_with fail
  go_ret
  exact ⟨by rw [HG.out];rfl,HX.out⟩
 have HF:=zh (vG s c W (h.ext HE.out) hc (k:Int) (.inr ⟨k,rfl,hk,h1,h2⟩))
 have HG:=zh (dV (qE hk h1 h2))
 have hk':k < s.n1:=by omega
 rw [hv1] at HF
 clear h1 h2 h hc hv1 hl1 hk
 go_enter Tryz.func67,Tryz.ntmps67
 go_wp2_with (first | (with_reducible refine aB ceP rfl (.tmp 3) rfl (w.heap.size+1) 0 rfl c v1 HV1.out r1 ?_) | fail "A")
 refine HF.out.mono ?_
 rintro e w5 ⟨rfl,he5⟩
 have HX:=zh (HE.out.trans he5)
 clear hW
 have p0:w5.cell? ⟨w.heap.size,0,none⟩=some (.slice s.A1 s.n1 s.c1):=(HB.out.ext he5).cell 0
 obtain ⟨b,o,hA,hcell⟩:=vB (HS.out.ext HX.out).s1 hk'
 rw [hA] at p0
 have i0:(0:Int)≤(k:Int):=by omega
 have i1:(k:Int) < (s.n1:Int):=by omega
 clear he5 r1 q0 q1 q2 q3 q4 hA
 go_wp2_with fail
 go_ret
 exact ⟨by rw [HG.out];rfl,HX.out⟩
theorem aHg {L:List UInt64} {x:UInt64}:(∃ k,k < L.length∧nthG L k=x) ↔ x ∈ L:=by
 constructor
 ·rintro ⟨k,hk,rfl⟩;exact gE hk
 intro h
 obtain ⟨k,hk,rfl⟩:=List.getElem_of_mem h
 exact ⟨k,hk,(cC hk).symm⟩
def aKH (L:List UInt64) (x:UInt64) (w:World) (e:Ending) (w':World):Prop:=∃ r:Int,e=.returned (.int .i64 r)∧(decide (r ≥ 0)=decide (x ∈ L))∧Ext w w'
theorem aFE (A:Option Addr) (n c:Nat) (L:List UInt64) (x:UInt64) (w:World) (h:SlG w A n c L):Calls Tryz.prog 181 #[.slice A n c,.agg (nmc x)] w (aKH L x w):=by
 have HS:=zh (h.ext ((Ext.refl w).alloc' (.cells (nmc x) 30)))
 have HB:=zh (Blk.new w 30 (nmc x))
 have HE:=zh ((Ext.refl w).alloc' (.cells (nmc x) 30))
 have hle:=h.le
 have hcap:=h.cap
 have HL:=zh h.len
 obtain ⟨W,hW⟩:∃ W,w.alloc (.cells (nmc x) 30)=W:=⟨_,rfl⟩
 rw [hW] at HS HB HE
 clear h
 go_enter Tryz.func181,Tryz.ntmps181
 go_wp2_with fail
 clear hW
 go_loopw [8] (fun vi wr=>∃ k:Nat,vi=.int .i64 (k:Int)∧k≤n∧Hid (∀ j,j < k→nthG L j ≠ x)∧Hid (Ext W wr)) (fun i _=>n - (intOf i).toNat)
 case atStart=>exact ⟨0,rfl,Nat.zero_le _,zh (fun j hj=>absurd hj (Nat.not_lt_zero _)),zh (Ext.refl W)⟩
 case round =>
  obtain ⟨k,rfl,hk,HN,HX⟩:=hrel
  by_cases hlt:k < n
  ·have i0 : (0 : Int) ≤ (k : Int) := by omega
   have i1:(k:Int) < (n:Int):=by omega
   have HS2:=zh (HS.out.ext HX.out)
   obtain ⟨b,o,rfl,hrow,-⟩:=HS2.out.at (by omega)
   have hr:wr.rangeAt b (o+k * 8) (RowT.enc (nthG L k)):=cG hrow (by rw [HL.out];exact hlt)
   have HR:=zh hr
   have HB2:=zh (HB.out.ext HX.out)
   by_cases he:x=nthG L k
   ·have HM := zh (aHg.1 ⟨k, by rw [HL.out]; exact hlt, he.symm⟩)
    obtain ⟨b,hb⟩:∃ b,decide (x=nthG L k)=b:=⟨_,rfl⟩
    have HD:=zh hb
    obtain rfl:true=b:=by rw [← hb,decide_eq_true he]
    clear hb he hr hrow
    go_wp2_with fail
    refine wp_region_held_drew (S:=fun V=>Blk V w.heap.size 30 (nmc x)∧V.rangeAt b (o+k * 8) (RowT.enc (nthG L k))) (by kernel_rfl) (⟨HB2.out.drew,HR.out⟩) (fun aA=>?_)
    refine zu 0 (v:=.agg (nmc x)) aA ?_ (hy:=by exact aF nmP (by rfl) (.tmp 3) rfl w.heap.size 0 rfl x _ rfl (fun V h=>bM h.1))
    refine zzr [1,2,3] ?_
    refine zu 4 (v:=.agg (nmc (nthG L k))) aA ?_ (hy:=by exact aF nmP (by rfl) (.tmp 14) rfl b (o+k * 8) rfl (nthG L k) _ rfl (fun V h=>h.2))
    refine zu 5 (v:=.bool true) aA ?_ (hy:=by exact cI (vx:=.agg (nmc x)) (vy:=.agg (nmc (nthG L k))) (by rfl) (.tmp 11) (.tmp 15) rfl rfl rfl (fun w=>gI _ _ _ _ _ w) (fun w=>by rw [cO,HD.out]))
    refine wpAnyH_done (by kernel_rfl) ?_ _
    clear aA
    go_wp2_with fail
    go_ret
    exact ⟨_,rfl,by rw [decide_eq_true HM.out,decide_eq_true (by omega)],HE.out.trans (HX.out.trans ((Ext.refl wr).drew'))⟩
   have HN2:=zh (show ∀ j,j < k+1→nthG L j ≠ x from fun j hj e=>by
    by_cases e2:j=k
    ·rw [e2] at e;exact he e.symm
    exact HN.out j (by omega) e)
   obtain ⟨b,hb⟩:∃ b,decide (x=nthG L k)=b:=⟨_,rfl⟩
   have HD:=zh hb
   obtain rfl:false=b:=by rw [← hb,decide_eq_false he]
   clear hb he hr hrow
   go_wp2_with fail
   refine wp_region_held_drew (S:=fun V=>Blk V w.heap.size 30 (nmc x)∧V.rangeAt b (o+k * 8) (RowT.enc (nthG L k))) (by kernel_rfl) (⟨HB2.out.drew,HR.out⟩) (fun aA=>?_)
   refine zu 0 (v:=.agg (nmc x)) aA ?_ (hy:=by exact aF nmP (by rfl) (.tmp 3) rfl w.heap.size 0 rfl x _ rfl (fun V h=>bM h.1))
   refine zzr [1,2,3] ?_
   refine zu 4 (v:=.agg (nmc (nthG L k))) aA ?_ (hy:=by exact aF nmP (by rfl) (.tmp 14) rfl b (o+k * 8) rfl (nthG L k) _ rfl (fun V h=>h.2))
   refine zu 5 (v:=.bool false) aA ?_ (hy:=by exact cI (vx:=.agg (nmc x)) (vy:=.agg (nmc (nthG L k))) (by rfl) (.tmp 11) (.tmp 15) rfl rfl rfl (fun w=>gI _ _ _ _ _ w) (fun w=>by rw [cO,HD.out]))
   refine wpAnyH_done (by kernel_rfl) ?_ _
   clear aA
   have HX2:=zh (HX.out.trans ((Ext.refl wr).drew'))
   go_wp2_with fail
   go_roundw
   case rel=>exact ⟨k+1,by go_num,hlt,HN2,HX2⟩
   case measure=>simp [intOf];omega
  have i1:¬ (k:Int) < (n:Int):=by omega
  have HM:=zh (show ¬ x ∈ L from fun h=>by
   obtain ⟨j,hj,e⟩:=aHg.2 h
   exact HN.out j (by rw [HL.out] at hj;omega) e)
  go_wp2_with fail
  go_ret
  exact ⟨-1,rfl,by rw [decide_eq_false HM.out];rfl,HE.out.trans HX.out⟩
theorem aFF (A:Option Addr) (n c:Nat) (L:List UInt64) (x:UInt64) (w:World) (h:SlG w A n c L):Calls Tryz.prog 123 #[.slice A n c,.agg (nmc x)] w fun e w'=>e=.returned (.bool (decide (x ∈ L)))∧Ext w w':=by
 have HE:=zh ((Ext.refl w).alloc' (.cells (nmc x) 30))
 have HS:=zh (h.ext HE.out)
 have r0:(w.alloc (.cells (nmc x) 30)).rangeAt w.heap.size 0 (RowT.enc x):=bM (Blk.new w 30 (nmc x))
 clear h
 go_enter Tryz.func123,Tryz.ntmps123
 go_wp2_with (first | (with_reducible refine aB nmP rfl (.tmp 3) rfl w.heap.size 0 rfl x _ rfl r0 ?_) | fail "A")
 refine (aFE A n c L x _ HS.out).mono ?_
 rintro e w5 ⟨r,rfl,hr,he5⟩
 have HR:=zh hr
 have HX:=zh (HE.out.trans he5)
 clear hr he5 r0
 go_wp2_with fail
 go_ret
 exact ⟨by rw [← HR.out];rfl,HX.out⟩
theorem fM (s:StR) (x:UInt64) (w:World) (h:s.ok w):Calls Tryz.prog 63 #[.agg (ssA s),.agg (nmc x)] w fun e w'=>e=.returned (.bool (decide (x ∈ s.P)))∧Ext w w':=by
 obtain ⟨W,hW⟩:∃ W,((w.alloc (.cells (ssA s) 44)).alloc (.cells (nmc x) 30))=W:=⟨_,rfl⟩
 have HB:=zh (show Blk W w.heap.size 44 (ssA s) from by rw [← hW];exact (Blk.new w 44 (ssA s)).alloc _)
 have HC:=zh (show Blk W (w.heap.size+1) 30 (nmc x) from by rw [← hW];exact Blk.newAt _ _ _ _ (by simp))
 have HE:=zh (show Ext w W from by rw [← hW];exact ((Ext.refl w).alloc' _).alloc' _)
 have q3:W.cell? ⟨w.heap.size,3,none⟩=some (.slice s.A4 s.n4 s.c4):=HB.out.cell 3
 have r1:W.rangeAt (w.heap.size+1) 0 (RowT.enc x):=bM HC.out
 have HS:=zh (h.ext HE.out).s4
 clear h
 go_enter Tryz.func63,Tryz.ntmps63
 go_wp2_with (first | (with_reducible refine aB nmP rfl (.tmp 3) rfl (w.heap.size+1) 0 rfl x _ rfl r1 ?_) | fail "A")
 refine (aFF s.A4 s.n4 s.c4 s.P x _ HS.out).mono ?_
 rintro e w5 ⟨rfl,he5⟩
 have HX:=zh (HE.out.trans he5)
 clear he5 q3 r1 hW
 go_wp2_with fail
 go_ret
 exact ⟨rfl,HX.out⟩
def lkO:Option LkR→LkR
 | none=>⟨0,0,0,0,0⟩
 | some l=>l
theorem aEs {K:List LkR} {n:UInt64} (h:∀ k,k < K.length→decide ((nthG K k).nm=n)=false):fdK K n=none:=by
 unfold fdK
 rw [List.find?_eq_none]
 intro l hl
 obtain ⟨k,hk,rfl⟩:=List.getElem_of_mem hl
 rw [cC hk,h k hk];decide
theorem aAn:∀ {K:List LkR} {n:UInt64} {k:Nat},k < K.length→decide ((nthG K k).nm=n)=true→(∀ j,j < k→decide ((nthG K j).nm=n)=false)→fdK K n=some (nthG K k)
 | [],n,k,hk,_,_=>by simp at hk
 | d :: r,n,0,_,h1,_=>by unfold fdK;rw [List.find?_cons,show decide (d.nm=n)=true from h1];rfl
 | d :: r,n,k+1,hk,h1,h2=>by
  have h0:=h2 0 (by omega)
  unfold fdK
  rw [List.find?_cons,show decide (d.nm=n)=false from h0]
  exact aAn (K:=r) (by simpa using hk) h1 (fun j hj=>h2 (j+1) (by omega))
theorem aIi:lkA (⟨0,0,0,0,0⟩:LkR)=lk0:=by unfold lkA lk0;simp only [cN 0 (by omega),cN 1 (by omega),cN 2 (by omega),cN 3 (by omega),cN 4 (by omega),cN 5 (by omega),cN 6 (by omega),cN 7 (by omega)]
end
end Go.Proofs.YtohmmcahpakokaaGreat
