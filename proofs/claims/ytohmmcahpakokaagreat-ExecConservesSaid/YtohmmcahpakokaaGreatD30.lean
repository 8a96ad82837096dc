/- States that came in (printed by gen_opd.py). -/
import Derived.Test.YtohmmcahpakokaaGreatD22
import Derived.Test.YtohmmcahpakokaaGreatD28
set_option maxRecDepth 100000
set_option maxHeartbeats 8000000
set_option linter.unusedSectionVars false
set_option linter.unusedVariables false
set_option linter.unusedSimpArgs false
namespace Go.Proofs.YtohmmcahpakokaaGreat
section
open Go.ChangeShapes Go.WideShapes Go.ChangeAt Go.RowKit Go.Deep
theorem cellsD0:Tryz.prog.cellsOf 32=10:=by kernel_rfl
theorem cellsD1:Tryz.prog.cellsOf 34=11:=by kernel_rfl
theorem cellsD2:Tryz.prog.cellsOf 94=19:=by kernel_rfl
theorem cellsD3:Tryz.prog.cellsOf 42=1:=by kernel_rfl
theorem cellsD4:Tryz.prog.cellsOf 44=5:=by kernel_rfl
theorem cellsD5:Tryz.prog.cellsOf 27=1:=by kernel_rfl
theorem cellsD6:Tryz.prog.cellsOf 38=1:=by kernel_rfl
theorem cellsD7:Tryz.prog.cellsOf 41=1:=by kernel_rfl
theorem cellsD8:Tryz.prog.cellsOf 37=1:=by kernel_rfl
theorem listOf5D {α:Type} {l:List α} (h:l.length=5):∃ x0 x1 x2 x3 x4,l=[x0,x1,x2,x3,x4]:=by
 match l,h with
 | [x0,x1,x2,x3,x4],_=>exact ⟨x0,x1,x2,x3,x4,rfl⟩
theorem listOf3D {α:Type} {l:List α} (h:l.length=3):∃ x0 x1 x2,l=[x0,x1,x2]:=by
 match l,h with
 | [x0,x1,x2],_=>exact ⟨x0,x1,x2,rfl⟩
section
variable {H:Type} {enc:TypeId × Value→H} {w:World} {base fuel:Nat} {held:Bool} {cs:List Value} {x:DataW H × List MemPlace}
theorem open_rowsD {α:Type} [RowT α] {t e:TypeId} (ht:Tryz.prog.underlying t=some (.slice e)) (hsz:Tryz.prog.cellsOf e=RowT.sz α)
  (hel:∀ {fuel:Nat} {cs:List Value} {x:DataW H × List MemPlace},DataW.trod enc Tryz.prog w base (fun _=>true) held fuel e cs=some x→∃ y:α,cs=RowT.enc y∧RowT.ok y w)
  (hone:∀ (y:α) (a:Addr) (v:Value),(RowT.enc y)[0]?=some v→w.cell? a=some v→a.spot=none)
  (h:DataW.trod enc Tryz.prog w base (fun _=>true) held fuel t cs=some x):∃ A n c,∃ L:List α,cs=[.slice A n c]∧SlG w A n c L:=by
 rcases open_slice ht h with ⟨hcs,_⟩ | ⟨x,l,c',m,n,D,Pl,hcs,_,hl,hm,hmm,_,hi⟩
 ·exact ⟨none,0,0,[],hcs,SlG.nil w⟩
 rw [if_pos rfl] at hmm
 subst hmm
 have hcell:∀ j,j < l→∃ y:α,(∀ q v,(RowT.enc y)[q]?=some v→w.cell? ((x.add (j * RowT.sz α)).add q)=some v)∧RowT.ok y w:=by
  intro j hj
  obtain ⟨cs',hc,ht⟩:=hi j (by omega)
  obtain ⟨y,rfl,hyo⟩:=hel ht
  rw [hsz] at hc
  obtain ⟨_,hln,hat⟩:=World.cells?_some hc
  refine ⟨y,fun q v hv=>?_,hyo⟩
  have hq:=(List.getElem?_eq_some_iff.1 hv).1
  have:=hat q (by rw [RowT.len] at hq;omega)
  rw [this,hv]
 rcases Nat.eq_zero_or_pos l with rfl | h0
 ·exact ⟨_,0,_,[],hcs,rfl,Nat.zero_le _,by unfold maxLen at hm;omega,.nil,fun R hR=>by cases hR⟩
 have hx:x.spot=none:=by
  obtain ⟨y,hy,_⟩:=hcell 0 h0
  have hp:0 < (RowT.enc y).length:=by rw [RowT.len];exact RowT.pos
  have:=hy 0 _ (List.getElem?_eq_getElem hp)
  have e0:((x.add (0 * RowT.sz α)).add 0)=x:=by simp [Addr.add]
  rw [e0] at this
  exact hone y x _ (List.getElem?_eq_getElem hp) this
 obtain ⟨bl,ol,sp⟩:=x
 simp only at hx
 subst hx
 obtain ⟨L,hL,hr,hok⟩:=rows_G (α:=α) (w:=w) (b:=bl) (o:=ol) rfl l (fun j hj=>by
  obtain ⟨y,hy,hyo⟩:=hcell j hj
  refine ⟨y,fun q v hv=>?_,hyo⟩
  have:=hy q v hv
  rwa [Addr.add_mid,Addr.add_mid] at this)
 exact ⟨_,l,_,L,hcs,hL,hl,by unfold maxLen at hm;omega,.inr ⟨bl,ol,rfl,hr⟩,hok⟩
theorem open_cec (h:DataW.trod enc Tryz.prog w base (fun _=>true) held fuel 32 cs=some x):∃ C:CeR,cs=ceL C∧ceW C:=by
 obtain ⟨xs,m,_,_,hl,hxl,hg⟩:=DataW.trod_struct Tryz.underlying32 h
 rw [cellsD0] at hl
 obtain ⟨x0,x1,x2,rfl⟩:=listOf3D (show xs.length=3 from hxl)
 have h0:DataW.trod enc Tryz.prog w base (fun _=>true) held m 3 ((cs.drop 0).take (Tryz.prog.cellsOf 3))=some x0:=hg 0 _ rfl
 rw [cellsI1] at h0
 have h1:DataW.trod enc Tryz.prog w base (fun _=>true) held m 3 ((cs.drop 1).take (Tryz.prog.cellsOf 3))=some x1:=hg 1 _ rfl
 rw [cellsI1] at h1
 have h2:DataW.trod enc Tryz.prog w base (fun _=>true) held m 30 ((cs.drop 2).take (Tryz.prog.cellsOf 30))=some x2:=hg 2 _ rfl
 rw [cellsNm] at h2
 obtain ⟨k,e0,_,w0⟩:=DataW.trod_int Tryz.underlying3 h0
 obtain ⟨i,e1,_,w1⟩:=DataW.trod_int Tryz.underlying3 h1
 obtain ⟨l,e2⟩:=open_nmc h2
 rw [nmc_toList,bcs_nb8] at e2
 refine ⟨⟨k,i,l⟩,?_,⟨w0,w1⟩⟩
 have e:cs=cs.drop 0:=rfl
 rw [e,cut_at cs (0) 1,e0,cut_at cs (0+1) 1,e1,cut_at cs (0+1+1) 8,e2,List.drop_of_length_le (by omega)]
 rfl
theorem open_dec (h:DataW.trod enc Tryz.prog w base (fun _=>true) held fuel 34 cs=some x):∃ C:DeR,cs=deL C∧deW C:=by
 obtain ⟨xs,m,_,_,hl,hxl,hg⟩:=DataW.trod_struct Tryz.underlying34 h
 rw [cellsD1] at hl
 obtain ⟨x0,x1,rfl⟩:=list2 (show xs.length=2 from hxl)
 have h0:DataW.trod enc Tryz.prog w base (fun _=>true) held m 32 ((cs.drop 0).take (Tryz.prog.cellsOf 32))=some x0:=hg 0 _ rfl
 rw [cellsD0] at h0
 have h1:DataW.trod enc Tryz.prog w base (fun _=>true) held m 3 ((cs.drop 10).take (Tryz.prog.cellsOf 3))=some x1:=hg 1 _ rfl
 rw [cellsI1] at h1
 obtain ⟨c,e0,w0⟩:=open_cec h0
 obtain ⟨a,e1,_,w1⟩:=DataW.trod_int Tryz.underlying3 h1
 refine ⟨⟨c,a⟩,?_,⟨w0,w1⟩⟩
 have e:cs=cs.drop 0:=rfl
 rw [e,cut_at cs (0) 10,e0,cut_at cs (0+10) 1,e1,List.drop_of_length_le (by omega)]
 rfl
theorem open_lkc (h:DataW.trod enc Tryz.prog w base (fun _=>true) held fuel 94 cs=some x):∃ C:LkR,cs=lkL C∧lkW C:=by
 obtain ⟨xs,m,_,_,hl,hxl,hg⟩:=DataW.trod_struct Tryz.underlying94 h
 rw [cellsD2] at hl
 obtain ⟨x0,x1,x2,x3,x4,rfl⟩:=listOf5D (show xs.length=5 from hxl)
 have h0:DataW.trod enc Tryz.prog w base (fun _=>true) held m 30 ((cs.drop 0).take (Tryz.prog.cellsOf 30))=some x0:=hg 0 _ rfl
 rw [cellsNm] at h0
 have h1:DataW.trod enc Tryz.prog w base (fun _=>true) held m 30 ((cs.drop 8).take (Tryz.prog.cellsOf 30))=some x1:=hg 1 _ rfl
 rw [cellsNm] at h1
 have h2:DataW.trod enc Tryz.prog w base (fun _=>true) held m 3 ((cs.drop 16).take (Tryz.prog.cellsOf 3))=some x2:=hg 2 _ rfl
 rw [cellsI1] at h2
 have h3:DataW.trod enc Tryz.prog w base (fun _=>true) held m 3 ((cs.drop 17).take (Tryz.prog.cellsOf 3))=some x3:=hg 3 _ rfl
 rw [cellsI1] at h3
 have h4:DataW.trod enc Tryz.prog w base (fun _=>true) held m 3 ((cs.drop 18).take (Tryz.prog.cellsOf 3))=some x4:=hg 4 _ rfl
 rw [cellsI1] at h4
 obtain ⟨n1,e0⟩:=open_nmc h0
 rw [nmc_toList,bcs_nb8] at e0
 obtain ⟨n2,e1⟩:=open_nmc h1
 rw [nmc_toList,bcs_nb8] at e1
 obtain ⟨a,e2,_,w2⟩:=DataW.trod_int Tryz.underlying3 h2
 obtain ⟨b,e3,_,w3⟩:=DataW.trod_int Tryz.underlying3 h3
 obtain ⟨c,e4,_,w4⟩:=DataW.trod_int Tryz.underlying3 h4
 refine ⟨⟨n1,n2,a,b,c⟩,?_,⟨w2,w3,w4⟩⟩
 have e:cs=cs.drop 0:=rfl
 rw [e,cut_at cs (0) 8,e0,cut_at cs (0+8) 8,e1,cut_at cs (0+8+8) 1,e2,cut_at cs (0+8+8+1) 1,e3,cut_at cs (0+8+8+1+1) 1,e4,List.drop_of_length_le (by omega)]
 rfl
theorem open_nmr (h:DataW.trod enc Tryz.prog w base (fun _=>true) held fuel 30 cs=some x):∃ y:UInt64,cs=nmL y∧True:=by
 obtain ⟨y,e⟩:=open_nmc h
 rw [nmc_toList] at e
 exact ⟨y,e,trivial⟩
theorem open_inr (h:DataW.trod enc Tryz.prog w base (fun _=>true) held fuel 3 cs=some x):∃ y:Int,cs=inL y∧wfI y:=by
 obtain ⟨y,e,_,w0⟩:=DataW.trod_int Tryz.underlying3 h
 exact ⟨y,e,w0⟩
theorem open_des (h:DataW.trod enc Tryz.prog w base (fun _=>true) held fuel 27 cs=some x):∃ A n c,∃ L:List DeR,cs=[.slice A n c]∧SlG w A n c L :=
 open_rowsD Tryz.underlying27 cellsD1 (fun h=>open_dec h) (fun y a v hv hc=>by have e:=Option.some.inj hv;subst e;exact spot_none' hc) h
theorem open_lks (h:DataW.trod enc Tryz.prog w base (fun _=>true) held fuel 41 cs=some x):∃ A n c,∃ L:List LkR,cs=[.slice A n c]∧SlG w A n c L :=
 open_rowsD Tryz.underlying41 cellsD2 (fun h=>open_lkc h) (fun y a v hv hc=>by have e:=Option.some.inj hv;subst e;exact spot_none' hc) h
theorem open_nms (h:DataW.trod enc Tryz.prog w base (fun _=>true) held fuel 37 cs=some x):∃ A n c,∃ L:List UInt64,cs=[.slice A n c]∧SlG w A n c L :=
 open_rowsD Tryz.underlying37 cellsNm (fun h=>open_nmr h) (fun y a v hv hc=>by have hv:(nmL y)[0]?=some v:=hv;rw [nmL,bcs_nb8] at hv;have e:=Option.some.inj hv;subst e;exact spot_none' hc) h
theorem open_iss (h:DataW.trod enc Tryz.prog w base (fun _=>true) held fuel 38 cs=some x):∃ A n c,∃ L:List Int,cs=[.slice A n c]∧SlG w A n c L :=
 open_rowsD Tryz.underlying38 cellsI1 (fun h=>open_inr h) (fun y a v hv hc=>by have e:=Option.some.inj hv;subst e;exact spot_none' hc) h
theorem open_stateC (h:DataW.trod enc Tryz.prog w base (fun _=>true) held fuel 44 cs=some x):∃ s:StR,cs=(ssA s).toList∧s.ok w:=by
 obtain ⟨xs,m,_,_,hl,hxl,hg⟩:=DataW.trod_struct Tryz.underlying44 h
 rw [cellsD4] at hl
 obtain ⟨x0,x1,x2,x3,x4,rfl⟩:=listOf5D (show xs.length=5 from hxl)
 have h0:DataW.trod enc Tryz.prog w base (fun _=>true) held m 27 ((cs.drop 0).take (Tryz.prog.cellsOf 27))=some x0:=hg 0 _ rfl
 rw [cellsD5] at h0
 have h1:DataW.trod enc Tryz.prog w base (fun _=>true) held m 38 ((cs.drop 1).take (Tryz.prog.cellsOf 38))=some x1:=hg 1 _ rfl
 rw [cellsD6] at h1
 have h2:DataW.trod enc Tryz.prog w base (fun _=>true) held m 41 ((cs.drop 2).take (Tryz.prog.cellsOf 41))=some x2:=hg 2 _ rfl
 rw [cellsD7] at h2
 have h3:DataW.trod enc Tryz.prog w base (fun _=>true) held m 37 ((cs.drop 3).take (Tryz.prog.cellsOf 37))=some x3:=hg 3 _ rfl
 rw [cellsD8] at h3
 have h4:DataW.trod enc Tryz.prog w base (fun _=>true) held m 42 ((cs.drop 4).take (Tryz.prog.cellsOf 42))=some x4:=hg 4 _ rfl
 rw [cellsD3] at h4
 obtain ⟨A1,n1,c1,L1,e0,w0⟩:=open_des h0
 obtain ⟨A2,n2,c2,L2,e1,w1⟩:=open_iss h1
 obtain ⟨A3,n3,c3,L3,e2,w2⟩:=open_lks h2
 obtain ⟨A4,n4,c4,L4,e3,w3⟩:=open_nms h3
 obtain ⟨g,e4,_,w4⟩:=DataW.trod_int Tryz.underlying42 h4
 refine ⟨⟨A1,n1,c1,L1,A2,n2,c2,L2,A3,n3,c3,L3,A4,n4,c4,L4,g⟩,?_,⟨w0,w1,w2,w3,w4⟩⟩
 have e:cs=cs.drop 0:=rfl
 rw [e,cut_at cs (0) 1,e0,cut_at cs (0+1) 1,e1,cut_at cs (0+1+1) 1,e2,cut_at cs (0+1+1+1) 1,e3,cut_at cs (0+1+1+1+1) 1,e4,List.drop_of_length_le (by omega)]
 rfl
end
theorem open_state {H:Type} {enc:TypeId × Value→H} {W:World} {base b0:Nat} {held:Bool} {v:Value} {d:DataW H} {q:List MemPlace} (hv:Value.okWide Tryz.prog W .any b0 44 v)
  (h:DataW.Trod enc Tryz.prog W base (fun _=>true) held 44 v d q):∃ s:StR,v=.agg (ssA s)∧s.ok W:=by
 obtain ⟨fuel,hf⟩:=h
 simp only [Value.okWide,Tryz.underlying44] at hv
 obtain ⟨cs,rfl,_,_⟩:=hv
 obtain ⟨s,e,h1⟩:=open_stateC hf
 refine ⟨s,?_,h1⟩
 congr 1
 apply Array.toList_inj.1
 exact e
end
section
open Go.RowKit
attribute [local go_sem ↓] Go.wp_at_zero Go.wp_at_succ
theorem get_cell {w:World} {A:Option Addr} {n c:Nat} {C:List DeR} (h:SlG w A n c C) {k:Nat} (hk:k < n):∃ b o,A=some ⟨b,o,none⟩∧w.cell? ⟨b,o+k * 11+10,none⟩=some (.int .i64 (nthG C k).a):=by
 obtain ⟨b,o,rfl,hr,-⟩:=h.at (by omega)
 have h1:w.rangeAt b (o+k * 11) (RowT.enc (nthG C k)):=el_at hr (by rw [h.len];exact hk)
 exact ⟨b,o,rfl,h1 10 _ rfl⟩
theorem stGet_any (s:StR) (c:CeR) (w:World) (h:s.ok w) (hc:ceW c):Calls Tryz.prog 67 #[.agg (ssA s),.agg (ceA c)] w fun e w'=>e=.returned (.int .i64 (getC s.C c))∧Ext w w':=by
 obtain ⟨W,hW⟩:∃ W,((w.alloc (.cells (ssA s) 44)).alloc (.cells (ceA c) 32))=W:=⟨_,rfl⟩
 have HB:=zh (show Blk W w.heap.size 44 (ssA s) from by rw [← hW];exact (Blk.new w 44 (ssA s)).alloc _)
 have HC:=zh (show Blk W (w.heap.size+1) 32 (ceA c) from by rw [← hW];exact Blk.newAt _ _ _ _ (by simp))
 have HE:=zh (show Ext w W from by rw [← hW];exact ((Ext.refl w).alloc' _).alloc' _)
 have q0:=HB.out.cell 0
 have q1:=HB.out.cell 1
 have q2:=HB.out.cell 2
 have q3:=HB.out.cell 3
 have q4:=HB.out.cell 4
 have r1:W.rangeAt (w.heap.size+1) 0 (RowT.enc c):=rB HC.out
 have HS:=zh h
 have hl1:=h.s1.len
 have hle:=h.s1.le
 have hcap:=h.s1.cap
 have HCW:=zh hc
 obtain ⟨v1,hv1⟩:∃ v,Value.agg (ceA c)=v:=⟨_,rfl⟩
 have HV1:=zh hv1
 have HL:=zh hl1
 rcases ix_cases (fun x:DeR=>decide (x.c=c)) s.C with hno | ⟨k,hk,h1,h2⟩
 ·have HF := zh (find_any s c W (h.ext HE.out) hc (-1) (.inl ⟨rfl, hno⟩))
  have HG:=zh (getC_of (fd_none hno))
  rw [hv1] at HF
  clear hno h hc hv1 hl1
  go_enter Tryz.func67,Tryz.ntmps67
  go_wp2_with (first | (with_reducible refine wL ceP rfl (.tmp 3) rfl (w.heap.size+1) 0 rfl c v1 HV1.out r1 ?_) | fail "A")
  refine HF.out.mono ?_
  rintro e w5 ⟨rfl,he5⟩
  have HX:=zh (HE.out.trans he5)
  clear hW
  clear he5 r1 q0 q1 q2 q3 q4
  go_wp2_with fail
  go_ret
  exact ⟨by rw [HG.out];rfl,HX.out⟩
 have HF:=zh (find_any s c W (h.ext HE.out) hc (k:Int) (.inr ⟨k,rfl,hk,h1,h2⟩))
 have HG:=zh (getC_of (fd_some hk h1 h2))
 have hk':k < s.n1:=by omega
 rw [hv1] at HF
 clear h1 h2 h hc hv1 hl1 hk
 go_enter Tryz.func67,Tryz.ntmps67
 go_wp2_with (first | (with_reducible refine wL ceP rfl (.tmp 3) rfl (w.heap.size+1) 0 rfl c v1 HV1.out r1 ?_) | fail "A")
 refine HF.out.mono ?_
 rintro e w5 ⟨rfl,he5⟩
 have HX:=zh (HE.out.trans he5)
 clear hW
 have p0:w5.cell? ⟨w.heap.size,0,none⟩=some (.slice s.A1 s.n1 s.c1):=(HB.out.ext he5).cell 0
 obtain ⟨b,o,hA,hcell⟩:=get_cell (HS.out.ext HX.out).s1 hk'
 rw [hA] at p0
 have i0:(0:Int)≤(k:Int):=by omega
 have i1:(k:Int) < (s.n1:Int):=by omega
 clear he5 r1 q0 q1 q2 q3 q4 hA
 go_wp2_with fail
 go_ret
 exact ⟨by rw [HG.out];rfl,HX.out⟩
theorem mem_ix {L:List UInt64} {x:UInt64}:(∃ k,k < L.length∧nthG L k=x) ↔ x ∈ L:=by
 constructor
 ·rintro ⟨k,hk,rfl⟩;exact nthG_mem hk
 intro h
 obtain ⟨k,hk,rfl⟩:=List.getElem_of_mem h
 exact ⟨k,hk,(nthG_eq hk).symm⟩
def IdxOut (L:List UInt64) (x:UInt64) (w:World) (e:Ending) (w':World):Prop:=∃ r:Int,e=.returned (.int .i64 r)∧(decide (r ≥ 0)=decide (x ∈ L))∧Ext w w'
theorem idxNm_any (A:Option Addr) (n c:Nat) (L:List UInt64) (x:UInt64) (w:World) (h:SlG w A n c L):Calls Tryz.prog 181 #[.slice A n c,.agg (nmc x)] w (IdxOut L x w):=by
 have HS:=zh (h.ext ((Ext.refl w).alloc' (.cells (nmc x) 30)))
 have HB:=zh (Blk.new w 30 (nmc x))
 have HE:=zh ((Ext.refl w).alloc' (.cells (nmc x) 30))
 have hle:=h.le
 have hcap:=h.cap
 have HL:=zh h.len
 obtain ⟨W,hW⟩:∃ W,w.alloc (.cells (nmc x) 30)=W:=⟨_,rfl⟩
 rw [hW] at HS HB HE
 clear h
 go_enter Tryz.func181,Tryz.ntmps181
 go_wp2_with fail
 clear hW
 go_loopw [8] (fun vi wr=>∃ k:Nat,vi=.int .i64 (k:Int)∧k≤n∧Hid (∀ j,j < k→nthG L j ≠ x)∧Hid (Ext W wr)) (fun i _=>n - (intOf i).toNat)
 case atStart=>exact ⟨0,rfl,Nat.zero_le _,zh (fun j hj=>absurd hj (Nat.not_lt_zero _)),zh (Ext.refl W)⟩
 case round =>
  obtain ⟨k,rfl,hk,HN,HX⟩:=hrel
  by_cases hlt:k < n
  ·have i0 : (0 : Int) ≤ (k : Int) := by omega
   have i1:(k:Int) < (n:Int):=by omega
   have HS2:=zh (HS.out.ext HX.out)
   obtain ⟨b,o,rfl,hrow,-⟩:=HS2.out.at (by omega)
   have hr:wr.rangeAt b (o+k * 8) (RowT.enc (nthG L k)):=el_at hrow (by rw [HL.out];exact hlt)
   have HR:=zh hr
   have HB2:=zh (HB.out.ext HX.out)
   by_cases he:x=nthG L k
   ·have HM := zh (mem_ix.1 ⟨k, by rw [HL.out]; exact hlt, he.symm⟩)
    obtain ⟨b,hb⟩:∃ b,decide (x=nthG L k)=b:=⟨_,rfl⟩
    have HD:=zh hb
    obtain rfl:true=b:=by rw [← hb,decide_eq_true he]
    clear hb he hr hrow
    go_wp2_with fail
    refine wp_region_held_drew (S:=fun V=>Blk V w.heap.size 30 (nmc x)∧V.rangeAt b (o+k * 8) (RowT.enc (nthG L k))) (by kernel_rfl) (⟨HB2.out.drew,HR.out⟩) (fun jj=>?_)
    refine zu 0 (v:=.agg (nmc x)) jj ?_ (hy:=by exact yL nmP (by rfl) (.tmp 3) rfl w.heap.size 0 rfl x _ rfl (fun V h=>nm_range h.1))
    refine zzr [1,2,3] ?_
    refine zu 4 (v:=.agg (nmc (nthG L k))) jj ?_ (hy:=by exact yL nmP (by rfl) (.tmp 14) rfl b (o+k * 8) rfl (nthG L k) _ rfl (fun V h=>h.2))
    refine zu 5 (v:=.bool true) jj ?_ (hy:=by exact yields_cmp (vx:=.agg (nmc x)) (vy:=.agg (nmc (nthG L k))) (by rfl) (.tmp 11) (.tmp 15) rfl rfl rfl (fun w=>guard_Nm _ _ _ _ _ w) (fun w=>by rw [run_eqN,HD.out]))
    refine wpAnyH_done (by kernel_rfl) ?_ _
    clear jj
    go_wp2_with fail
    go_ret
    exact ⟨_,rfl,by rw [decide_eq_true HM.out,decide_eq_true (by omega)],HE.out.trans (HX.out.trans ((Ext.refl wr).drew'))⟩
   have HN2:=zh (show ∀ j,j < k+1→nthG L j ≠ x from fun j hj e=>by
    by_cases e2:j=k
    ·rw [e2] at e;exact he e.symm
    exact HN.out j (by omega) e)
   obtain ⟨b,hb⟩:∃ b,decide (x=nthG L k)=b:=⟨_,rfl⟩
   have HD:=zh hb
   obtain rfl:false=b:=by rw [← hb,decide_eq_false he]
   clear hb he hr hrow
   go_wp2_with fail
   refine wp_region_held_drew (S:=fun V=>Blk V w.heap.size 30 (nmc x)∧V.rangeAt b (o+k * 8) (RowT.enc (nthG L k))) (by kernel_rfl) (⟨HB2.out.drew,HR.out⟩) (fun jj=>?_)
   refine zu 0 (v:=.agg (nmc x)) jj ?_ (hy:=by exact yL nmP (by rfl) (.tmp 3) rfl w.heap.size 0 rfl x _ rfl (fun V h=>nm_range h.1))
   refine zzr [1,2,3] ?_
   refine zu 4 (v:=.agg (nmc (nthG L k))) jj ?_ (hy:=by exact yL nmP (by rfl) (.tmp 14) rfl b (o+k * 8) rfl (nthG L k) _ rfl (fun V h=>h.2))
   refine zu 5 (v:=.bool false) jj ?_ (hy:=by exact yields_cmp (vx:=.agg (nmc x)) (vy:=.agg (nmc (nthG L k))) (by rfl) (.tmp 11) (.tmp 15) rfl rfl rfl (fun w=>guard_Nm _ _ _ _ _ w) (fun w=>by rw [run_eqN,HD.out]))
   refine wpAnyH_done (by kernel_rfl) ?_ _
   clear jj
   have HX2:=zh (HX.out.trans ((Ext.refl wr).drew'))
   go_wp2_with fail
   go_roundw
   case rel=>exact ⟨k+1,by go_num,hlt,HN2,HX2⟩
   case measure=>simp [intOf];omega
  have i1:¬ (k:Int) < (n:Int):=by omega
  have HM:=zh (show ¬ x ∈ L from fun h=>by
   obtain ⟨j,hj,e⟩:=mem_ix.2 h
   exact HN.out j (by rw [HL.out] at hj;omega) e)
  go_wp2_with fail
  go_ret
  exact ⟨-1,rfl,by rw [decide_eq_false HM.out];rfl,HE.out.trans HX.out⟩
theorem hasNm_any (A:Option Addr) (n c:Nat) (L:List UInt64) (x:UInt64) (w:World) (h:SlG w A n c L):Calls Tryz.prog 123 #[.slice A n c,.agg (nmc x)] w fun e w'=>e=.returned (.bool (decide (x ∈ L)))∧Ext w w':=by
 have HE:=zh ((Ext.refl w).alloc' (.cells (nmc x) 30))
 have HS:=zh (h.ext HE.out)
 have r0:(w.alloc (.cells (nmc x) 30)).rangeAt w.heap.size 0 (RowT.enc x):=nm_range (Blk.new w 30 (nmc x))
 clear h
 go_enter Tryz.func123,Tryz.ntmps123
 go_wp2_with (first | (with_reducible refine wL nmP rfl (.tmp 3) rfl w.heap.size 0 rfl x _ rfl r0 ?_) | fail "A")
 refine (idxNm_any A n c L x _ HS.out).mono ?_
 rintro e w5 ⟨r,rfl,hr,he5⟩
 have HR:=zh hr
 have HX:=zh (HE.out.trans he5)
 clear hr he5 r0
 go_wp2_with fail
 go_ret
 exact ⟨by rw [← HR.out];rfl,HX.out⟩
theorem stApplied_any (s:StR) (x:UInt64) (w:World) (h:s.ok w):Calls Tryz.prog 63 #[.agg (ssA s),.agg (nmc x)] w fun e w'=>e=.returned (.bool (decide (x ∈ s.P)))∧Ext w w':=by
 obtain ⟨W,hW⟩:∃ W,((w.alloc (.cells (ssA s) 44)).alloc (.cells (nmc x) 30))=W:=⟨_,rfl⟩
 have HB:=zh (show Blk W w.heap.size 44 (ssA s) from by rw [← hW];exact (Blk.new w 44 (ssA s)).alloc _)
 have HC:=zh (show Blk W (w.heap.size+1) 30 (nmc x) from by rw [← hW];exact Blk.newAt _ _ _ _ (by simp))
 have HE:=zh (show Ext w W from by rw [← hW];exact ((Ext.refl w).alloc' _).alloc' _)
 have q3:W.cell? ⟨w.heap.size,3,none⟩=some (.slice s.A4 s.n4 s.c4):=HB.out.cell 3
 have r1:W.rangeAt (w.heap.size+1) 0 (RowT.enc x):=nm_range HC.out
 have HS:=zh (h.ext HE.out).s4
 clear h
 go_enter Tryz.func63,Tryz.ntmps63
 go_wp2_with (first | (with_reducible refine wL nmP rfl (.tmp 3) rfl (w.heap.size+1) 0 rfl x _ rfl r1 ?_) | fail "A")
 refine (hasNm_any s.A4 s.n4 s.c4 s.P x _ HS.out).mono ?_
 rintro e w5 ⟨rfl,he5⟩
 have HX:=zh (HE.out.trans he5)
 clear he5 q3 r1 hW
 go_wp2_with fail
 go_ret
 exact ⟨rfl,HX.out⟩
def lkO:Option LkR→LkR
 | none=>⟨0,0,0,0,0⟩
 | some l=>l
theorem fk_none {K:List LkR} {n:UInt64} (h:∀ k,k < K.length→decide ((nthG K k).nm=n)=false):fdK K n=none:=by
 unfold fdK
 rw [List.find?_eq_none]
 intro l hl
 obtain ⟨k,hk,rfl⟩:=List.getElem_of_mem hl
 rw [nthG_eq hk,h k hk];decide
theorem fk_some:∀ {K:List LkR} {n:UInt64} {k:Nat},k < K.length→decide ((nthG K k).nm=n)=true→(∀ j,j < k→decide ((nthG K j).nm=n)=false)→fdK K n=some (nthG K k)
 | [],n,k,hk,_,_=>by simp at hk
 | d :: r,n,0,_,h1,_=>by unfold fdK;rw [List.find?_cons,show decide (d.nm=n)=true from h1];rfl
 | d :: r,n,k+1,hk,h1,h2=>by
  have h0:=h2 0 (by omega)
  unfold fdK
  rw [List.find?_cons,show decide (d.nm=n)=false from h0]
  exact fk_some (K:=r) (by simpa using hk) h1 (fun j hj=>h2 (j+1) (by omega))
theorem lk_zero:lkA (⟨0,0,0,0,0⟩:LkR)=lk0:=by unfold lkA lk0;simp only [nb8_nil 0 (by omega),nb8_nil 1 (by omega),nb8_nil 2 (by omega),nb8_nil 3 (by omega),nb8_nil 4 (by omega),nb8_nil 5 (by omega),nb8_nil 6 (by omega),nb8_nil 7 (by omega)]
def ceV (x:CeR):CeR:=x
theorem ce0_one:∀ v ∈ (Value.agg ce0).cells,v.oneCell'=true:=fun v hv=>Array.all_eq_true_iff_forall_mem.1 (show ce0.all (·.oneCell')=true from by kernel_rfl) v hv
theorem RowCe.load {w0 w w':World} {base n c:Nat} {A:Option Addr} {d:Array CeR} (h:RowS w0 w base 32 A n c d) {g:Nat} (hA:A=some ⟨g,0,none⟩) {i:Nat} (hi:i < n) {R:CeR} (hR:d[i]! = R) (he:Ext w w'):w'.rangeAt g (i * 10) (RowT.enc R):=by
 have:=(RowS.ext h he).cell hA hi
 rw [hR] at this
 exact this
theorem RowCe.eqv {w0 w:World} {base n c:Nat} {A:Option Addr} {d:Array CeR} (h:RowS w0 w base 32 A n c d) {i j:Nat} (hi:i < n) (hj:j < n) {R T:CeR} (hR:d[i]! = R) (hT:d[j]! = T) (vx vy:Value) (hx:Value.agg (ceA R)=vx) (hy:Value.agg (ceA T)=vy) (b:Bool) (hb:decide (ceV d[i]! = ceV d[j]!)=b) :
  Hid (∀ W,(binOp .eql 32 vx vy).run Tryz.prog W=.ok (.bool b) W):=by
 subst hR;subst hT;rw [← hx,← hy,← hb]
 exact zh (fun W=>run_eqCe _ _ (h.ok hi) (h.ok hj) W)
theorem RowCe.neqv {w0 w:World} {base n c:Nat} {A:Option Addr} {d:Array CeR} (h:RowS w0 w base 32 A n c d) {i j:Nat} (hi:i < n) (hj:j < n) {R T:CeR} (hR:d[i]! = R) (hT:d[j]! = T) (vx vy:Value) (hx:Value.agg (ceA R)=vx) (hy:Value.agg (ceA T)=vy) (b:Bool) (hb:decide (ceV d[i]! = ceV d[j]!)=b) :
  Hid (∀ W,(binOp .neq 32 vx vy).run Tryz.prog W=.ok (.bool (!b)) W):=by
 subst hR;subst hT;rw [← hx,← hy,← hb]
 exact zh (fun W=>run_neqCe _ _ (h.ok hi) (h.ok hj) W)
def CpOutCe (w0:World) (base:Nat) (A:Option Addr) (n c:Nat) (d:Array CeR) (e:Ending) (w':World):Prop:=∃ (m:Nat) (d':Array CeR),e=.returned (.slice A m c)∧m≤n∧RowS w0 w' base 32 A m c d'∧d'.toList.map ceV=compO (d.toList.map ceV)
theorem compactCe_any (w0 w:World) (base:Nat) (A:Option Addr) (n c:Nat) (d:Array CeR) (h:RowS w0 w base 32 A n c d) (hn:n≤1000000000) (hnc:n≤c) (hc:c≤9223372036854775807) :
  Calls Tryz.prog 66 #[.slice A n c] w (CpOutCe w0 base A n c d):=by
 have HD:=zh h
 have HSZ:=zh (RowS.size h)
 rcases (by omega:n=0 ∨ 1≤n) with rfl | hpos
 ·have HC:=zh (show d.toList.map ceV=compO (d.toList.map ceV) from by
   have:d.toList=[]:=List.eq_nil_of_length_eq_zero (by simpa using HSZ.out)
   rw [this];rfl)
  go_enter Tryz.func66,Tryz.ntmps66
  go_wp2_with fail
  go_ret
  exact ⟨0,d,rfl,Nat.le_refl _,HD.out,HC.out⟩
 have HC1:=zh (Cm1.start (V:=ceV) (d:=d) (by rw [HSZ.out];exact hpos))
 obtain ⟨g,hA,-,-⟩:=RowS.at h (by omega)
 subst hA
 clear h
 by_cases h2:n < 2
 ·have i1 : (n : Int) < 2 := by omega
  go_enter Tryz.func66,Tryz.ntmps66
  go_wp2_with fail
  go_ret
  exact ⟨n,d,rfl,Nat.le_refl _,HD.out,HC1.out.all (by rw [HSZ.out];omega)⟩
 have i1:¬ (n:Int) < 2:=by omega
 go_enter Tryz.func66,Tryz.ntmps66
 go_wp2_with fail
 go_loopw [3] (fun vk wr=>∃ (k:Nat),vk=.int .i64 (k:Int)∧1≤k∧k≤n∧Hid (Cm1 ceV d k)∧Hid (RowS w0 wr base 32 (some ⟨g,0,none⟩) n c d)) (fun k _=>n - (intOf k).toNat)
 case atStart=>exact ⟨1,rfl,Nat.le_refl _,hpos,HC1,HD⟩
 case round =>
  clear HD HC1
  obtain ⟨k,rfl,hk1,hkn,HC,HD⟩:=hrel
  by_cases hlt:k < n
  ·have i2 : (k : Int) < (n : Int) := by omega
   obtain ⟨p,hp⟩:∃ p,p=k - 1:=⟨_,rfl⟩
   have HP:=zh hp
   have p0:(k:Int) - 1=(p:Int):=by omega
   have hpn:p < n:=by omega
   have p1:(p:Int) < (n:Int):=by omega
   have pw:IntKind.i64.wrap (p:Int)=(p:Int):=by rw [IntKind.wrap_i64];omega
   have kw:IntKind.i64.wrap (k:Int)=(k:Int):=by rw [IntKind.wrap_i64];omega
   clear hp
   cases hb:decide (ceV d[k]! = ceV d[p]!) with
   | false =>
    have HB:=zh (of_decide_eq_false hb)
    obtain ⟨R,hR⟩:∃ R,d[k]! = R:=⟨_,rfl⟩
    obtain ⟨T,hT⟩:∃ R,d[p]! = R:=⟨_,rfl⟩
    obtain ⟨vx,hvx⟩:∃ v,Value.agg (ceA R)=v:=⟨_,rfl⟩
    obtain ⟨vy,hvy⟩:∃ v,Value.agg (ceA T)=v:=⟨_,rfl⟩
    have HVX:=zh hvx
    have HVY:=zh hvy
    have L1:=zh (fun (W:World) (he:Ext wr W)=>show W.rangeAt g (k * 10) (RowT.enc R) from by rw [show k * 10=k * 10 from rfl];exact RowCe.load HD.out rfl hlt hR he)
    have L2:=zh (fun (W:World) (he:Ext wr W)=>show W.rangeAt g (p * 10) (RowT.enc T) from by rw [show p * 10=p * 10 from rfl];exact RowCe.load HD.out rfl hpn hT he)
    have HCM:=RowCe.eqv HD.out hlt hpn hR hT vx vy hvx hvy false hb
    have HGD:=zh (fun op x y (W:World)=>show (eqGuard op 32 x y vx vy).run Tryz.prog W=.ok () W from by rw [← HVX.out,← HVY.out];exact guard_Ce op x y R T W)
    have HKR:=zh hR
    clear hvx hvy hR hT
    clear hb
    go_wp2_with fail
    refine wp_region_plan (S:=fun W=>Ext wr W) (by kernel_rfl) (by kernel_rfl) ((Ext.refl wr).drew') ?_
    (refine zzx 0 ?_)
    (refine zzx 1 ?_)
    (refine zzx 2 ?_)
    (refine plan_take (i:=3) (oi:=⟨some 19,.load 32 (.tmp 18),32,"slices.go:376",#[⟨2,.data⟩],none⟩) (v:=vx) rfl (by kernel_rfl) (by kernel_rfl) (fx_read ?hy1_3) ?_;case hy1_3=>(exact yL ceP (by rfl) (.tmp 18) (by rfl) g (k * 10) (by rfl) R vx HVX.out (fun W hS=>L1.out W hS)))
    try simp only [lays]
    (refine zzx 4 ?_)
    (refine zzx 5 ?_)
    (refine zzx 6 ?_)
    (refine zzx 7 ?_)
    (refine plan_take (i:=8) (oi:=⟨some 24,.load 32 (.tmp 23),32,"slices.go:376",#[⟨7,.data⟩],none⟩) (v:=vy) rfl (by kernel_rfl) (by kernel_rfl) (fx_read ?hy1_8) ?_;case hy1_8=>(exact yL ceP (by rfl) (.tmp 23) (by rfl) g (p * 10) (by rfl) T vy HVY.out (fun W hS=>L2.out W hS)))
    try simp only [lays]
    (refine plan_take (i:=9) (oi:=⟨some 25,.binOp .eql 32 (.tmp 19) (.tmp 24) 32,4,"slices.go:376",#[⟨3,.data⟩,⟨8,.data⟩],none⟩) (v:=.bool false) rfl (by kernel_rfl) (by kernel_rfl) (fx_read ?hy1_9) ?_;case hy1_9=>(exact yields_cmp (by rfl) (.tmp 19) (.tmp 24) (by rfl) (vx:=vx) (vy:=vy) (by rfl) (by rfl) (HGD.out _ _ _) HCM.out))
    try simp only [lays]
    refine Plan.done (by kernel_rfl) (fun W jS=>?_)
    have HD2:=zh (RowS.ext HD.out jS)
    have HC2:=zh (HC.out.next (by rw [HSZ.out];exact hlt) (by rw [← HP.out];exact HB.out))
    clear HD HCM HGD L1 L2 jS HVX HVY pw kw
    go_wp2_with fail
    go_roundw
    case rel=>exact ⟨k+1,by go_num,by omega,by omega,HC2,HD2⟩
    case measure=>simp [intOf];omega
   | true =>
    have HB:=zh (of_decide_eq_true hb)
    obtain ⟨R,hR⟩:∃ R,d[k]! = R:=⟨_,rfl⟩
    obtain ⟨T,hT⟩:∃ R,d[p]! = R:=⟨_,rfl⟩
    obtain ⟨vx,hvx⟩:∃ v,Value.agg (ceA R)=v:=⟨_,rfl⟩
    obtain ⟨vy,hvy⟩:∃ v,Value.agg (ceA T)=v:=⟨_,rfl⟩
    have HVX:=zh hvx
    have HVY:=zh hvy
    have L1:=zh (fun (W:World) (he:Ext wr W)=>show W.rangeAt g (k * 10) (RowT.enc R) from by rw [show k * 10=k * 10 from rfl];exact RowCe.load HD.out rfl hlt hR he)
    have L2:=zh (fun (W:World) (he:Ext wr W)=>show W.rangeAt g (p * 10) (RowT.enc T) from by rw [show p * 10=p * 10 from rfl];exact RowCe.load HD.out rfl hpn hT he)
    have HCM:=RowCe.eqv HD.out hlt hpn hR hT vx vy hvx hvy true hb
    have HGD:=zh (fun op x y (W:World)=>show (eqGuard op 32 x y vx vy).run Tryz.prog W=.ok () W from by rw [← HVX.out,← HVY.out];exact guard_Ce op x y R T W)
    have HKR:=zh hR
    clear hvx hvy hR hT
    clear hb
    go_wp2_with fail
    refine wp_region_plan (S:=fun W=>Ext wr W) (by kernel_rfl) (by kernel_rfl) ((Ext.refl wr).drew') ?_
    (refine zzx 0 ?_)
    (refine zzx 1 ?_)
    (refine zzx 2 ?_)
    (refine plan_take (i:=3) (oi:=⟨some 19,.load 32 (.tmp 18),32,"slices.go:376",#[⟨2,.data⟩],none⟩) (v:=vx) rfl (by kernel_rfl) (by kernel_rfl) (fx_read ?hy2_3) ?_;case hy2_3=>(exact yL ceP (by rfl) (.tmp 18) (by rfl) g (k * 10) (by rfl) R vx HVX.out (fun W hS=>L1.out W hS)))
    try simp only [lays]
    (refine zzx 4 ?_)
    (refine zzx 5 ?_)
    (refine zzx 6 ?_)
    (refine zzx 7 ?_)
    (refine plan_take (i:=8) (oi:=⟨some 24,.load 32 (.tmp 23),32,"slices.go:376",#[⟨7,.data⟩],none⟩) (v:=vy) rfl (by kernel_rfl) (by kernel_rfl) (fx_read ?hy2_8) ?_;case hy2_8=>(exact yL ceP (by rfl) (.tmp 23) (by rfl) g (p * 10) (by rfl) T vy HVY.out (fun W hS=>L2.out W hS)))
    try simp only [lays]
    (refine plan_take (i:=9) (oi:=⟨some 25,.binOp .eql 32 (.tmp 19) (.tmp 24) 32,4,"slices.go:376",#[⟨3,.data⟩,⟨8,.data⟩],none⟩) (v:=.bool true) rfl (by kernel_rfl) (by kernel_rfl) (fx_read ?hy2_9) ?_;case hy2_9=>(exact yields_cmp (by rfl) (.tmp 19) (.tmp 24) (by rfl) (vx:=vx) (vy:=vy) (by rfl) (by rfl) (HGD.out _ _ _) HCM.out))
    try simp only [lays]
    refine Plan.done (by kernel_rfl) (fun W jS=>?_)
    have HD2:=zh (RowS.ext HD.out jS)
    have HC2:=zh (HC.out.dup (by rw [HSZ.out];exact hlt) (by rw [← HP.out];exact HB.out))
    clear HD HCM HGD L1 L2 jS HVX HVY pw kw p0 p1
    have k1:k≤n:=by omega
    have k2:k≤c:=by omega
    have k3:¬ c=k:=by omega
    go_wp2_with fail
    go_loopw [3,5] (fun vk vj wr=>∃ (kk k2:Nat) (dk:Array CeR),vk=.int .i64 (kk:Int)∧vj=.int .i64 (k2:Int)∧1≤k2∧k2≤n - k∧kk < k+k2∧1≤kk∧Hid (Cmp ceV d dk kk (k+k2))∧Hid (RowS w0 wr base 32 (some ⟨g,0,none⟩) n c dk)) (fun _ j _=>n - k - (intOf j).toNat)
    case atStart=>exact ⟨k,1,d,rfl,rfl,Nat.le_refl _,by omega,by omega,hk1,HC2,HD2⟩
    case round =>
     clear HD2 HC2
     obtain ⟨kk,k2,dk,rfl,rfl,h21,h2n,hkk,hkp,HC,HD⟩:=hrel
     by_cases hlt2:k2 < n - k
     ·have i3 : (k2 : Int) < ((n - k : Nat) : Int) := by omega
      obtain ⟨m,hm⟩:∃ m,n - k=m:=⟨_,rfl⟩
      have i4:(k2:Int) < (m:Int):=by omega
      obtain ⟨k3',hk3⟩:∃ q,q=k2 - 1:=⟨_,rfl⟩
      have q0:(k2:Int) - 1=(k3':Int):=by omega
      have q1:(k3':Int) < ((n - k:Nat):Int):=by omega
      have q2:(k3':Int) < (m:Int):=by omega
      have qw:IntKind.i64.wrap (k3':Int)=(k3':Int):=by rw [IntKind.wrap_i64];omega
      have kw:IntKind.i64.wrap (k2:Int)=(k2:Int):=by rw [IntKind.wrap_i64];omega
      obtain ⟨j,hj⟩:∃ j,j=k+k2:=⟨_,rfl⟩
      obtain ⟨jp,hjp⟩:∃ j,j=k+k3':=⟨_,rfl⟩
      have e1:k * 10+k2 * 10=j * 10:=by rw [hj,Nat.add_mul]
      have e2:k * 10+k3' * 10=jp * 10:=by rw [hjp,Nat.add_mul]
      have E1:=zh e1
      have E2:=zh e2
      have HJ:=zh (show j=k+k2∧jp=k+k2 - 1∧j < d.size∧kk < j by rw [HSZ.out];omega)
      have hjn:j < n:=by omega
      have hjpn:jp < n:=by omega
      have hkn2:kk < n:=by omega
      have kkn:(kk:Int) < (n:Int):=by omega
      have kkw:IntKind.i64.wrap (kk:Int)=(kk:Int):=by rw [IntKind.wrap_i64];omega
      have r1:dk[j]! = d[j]!:=HC.out.rest j (by omega)
      have r2:dk[jp]! = d[jp]!:=HC.out.rest jp (by omega)
      have HRR:=zh (And.intro r1 r2)
      have HMM:=zh hm
      clear e1 e2 hj hjp hk3 r1 r2 hm
      cases hb:decide (ceV dk[j]! = ceV dk[jp]!) with
      | false =>
       have HB:=zh (of_decide_eq_false hb)
       obtain ⟨R,hR⟩:∃ R,dk[j]! = R:=⟨_,rfl⟩
       obtain ⟨T,hT⟩:∃ R,dk[jp]! = R:=⟨_,rfl⟩
       obtain ⟨vx,hvx⟩:∃ v,Value.agg (ceA R)=v:=⟨_,rfl⟩
       obtain ⟨vy,hvy⟩:∃ v,Value.agg (ceA T)=v:=⟨_,rfl⟩
       have HVX:=zh hvx
       have HVY:=zh hvy
       have L1:=zh (fun (W:World) (he:Ext wr W)=>show W.rangeAt g (k * 10+k2 * 10) (RowT.enc R) from by rw [E1.out];exact RowCe.load HD.out rfl hjn hR he)
       have L2:=zh (fun (W:World) (he:Ext wr W)=>show W.rangeAt g (k * 10+k3' * 10) (RowT.enc T) from by rw [E2.out];exact RowCe.load HD.out rfl hjpn hT he)
       have HCM:=RowCe.neqv HD.out hjn hjpn hR hT vx vy hvx hvy false hb
       have HGD:=zh (fun op x y (W:World)=>show (eqGuard op 32 x y vx vy).run Tryz.prog W=.ok () W from by rw [← HVX.out,← HVY.out];exact guard_Ce op x y R T W)
       have HKR:=zh hR
       clear hvx hvy hR hT
       clear hb
       go_wp2_with fail
       refine wp_region_plan (S:=fun W=>Ext wr W) (by kernel_rfl) (by kernel_rfl) ((Ext.refl wr).drew') ?_
       (refine zzx 0 ?_)
       (refine zzx 1 ?_)
       (refine zzx 2 ?_)
       (refine plan_take (i:=3) (oi:=⟨some 38,.load 32 (.tmp 37),32,"slices.go:379",#[⟨2,.data⟩],none⟩) (v:=vx) rfl (by kernel_rfl) (by kernel_rfl) (fx_read ?hy3_3) ?_;case hy3_3=>(exact yL ceP (by rfl) (.tmp 37) (by rfl) g (k * 10+k2 * 10) (by rfl) R vx HVX.out (fun W hS=>L1.out W hS)))
       try simp only [lays]
       (refine zzx 4 ?_)
       (refine zzx 5 ?_)
       (refine zzx 6 ?_)
       (refine zzx 7 ?_)
       (refine plan_take (i:=8) (oi:=⟨some 43,.load 32 (.tmp 42),32,"slices.go:379",#[⟨7,.data⟩],none⟩) (v:=vy) rfl (by kernel_rfl) (by kernel_rfl) (fx_read ?hy3_8) ?_;case hy3_8=>(exact yL ceP (by rfl) (.tmp 42) (by rfl) g (k * 10+k3' * 10) (by rfl) T vy HVY.out (fun W hS=>L2.out W hS)))
       try simp only [lays]
       (refine plan_take (i:=9) (oi:=⟨some 44,.binOp .neq 32 (.tmp 38) (.tmp 43) 32,4,"slices.go:379",#[⟨3,.data⟩,⟨8,.data⟩],none⟩) (v:=.bool true) rfl (by kernel_rfl) (by kernel_rfl) (fx_read ?hy3_9) ?_;case hy3_9=>(exact yields_cmp (by rfl) (.tmp 38) (.tmp 43) (by rfl) (vx:=vx) (vy:=vy) (by rfl) (by rfl) (HGD.out _ _ _) HCM.out))
       try simp only [lays]
       refine Plan.done (by kernel_rfl) (fun W jS=>?_)
       have HD2:=zh (RowS.ext HD.out jS)
       have L1':=zh (fun (W':World) (he:Ext W W')=>L1.out W' (jS.trans he))
       have HB2:=zh (show ceV d[j]! ≠ ceV d[j - 1]! from by
        have h1:=HB.out
        rw [HRR.out.1,HRR.out.2] at h1
        rw [show j - 1=jp from by have:=HJ.out;omega];exact h1)
       have HC2:=zh (show Cmp ceV d (dk.setIfInBounds kk R) (kk+1) (k+(k2+1)) from by
        have h1:=HC.out.keep (by have:=HJ.out;omega) (by have:=HB2.out;rw [HJ.out.1] at this;exact this)
        rw [← HJ.out.1,← HRR.out.1,HKR.out] at h1
        rw [show k+(k2+1)=j+1 from by have:=HJ.out;omega];exact h1)
       have HD3:=zh (HD2.out.set rfl hkn2 R (by rw [← HKR.out];exact HD2.out.owAt hjn))
       have ht:W.there g (kk * 10) (RowT.sz CeR):=HD2.out.there rfl hkn2
       clear HD HC HCM HGD L1 L2 jS qw HVY HKR
       go_upto_region 13 with (first | ((with_reducible refine wL ceP rfl (.tmp 49) rfl g (k * 10+k2 * 10) ?hx R vx HVX.out (L1'.out _ (Ext.refl _)) ?_);case hx=>rfl) | ((with_reducible refine wpList_storeG ceP rfl (.tmp 51) (.tmp 50) rfl g (kk * 10) ?hx R vx HVX.out ?hy ht ?_);(case hx=>rfl);(case hy=>rfl)))
       have HD4:=zh (show RowS w0 (W.setCells g (kk * 10) (RowT.enc R)) base 32 (some ⟨g,0,none⟩) n c (dk.setIfInBounds kk R) from HD3.out)
       clear HD3 HD2 kkw
       generalize W.setCells g (kk * 10) (RowT.enc R)=W8 at HD4 ⊢
       go_wp2_with fail
       go_roundw
       case rel=>exact ⟨kk+1,k2+1,_,by go_num,by go_num,by omega,by have:=HMM.out;omega,by omega,by omega,HC2,HD4⟩
       case measure=>simp [intOf];have:=HMM.out;omega
      | true =>
       have HB:=zh (of_decide_eq_true hb)
       obtain ⟨R,hR⟩:∃ R,dk[j]! = R:=⟨_,rfl⟩
       obtain ⟨T,hT⟩:∃ R,dk[jp]! = R:=⟨_,rfl⟩
       obtain ⟨vx,hvx⟩:∃ v,Value.agg (ceA R)=v:=⟨_,rfl⟩
       obtain ⟨vy,hvy⟩:∃ v,Value.agg (ceA T)=v:=⟨_,rfl⟩
       have HVX:=zh hvx
       have HVY:=zh hvy
       have L1:=zh (fun (W:World) (he:Ext wr W)=>show W.rangeAt g (k * 10+k2 * 10) (RowT.enc R) from by rw [E1.out];exact RowCe.load HD.out rfl hjn hR he)
       have L2:=zh (fun (W:World) (he:Ext wr W)=>show W.rangeAt g (k * 10+k3' * 10) (RowT.enc T) from by rw [E2.out];exact RowCe.load HD.out rfl hjpn hT he)
       have HCM:=RowCe.neqv HD.out hjn hjpn hR hT vx vy hvx hvy true hb
       have HGD:=zh (fun op x y (W:World)=>show (eqGuard op 32 x y vx vy).run Tryz.prog W=.ok () W from by rw [← HVX.out,← HVY.out];exact guard_Ce op x y R T W)
       have HKR:=zh hR
       clear hvx hvy hR hT
       clear hb
       go_wp2_with fail
       refine wp_region_plan (S:=fun W=>Ext wr W) (by kernel_rfl) (by kernel_rfl) ((Ext.refl wr).drew') ?_
       (refine zzx 0 ?_)
       (refine zzx 1 ?_)
       (refine zzx 2 ?_)
       (refine plan_take (i:=3) (oi:=⟨some 38,.load 32 (.tmp 37),32,"slices.go:379",#[⟨2,.data⟩],none⟩) (v:=vx) rfl (by kernel_rfl) (by kernel_rfl) (fx_read ?hy4_3) ?_;case hy4_3=>(exact yL ceP (by rfl) (.tmp 37) (by rfl) g (k * 10+k2 * 10) (by rfl) R vx HVX.out (fun W hS=>L1.out W hS)))
       try simp only [lays]
       (refine zzx 4 ?_)
       (refine zzx 5 ?_)
       (refine zzx 6 ?_)
       (refine zzx 7 ?_)
       (refine plan_take (i:=8) (oi:=⟨some 43,.load 32 (.tmp 42),32,"slices.go:379",#[⟨7,.data⟩],none⟩) (v:=vy) rfl (by kernel_rfl) (by kernel_rfl) (fx_read ?hy4_8) ?_;case hy4_8=>(exact yL ceP (by rfl) (.tmp 42) (by rfl) g (k * 10+k3' * 10) (by rfl) T vy HVY.out (fun W hS=>L2.out W hS)))
       try simp only [lays]
       (refine plan_take (i:=9) (oi:=⟨some 44,.binOp .neq 32 (.tmp 38) (.tmp 43) 32,4,"slices.go:379",#[⟨3,.data⟩,⟨8,.data⟩],none⟩) (v:=.bool false) rfl (by kernel_rfl) (by kernel_rfl) (fx_read ?hy4_9) ?_;case hy4_9=>(exact yields_cmp (by rfl) (.tmp 38) (.tmp 43) (by rfl) (vx:=vx) (vy:=vy) (by rfl) (by rfl) (HGD.out _ _ _) HCM.out))
       try simp only [lays]
       refine Plan.done (by kernel_rfl) (fun W jS=>?_)
       have HD2:=zh (RowS.ext HD.out jS)
       have HC2:=zh (show Cmp ceV d dk kk (k+(k2+1)) from by
        have h1:=HB.out
        rw [HRR.out.1,HRR.out.2,HJ.out.2.1,HJ.out.1] at h1
        exact HC.out.dup (by have:=HJ.out;omega) h1)
       clear HD HC HCM HGD L1 L2 jS HVX HVY qw kw kkw
       go_wp2_with fail
       go_roundw
       case rel=>exact ⟨kk,k2+1,dk,rfl,by go_num,by omega,by have:=HMM.out;omega,by omega,hkp,HC2,HD2⟩
       case measure=>simp [intOf];have:=HMM.out;omega
     obtain ⟨m,hm⟩:∃ m,n - k=m:=⟨_,rfl⟩
     have i3:¬ (k2:Int) < ((n - k:Nat):Int):=by omega
     have i4:¬ (k2:Int) < (m:Int):=by omega
     have y1:kk≤n:=by omega
     have y2:kk≤c:=by omega
     have y3:¬ c=kk:=by omega
     have y4:¬ n=kk:=by omega
     have y5:0 < n - kk:=by omega
     have HF:=zh (show (dk.toList.take kk).map ceV=compO (d.toList.map ceV) from HC.out.all (by rw [HSZ.out];omega))
     have hcl:=fun ty=>run_clearG ceE ce0_one wr ty g (kk * 10) (n - kk) (c - kk) y5 (HD.out.clearOk rfl y1).1 (HD.out.clearOk rfl y1).2
     have HD2:=zh (HD.out.cutClear rfl y1 (Builtin.zeroCells (Value.agg ce0).cells (n - kk)).toList)
     have HLE:=zh y1
     clear HD HC hm
     obtain ⟨W8,hW8⟩:∃ W,wr.setCells g (kk * 10) (Builtin.zeroCells (Value.agg ce0).cells (n - kk)).toList=W:=⟨_,rfl⟩
     simp only [hW8] at hcl
     have HD3:=zh (show RowS w0 W8 base 32 (some ⟨g,0,none⟩) kk c (dk.toList.take kk).toArray from by rw [← hW8];exact HD2.out)
     clear HD2 hW8
     go_wp2_with fail
     go_ret
     exact ⟨kk,_,rfl,HLE.out,HD3.out,HF.out⟩
  obtain rfl:k=n:=by omega
  have i2:¬ (k:Int) < (k:Int):=by omega
  go_wp2_with fail
  go_ret
  exact ⟨k,d,rfl,Nat.le_refl _,HD.out,HC.out.all (by rw [HSZ.out];exact Nat.le_refl _)⟩
end
end Go.Proofs.YtohmmcahpakokaaGreat
