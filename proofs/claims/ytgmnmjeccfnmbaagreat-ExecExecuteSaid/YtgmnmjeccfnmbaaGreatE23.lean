import Derived.Test.YtgmnmjeccfnmbaaGreatE20
set_option maxRecDepth 100000
set_option maxHeartbeats 8000000
set_option linter.unusedVariables false
set_option linter.unusedSimpArgs false
namespace Go.Proofs.YtgmnmjeccfnmbaaGreat
theorem tw {p:Prop} (h:p:=by
 clear h hv hvv hz
 go_enter func214,ntmps214
 go_upto_region 1 with fail
 refine wp_region_held_drew (S:=fun V=>Blk V w.heap.size 50 (nmc pub)∧Blk V (w.heap.size+1) 126 (sgA S)∧Ext w V) ab (⟨HB1.out.drew,HB2.out.drew,HE.out.trans ((Ext.refl _).drew')⟩) (fun aA=>?_)
 refine zt 0 aA ?_
 refine zu 1 (v:=vv) aA ?_ (hy:=bx)
 refine za 2 (fun K hK=>?_)
 (go_simp;go_at_call 212;refine (HVD.out _).mono ?_;rintro e w8 ⟨rfl,he8⟩)
 refine hK.out _ _ (⟨aA.1.ext he8,aA.2.1.ext he8,aA.2.2.trans he8⟩) (fun aA=>?_)
 clear hK K
 try simp only [bB]
 refine zt 3 aA ?_
 first | refine zu 4 (v:=.agg (nmc pub)) aA ?_ (hy:=co) | (refine zs 4 aA ?_)
 try simp only [bB]
 first | (refine zt 5 aA ?_) | (refine zs 5 aA ?_)
 first | refine zu 6 (v:=vv) aA ?_ (hy:=bs) | (refine zs 6 aA ?_)
 try simp only [bB]
 refine zz0 [8,9] ?_;repeat first | refine zz1 ?_ (hy:=bq) | refine zz2 ?_ | refine zz9 ?_
 refine za 7 (fun K hK=>?_)
 (go_simp;first | (go_at_call 236;refine (HNM.out _).mono ?_;rintro e w8 ⟨rfl,he8⟩) | skip)
 refine hK.out _ _ bj (fun aA=>?_)
 clear hK K
 try simp only [bB]
 refine za 10 (fun K hK=>?_)
 (go_simp;first | (go_at_call 88;refine (HVF.out _ aA.2.2).mono ?_;rintro e w8 ⟨rfl,he8⟩) | skip)
 exact AI):p:=h
open Go.Proofs.Tryz
section
open Go.ChangeShapes Go.WideShapes Go.ChangeAt Go.RowKit Go.Deep
theorem aKP:prog.cellsOf 25=5:=by kernel_rfl
theorem aKN:prog.cellsOf 22=1:=by kernel_rfl
theorem aKO:prog.cellsOf 23=1:=by kernel_rfl
theorem aEK {w:World} {b o:Nat}:∀ (n:Nat),(∀ j,j < n→∃ y,w.rangeAt b (o+j * 8) (bcs (nmb y)))→∃ L,L.length=n∧w.rangeAt b o (ncs L):=by
 intro n
 induction n with
 | zero=>intro _;exact ⟨[],rfl,fun j v hv=>by simp [ncs] at hv⟩
 | succ n ih =>
  intro h
  obtain ⟨L,hL,hr⟩:=ih (fun j hj=>h j aa)
  obtain ⟨y,hy⟩:=h n aa
  refine ⟨L ++ [y],by simp [hL],?_⟩
  rw [eG,iT,aKl,List.append_nil]
  refine lA hr ?_
  rw [cR,hL];exact hy
theorem xF {H:Type} {enc:TypeId × Value→H} {W:World} {base fuel:Nat} {held:Bool} {cs:List Value} {x:DataW H × List MemPlace}
  (h:DataW.trod enc prog W base (fun _=>true) held fuel 22 cs=some x):∃ A n c L,cs=[.slice A n c]∧SlN W A n c L:=by
 rcases open_slice underlying22 h with ⟨hcs,_⟩ | ⟨x,l,c',m,n,D,Pl,hcs,_,hl,hm,hmm,_,hi⟩
 ·exact ⟨none,0,0,[],hcs,rfl,Nat.le_refl _,Nat.zero_le _,.nil⟩
 rw [if_pos rfl] at hmm
 subst hmm
 have hcell:∀ j,j < l→∃ y,∀ q v,(bcs (nmb y))[q]?=some v→W.cell? ((x.add (j * 8)).add q)=some v:=by
  intro j hj
  obtain ⟨cs',hc,ht⟩:=hi j aa
  obtain ⟨y,hy⟩:=lD ht
  rw [bW] at hy
  subst hy
  rw [nM] at hc
  obtain ⟨_,hln,hat⟩:=World.cells?_some hc
  refine ⟨y,fun q v hv=>?_⟩
  have hq:=(List.getElem?_eq_some_iff.1 hv).1
  have:=hat q (by rw [aT,aK] at hq;omega)
  rw [this,hv]
 rcases Nat.eq_zero_or_pos l with rfl | h0
 ·exact ⟨_,0,_,[],hcs,rfl,Nat.zero_le _,es,.nil⟩
 have hx:x.spot=none:=by
  obtain ⟨y,hy⟩:=hcell 0 h0
  have:=hy 0 (.int .u8 (nb8 y 0)) (by rw [eJ];rfl)
  have e0:((x.add (0 * 8)).add 0)=x:=by simp [Addr.add]
  rw [e0] at this
  exact iD this
 obtain ⟨bl,ol,sp⟩:=x
 simp only at hx
 subst hx
 obtain ⟨L,hL,hr⟩:=aEK (w:=W) (b:=bl) (o:=ol) l (fun j hj=>by
  obtain ⟨y,hy⟩:=hcell j hj
  refine ⟨y,fun q v hv=>?_⟩
  have:=hy q v hv
  rwa [Addr.add_mid,Addr.add_mid] at this)
 exact ⟨_,l,_,L,hcs,hL,hl,es,.inr ⟨bl,ol,rfl,hr⟩⟩
theorem aEB {w:World} {a:Option Addr} {len cap:Nat} {zs:List Int} (h:aLM .i64 w a len cap zs):∃ l,SlZ w a len cap l:=by
 rcases h with ⟨rfl,rfl,rfl,rfl⟩ | ⟨x,rfl,hl,hm,hz,hc,hw⟩
 ·exact ⟨[],SlZ.nil w⟩
 refine ⟨zs.take len,gj,hl,es,?_⟩
 by_cases h0:len=0
 ·subst h0;exact .inl (by simp [ics])
 have hcell:∀ j,j < len→w.cell? (x.add j)=some (.int .i64 (zs.getD j 0)):=fun j hj=>hc j aa
 have hx:x.spot=none:=by
  have:=hcell 0 aa
  simp only [Addr.add,if_pos] at this
  exact iD this
 refine .inr ⟨x.block,x.off,by cases x;simp_all,fun j v hv=>?_⟩
 have hj:j < len:=by have:=(List.getElem?_eq_some_iff.1 hv).1;simp [ics] at this;omega
 have e:(⟨x.block,x.off+j,none⟩:Addr)=x.add j:=by
  cases x;simp only at hx;subst hx;rw [Addr.add_mid]
 rw [e,hcell j hj,← hv]
 simp [ics,iv,hj,show j < zs.length from aa]
theorem aKg {H:Type} {enc:TypeId × Value→H} {W:World} {base fuel:Nat} {held:Bool} {cs:List Value} {x:DataW H × List MemPlace}
  (h:DataW.trod enc prog W base (fun _=>true) held fuel 23 cs=some x):∃ A n c l,cs=[.slice A n c]∧SlZ W A n c l:=by
 rcases open_ints underlying23 underlying3 jA h with ⟨hcs,_⟩ | ⟨x,l,c,zs,hcs,_,hl,hm,hz,_,hcell,hwz⟩
 ·exact ⟨_,_,_,[],hcs,SlZ.nil W⟩
 obtain ⟨l',hs⟩:=aEB (.inr ⟨_,rfl,hl,hm,by simpa using hz,hcell,hwz⟩)
 exact ⟨_,_,_,l',hcs,hs⟩
theorem aIL {H:Type} {enc:TypeId × Value→H} {W:World} {base b0:Nat} {held:Bool} {v:Value} {d:DataW H} {q:List MemPlace} (hv:Value.okWide prog W .any b0 25 v)
  (h:DataW.Trod enc prog W base (fun _=>true) held 25 v d q):∃ N Z A1 n1 c1 A2 n2 c2 A3 n3 c3 V Ac Bl,v=.agg (genC N Z A1 n1 c1 A2 n2 c2 A3 n3 c3)∧SlN W A1 n1 c1 V∧SlN W A2 n2 c2 Ac∧SlZ W A3 n3 c3 Bl:=by
 obtain ⟨fuel,hf⟩:=h
 simp only [Value.okWide,underlying25] at hv
 obtain ⟨cs,rfl,_,_⟩:=hv
 obtain ⟨xs,m,_,_,hl,hxl,hg⟩:=DataW.trod_struct underlying25 hf
 rw [aKP] at hl
 simp only [Value.cells] at hl hg
 have hx5:xs.length=5:=hxl
 obtain ⟨x0,x1,x2,x3,x4,rfl⟩:∃ a b c d e,xs=[a,b,c,d,e]:=by
  match xs,hx5 with
  | [a,b,c,d,e],_=>exact ⟨a,b,c,d,e,rfl⟩
 obtain ⟨cs⟩:=cs
 simp only at hl hg
 obtain ⟨c0,c1,c2,c3,c4,rfl⟩:∃ a b c d e,cs=[a,b,c,d,e]:=by
  match cs,hl with
  | [a,b,c,d,e],_=>exact ⟨a,b,c,d,e,rfl⟩
 have h0:DataW.trod enc prog W base (fun _=>true) held m 3 (([c0,c1,c2,c3,c4].drop 0).take (prog.cellsOf 3))=some x0:=hg 0 _ rfl
 have h1:DataW.trod enc prog W base (fun _=>true) held m 3 (([c0,c1,c2,c3,c4].drop 1).take (prog.cellsOf 3))=some x1:=hg 1 _ rfl
 have h2:DataW.trod enc prog W base (fun _=>true) held m 22 (([c0,c1,c2,c3,c4].drop 2).take (prog.cellsOf 22))=some x2:=hg 2 _ rfl
 have h3:DataW.trod enc prog W base (fun _=>true) held m 22 (([c0,c1,c2,c3,c4].drop 3).take (prog.cellsOf 22))=some x3:=hg 3 _ rfl
 have h4:DataW.trod enc prog W base (fun _=>true) held m 23 (([c0,c1,c2,c3,c4].drop 4).take (prog.cellsOf 23))=some x4:=hg 4 _ rfl
 rw [jA] at h0 h1
 rw [aKN] at h2 h3
 rw [aKO] at h4
 obtain ⟨N,e0,_,_⟩:=DataW.trod_int underlying3 h0
 obtain ⟨Z,e1,_,_⟩:=DataW.trod_int underlying3 h1
 obtain ⟨A1,n1,d1,V,e2,s1⟩:=xF h2
 obtain ⟨A2,n2,d2,Ac,e3,s2⟩:=xF h3
 obtain ⟨A3,n3,d3,Bl,e4,s3⟩:=aKg h4
 simp only [List.drop_zero,List.drop_succ_cons,List.take_succ_cons,List.take_zero,List.cons.injEq,and_true] at e0 e1 e2 e3 e4
 exact ⟨N,Z,A1,n1,d1,A2,n2,d2,A3,n3,d3,V,Ac,Bl,by rw [e0,e1,e2,e3,e4],s1,s2,s3⟩
end
section
open Go.RowKit
attribute [local go_sem ↓] Go.wp_at_zero Go.wp_at_succ
def aNW (w:World) (s:StR) (e:Ending) (w':World):Prop:=(∃ b,e=.returned (.bool b)∧(b=false→s.n1≤100∧s.n2≤100∧s.n3≤100∧s.n4≤100))∧Ext w w'
theorem aDu (s:StR) (w:World) (h:s.ok w):Calls prog 5 #[.agg (ssA s)] w (aNW w s):=by
 obtain ⟨W,hW⟩:=gx (w.alloc (.cells (ssA s) 30))
 have HB:=zh (show Blk W w.heap.size 30 (ssA s) from by rw [← hW];exact Blk.new w 30 (ssA s))
 have HE:=zh (show Ext w W from be)
 have a1:=h.s1.le
 have b1:=h.s1.cap
 have a2:=h.s2.le
 have b2:=h.s2.cap
 have a3:=h.s3.le
 have b3:=h.s3.cap
 have a4:=h.s4.le
 have b4:=h.s4.cap
 obtain ⟨q0,q1,q2,q3,q4⟩:=aE HB.out
 clear h
 by_cases h1:100 < s.n1
 ·have d1 : decide ((100 : Int) < (s.n1 : Int)) = true := decide_eq_true aa
  exact zg
 have d1:decide ((100:Int) < (s.n1:Int))=false:=decide_eq_false aa
 by_cases h2:100 < s.n2
 ·have d2 : decide ((100 : Int) < (s.n2 : Int)) = true := decide_eq_true aa
  exact zg
 have d2:decide ((100:Int) < (s.n2:Int))=false:=decide_eq_false aa
 by_cases h3:100 < s.n3
 ·have d3 : decide ((100 : Int) < (s.n3 : Int)) = true := decide_eq_true aa
  exact zg
 have d3:decide ((100:Int) < (s.n3:Int))=false:=decide_eq_false aa
 have HN:=zh (show s.n1≤100∧s.n2≤100∧s.n3≤100 from aa)
 clear h1 h2 h3
 go_enter func5,ntmps5
 go_wp2_with fail
 go_ret
 refine ⟨⟨_,rfl,fun h=>?_⟩,HE.out⟩
 have h4:¬ (100:Int) < (s.n4:Int):=of_decide_eq_false h
 have:=HN.out
 omega
structure LwS (w W:World) (x:StpR) (S:Option Addr) (m d:Nat) (L:List OpR) (sig:List UInt8) (VN PN:List UInt64) (BL:List Int):Prop where
 g:Blk W w.heap.size 25 (genC x.gN x.gZ x.B1 x.m1 x.d1 x.B2 x.m2 x.d2 x.B3 x.m3 x.d3)
 p:Blk W (w.heap.size+1) 30 (ssA x.s)
 t:Blk W (w.heap.size+2) 36 (stA x.ac x.sq x.A x.n x.c S m d)
 hV:SlG W x.B1 x.m1 x.d1 VN
 hN:SlG W x.B2 x.m2 x.d2 PN
 hB:SlZ W x.B3 x.m3 x.d3 BL
 hs:x.s.ok W
 hT:(⟨x.ac,x.sq,x.A,x.n,x.c,S,m,d,L,sig⟩:TxR).ok W
 low:Ext w W
section
variable {w W W':World} {x:StpR} {S:Option Addr} {m d:Nat} {L:List OpR} {sig:List UInt8} {VN PN:List UInt64} {BL:List Int}
theorem LwS.ext (h:LwS w W x S m d L sig VN PN BL) (e:Ext W W'):LwS w W' x S m d L sig VN PN BL:=⟨h.g.ext e,h.p.ext e,h.t.ext e,h.hV.ext e,h.hN.ext e,h.hB.ext e,h.hs.ext e,h.hT.ext e,h.low.trans e⟩
theorem LwS.f (h:LwS w W x S m d L sig VN PN BL):W.cell? ⟨w.heap.size,0,none⟩=some (.int .i64 x.gN)∧W.cell? ⟨w.heap.size,1,none⟩=some (.int .i64 x.gZ)∧W.cell? ⟨w.heap.size,2,none⟩=some (.slice x.B1 x.m1 x.d1)∧W.cell? ⟨w.heap.size,3,none⟩=some (.slice x.B2 x.m2 x.d2)∧W.cell? ⟨w.heap.size,4,none⟩=some (.slice x.B3 x.m3 x.d3)∧W.cell? ⟨w.heap.size+1,0,none⟩=some (.slice x.s.A1 x.s.n1 x.s.c1)∧W.cell? ⟨w.heap.size+1,1,none⟩=some (.slice x.s.A2 x.s.n2 x.s.c2)∧W.cell? ⟨w.heap.size+1,2,none⟩=some (.slice x.s.A3 x.s.n3 x.s.c3)∧W.cell? ⟨w.heap.size+1,3,none⟩=some (.slice x.s.A4 x.s.n4 x.s.c4)∧W.cell? ⟨w.heap.size+1,4,none⟩=some (.int .i64 x.s.G)∧W.cell? ⟨w.heap.size+2,0,none⟩=some (.int .i64 x.ac)∧W.cell? ⟨w.heap.size+2,1,none⟩=some (.int .i64 x.sq)∧W.cell? ⟨w.heap.size+2,2,none⟩=some (.slice x.A x.n x.c)∧W.cell? ⟨w.heap.size+2,3,none⟩=some (.slice S m d) :=
 ⟨h.g.cell 0,h.g.cell 1,h.g.cell 2,h.g.cell 3,h.g.cell 4,h.p.cell 0,h.p.cell 1,h.p.cell 2,h.p.cell 3,h.p.cell 4,h.t.cell 0,h.t.cell 1,h.t.cell 2,h.t.cell 3⟩
theorem LwS.new (hV:SlG w x.B1 x.m1 x.d1 VN) (hN:SlG w x.B2 x.m2 x.d2 PN) (hB:SlZ w x.B3 x.m3 x.d3 BL) (hs:x.s.ok w) (hT:(⟨x.ac,x.sq,x.A,x.n,x.c,S,m,d,L,sig⟩:TxR).ok w) :
  ∃ W,((w.alloc (.cells (genC x.gN x.gZ x.B1 x.m1 x.d1 x.B2 x.m2 x.d2 x.B3 x.m3 x.d3) 25)).alloc (.cells (ssA x.s) 30)).alloc (.cells (stA x.ac x.sq x.A x.n x.c S m d) 36)=W∧Hid (LwS w W x S m d L sig VN PN BL):=by
 have he:=(((Ext.refl w).alloc' (.cells (genC x.gN x.gZ x.B1 x.m1 x.d1 x.B2 x.m2 x.d2 x.B3 x.m3 x.d3) 25)).alloc' (.cells (ssA x.s) 30)).alloc' (.cells (stA x.ac x.sq x.A x.n x.c S m d) 36)
 exact ⟨_,rfl,zh ⟨((Blk.new w 25 (genC x.gN x.gZ x.B1 x.m1 x.d1 x.B2 x.m2 x.d2 x.B3 x.m3 x.d3)).alloc _).alloc _,Blk.alloc (Blk.newAt _ _ _ _ dr) _,Blk.newAt _ _ _ _ dr,hV.ext he,hN.ext he,hB.ext he,hs.ext he,hT.ext he,he⟩⟩
end
section
variable {o:Oper} {a:Act} {w:World} {K:Act→World→Prop} {Q:Exit→Act→World→Prop}
theorem kW {P:Program} {t e:TypeId} {z:Value} {size bytes:Nat} {ops:Array Oper} {X:Prop} (E:Elem P t e z size bytes) (hgd:o.guard=none) (s x:Operand)
  (ho:o.op=.call { callee:=.builtin .append,args:=#[s,x],argTypes:=#[t,t] })
  (base:Nat) (A:Option Addr) (n c:Nat) (xs:List Value) (hs:a.eval s=.slice A n c) (hown:w.ownsRow base e size (.slice A n c) n xs)
  (A2:Option Addr) (m c2:Nat) (ys:List Value) (hx:a.eval x=.slice A2 m c2) (hr:Rd w A2 ys) (hl:ys.length=m * size) (h1:∀ u ∈ ys,u.oneCell'=true)
  (hb:(n+m) * bytes≤140737488355328) (h63:n+m≤4611686018427387904) (hbase:base≤w.heap.size)
  (h:∀ A' c' w',w'.ownsRow base e size (.slice A' (n+m) c') (n+m) (xs ++ ys)→w.grownBy w' (Value.ownBlock (.slice A n c))→K (a.put o.dst (.slice A' (n+m) c')) w'):if Region.wanted o (yielded ops a.tmps)=true then Oper.wp P o a w K Q else X:=by
 have hw:Region.wanted o (yielded ops a.tmps)=true:=di
 rw [if_pos hw]
 exact oB E s x ho base A n c xs hs hown A2 m c2 ys hx hr hl h1 hb h63 hbase h
theorem wB {ty e:TypeId} (x y:Operand) (ho:o.op=.buildSlice ty 2 #[(0,x),(1,y)]) {vx vy:Value} {cs:Array Value} (hx:a.eval x=vx) (hy:a.eval y=vy) (hr:(Instr.buildSlice ty 2 #[(0,vx),(1,vy)]).run prog w=.ok (.slice (some ⟨w.heap.size,0,none⟩) 2 2) (w.alloc (.cells cs e)))
  (h:∀ (g:Nat) (W2:World),Hid (Blk W2 g e cs∧Ext w W2)→K (a.put o.dst (.slice (some ⟨g,0,none⟩) 2 2)) W2):o.wp prog a w K Q:=by
 have:=h _ _ (zh ⟨Blk.new w e cs,(Ext.refl w).alloc' _⟩)
 unfold Oper.wp
 rw [yH x y ho hx hy hr]
 exact this
end
theorem aIv (s0:StR) (A:Option Addr) (m c:Nat) (l:List DeR) (w:World) (h:s0.ok w) (hl:SlG w A m c l) (hn:s0.n1≤900000∧s0.n2≤1000000∧s0.n3≤1000000∧s0.n4≤1000000) (hm:m≤100000):Calls prog 97 #[.agg (ssA s0),.slice A m c] w (jB w (mV s0.V l)):=by
 have HL:=zh hl
 have hmc:=hl.le
 have hcap:=hl.cap
 clear hl
 obtain ⟨W,hW,HB,HR,HE⟩:=en1 w s0
 obtain ⟨q0,q1,q2,q3,q4⟩:=aE HB.out
 have HS0:=zh h
 have HN:=zh hn
 clear h hn
 go_enter func97,ntmps97
 go_wp2_with fail
 refine (iK s0 W (HS0.out.ext HE.out) du).mono ?_
 rintro e w5 ⟨s1,rfl,ho1,hv1,he5⟩
 clear q0 q1 q2 q3 q4
 go_upto_region 2 with ((with_reducible refine aH rfl (.tmp 2) (.tmp 7) rfl w.heap.size s1 rfl rfl (HB.out.ext he5) ?_);intro W7 h7)
 obtain ⟨HS7,hk7,HBD⟩:=cpS HS0 du HB HE ho1 hv1 he5 h7
 have HR7:=zh (hk7 _ _ _ HR.out aa)
 have HV1:=zh hv1
 clear hk7 h7 ho1 hv1 he5 HB HR HE
 have HL1:=zh HS7.out.own.l1
 have HN1:=zh (show s1.n1≤900000 from by
  have e1:s1.C=s0.C:=congrArg StV.C HV1.out
  have m1:=HL1.out
  have l1:=HS0.out.s1.len
  rw [e1] at m1
  have:=HN.out
  omega)
 have HX7:=zh HS7.out.low
 go_wp2_with fail
 go_loopw [5] (fun vi wr=>∃ (k:Nat) (s:StR),vi=.int .i64 (k:Int)∧k≤m∧Hid (StB w wr w.heap.size s)∧Hid (Blk wr (w.heap.size+1) 30 (ssA ss0))∧Hid (s.V=⟨addL s1.C (l.take k),s1.Q,s1.K,s1.P,s1.G⟩)) (fun i _=>m - (intOf i).toNat)
 case atStart=>exact ⟨0,s1,rfl,Nat.zero_le _,HS7,HR7,zh rfl⟩
 case round =>
  obtain ⟨k,s,rfl,hk,HS,HR,HV⟩:=hrel
  by_cases hlt:k < m
  ·have i0 : (0 : Int) ≤ (k : Int) := aa
   have i1:(k:Int) < (m:Int):=aa
   obtain ⟨d,hd⟩:=gx (aS l k)
   obtain ⟨b,o,hab,hrow,-⟩:=(HL.out.ext HS.out.low).at (show 0 < m by omega)
   subst hab
   have hkl:k < l.length:=by rw [HL.out.len];exact hlt
   have HAT:=zh (fun (V:World) (e:Ext wr.drew V)=>show V.rangeAt b (o+k * 11) (RowT.enc d) from by
    rw [← hd]
    obtain ⟨b2,o2,e2,hr2,-⟩:=(HL.out.ext (HS.out.low.trans (((Ext.refl wr).drew').trans e))).at (show 0 < m by omega)
    injection e2 with e3
    injection e3 with e4 e5
    subst e4
    subst e5
    exact cN hr2 hkl)
   have HDR:=zh (fun (V:World) (e:Ext wr.drew V)=>show V.rangeAt b (o+k * 11) (RowT.enc d.c) from aQ (k:=10) (HAT.out V e))
   have HDA:=zh (fun (V:World) (e:Ext wr.drew V)=>show V.cell? ⟨b,o+k * 11+10,none⟩=some (.int .i64 d.a) from (HAT.out V e) 10 _ rfl)
   have hdw:deW d:=by rw [← hd];exact HL.out.nth hlt
   obtain ⟨vc,hvc⟩:=gx (Value.agg (ceA d.c))
   have HVC:=zh hvc
   have HS6:=zh (HS.out.ext ((Ext.refl wr).drew'))
   have HR6:=zh (HR.out.ext ((Ext.refl wr).drew'))
   have hbd:s.n1≤1000000∧s.n2≤1000000∧s.n3≤1000000∧s.n4≤1000000:=by
    have e1:s.C=addL s1.C (l.take k):=congrArg StV.C HV.out
    have e2:s.Q=s1.Q:=congrArg StV.Q HV.out
    have e3:s.K=s1.K:=congrArg StV.K HV.out
    have e4:s.P=s1.P:=congrArg StV.P HV.out
    have m1:=HS.out.own.l1;have m2:=HS.out.own.l2;have m3:=HS.out.own.l3;have m4:=HS.out.own.l4
    have l1:=HS7.out.own.l1;have l2:=HS7.out.own.l2;have l3:=HS7.out.own.l3;have l4:=HS7.out.own.l4
    rw [e1] at m1;rw [e2] at m2;rw [e3] at m3;rw [e4] at m4
    have h5:=mW (l.take k) s1.C
    have h6:(l.take k).length≤100000:=Nat.le_trans py (by rw [HL.out.len];exact hm)
    have:=HN1.out
    have:=HBD.out
    omega
   have HPUT:=zh (fun (V:World) (e:Ext wr.drew V)=>mM s d.c d.a V (HS6.out.own.ok.ext e) hdw.1 hdw.2 hbd)
   rw [hvc] at HPUT
   have HDD:=zh hd
   have HKL:=zh hkl
   clear hd hrow hvc hdw hbd hkl
   go_upto_region 5 with fail
   refine wp_region_held_drew (S:=fun _=>True) ab (trivial) (fun aA=>?_)
   refine zzr [1,2,3,4,6,7,8,9] ?_
   refine zzj (VE 0 (.agg (ssA s)) (VE 5 (vc) (VE 10 (.int .i64 d.a) (VV 11 (fun v V=>∃ s2,v=.agg (ssA s2)∧OwnS V w.heap.size s2∧s2.V=⟨eB s.C d.c d.a,s.Q,s.K,s.P,s.G⟩) VN)))) [(0,some 14),(5,some 19),(10,some 24),(11,some 25)] 1 (fun _ _ h _=>h) (ve (ve (ve (VV.ext (fun v w w' ⟨s2,h1,h2,h3⟩ e=>⟨s2,h1,h2.ext e,h3⟩) VN.ext)))) (zzc ?_ (zzc ?_ (zzc ?_ (zzc ?_ zzn)))) ?_
   ·refine zzp fun W hE hS K hK => ?_
    exact zd
   ·refine zzp fun W hE hS K hK => ?_
    refine iP ceP (.tmp 18) rfl b (o+k * 11) rfl d.c vc HVC.out (HDR.out W hE) ?_
    exact zzF hK (vc)
   ·refine zzp fun W hE hS K hK => ?_
    have c9:=HDA.out W hE
    go_simp
    exact zzF hK (.int .i64 d.a)
   ·refine zm [(0, some 14), (5, some 19), (10, some 24)] fun env W hE hS hD K hK => ?_
    obtain ⟨h0,h5,h10,-⟩:=zzV hD
    clear hD
    simp only [aR,h0,h5,h10] at hK ⊢
    clear h0 h5 h10
    go_simp
    go_at_call 17
    refine (HPUT.out _ hE).mono ?_
    exact AR
   intro env W hE hS hV
   obtain ⟨h0,h5,h10,h11,-⟩:=zzV hV
   clear hV
   simp only [aR,h0,h5,h10]
   clear h0 h5 h10
   generalize env 11=x11 at h11 ⊢
   obtain ⟨s2,rfl,ho2,hv2⟩:=h11
   have aA:=hS
   refine za 12 (fun K hK=>?_)
   (refine bQ rfl (.tmp 2) (.tmp 25) dp w.heap.size (.agg (ssA s2)) s2 rfl dp dp (HS6.out.blk.ext hE) ?_;intro W9 h9)
   refine hK.out _ _ (trivial) (fun aA=>?_)
   clear hK K
   try simp only [bB]
   refine wpd ?_
   have HF:=zh (show StB w W9 w.heap.size s2 from by rw [← h9.out.1];exact StB.start ho2 (HS6.out.blk.ext hE) (HS6.out.low.trans hE) (Nat.le_refl _))
   have HRF:=zh (show Blk W9 (w.heap.size+1) 30 (ssA ss0) from gn)
   have HVF:=zh (show s2.V=⟨addL s1.C (l.take (k+1)),s1.Q,s1.K,s1.P,s1.G⟩ from by
    have hh:=HV.out
    rw [hv2,uB HKL.out,HDD.out,show s.C=_ from congrArg StV.C hh,show s.Q=_ from congrArg StV.Q hh,show s.K=_ from congrArg StV.K hh,show s.P=_ from congrArg StV.P hh,show s.G=_ from congrArg StV.G hh])
   clear h9 ho2 hv2 hE hS aA HS6 HR6 HPUT HAT HDR HDA
   go_wp2_with fail
   go_roundw
   case rel=>exact ⟨k+1,s2,ar,hlt,HF,HRF,HVF⟩
   case measure=>simp [intOf];omega
  obtain rfl:m=k:=aa
  have i1:¬ (m:Int) < (m:Int):=aa
  have HSP:=zh (show s.V=mV s0.V l from by
   have e:s1.V=s0.V:=HV1.out
   rw [HV.out,show l.take m=l from by rw [← HL.out.len];exact List.take_length]
   unfold mV
   rw [← e];rfl)
  go_upto_region 6 with fail
  have HF:=HS
  have HRF:=HR
  obtain ⟨q0,q1,q2,q3,q4⟩:=aE HF.out.blk
  go_wp2_with ((with_reducible refine aH rfl (.tmp 4) (.tmp 26) rfl (w.heap.size+1) (s) rfl rfl HRF.out ?_);intro W9 h9)
  exact rtS _ _ HF.out HRF.out aa h9 (HSP.out)
theorem aBw (ac sq:Int) (A:Option Addr) (n c:Nat) (L:List OpR) (w:World) (hS:SlO w A n c L) :
  Calls prog 42 #[.agg (txA ac sq A n c)] w fun e w'=>e=.returned (.int .i64 (gH ac sq L))∧Ext w w':=by
 obtain ⟨W,hW⟩:=gx (w.alloc (.cells (txA ac sq A n c) 33))
 have HB:=zh (show Blk W w.heap.size 33 (txA ac sq A n c) from cw)
 have HE:=zh (show Ext w W from be)
 have HS:=zh (hS.ext HE.out)
 have HV:=zh (eE ac sq A n c L W HS.out)
 have hle:=hS.le
 have hcap:=hS.cap
 have HLEN:=zh hS.len
 have t0:=HB.out.cell 0
 have t1:=HB.out.cell 1
 have t2:=HB.out.cell 2
 clear hS
 cases hv:vTx ac sq L with
 | false =>
  have HT:=zh (show gH ac sq L=0 from by unfold gH;rw [hv];rfl)
  rw [hv] at HV
  clear hv
  go_enter func42,ntmps42
  exact xr
 | true =>
  have HT:=zh (show gH ac sq L=vI L L.length from by unfold gH;rw [if_pos hv])
  have HVT:=zh hv
  rw [hv] at HV
  clear hv
  have hn4:n≤4:=jq
  go_enter func42,ntmps42
  go_wp2_with fail
  refine zcl HV.out fun w1 he1=>?_
  have HX1:=zh (HE.out.trans he1)
  have HB1:=zh (HB.out.ext he1)
  have HS1:=zh (HS.out.ext he1)
  clear he1 t0 t1 t2 hW
  go_wp2_with fail
  go_loopw [3,4] (fun vl vi wr=>∃ (k:Nat),vi=.int .i64 (k:Int)∧k≤n∧vl=.int .i64 (vI L k)∧Hid (Ext w1 wr)) (fun _ i _=>n - (intOf i).toNat)
  case atStart=>exact ⟨0,rfl,Nat.zero_le _,rfl,zh (Ext.refl w1)⟩
  case round =>
   obtain ⟨k,rfl,hk,rfl,HX⟩:=hrel
   have t2:=(HB1.out.ext HX.out).cell 2
   by_cases hlt:k < n
   ·have i0 : (0 : Int) ≤ (k : Int) := aa
    have i1:(k:Int) < (n:Int):=aa
    obtain ⟨b,o,rfl,hrow,-⟩:=(HS1.out.ext HX.out).g.at aa
    obtain ⟨R,hR⟩:=gx (bR L k)
    have hr:wr.rangeAt b (o+k * 23) (RowT.enc R):=by rw [← hR,mC];exact cN hrow ak
    have hra:wr.cell? ⟨b,o+k * 23+2,none⟩=some (.int .i64 R.am):=hr 2 _ rfl
    obtain ⟨⟨n1,n2⟩,n3⟩:=aAD HVT.out k ef
    have n4:=n3 ak
    have ham:=(jI ((dX HVT.out).2 k ak)).2.2.2.2.2.2.2.1
    rw [hR] at n4 ham
    have HN4:=zh n4
    obtain ⟨z,hz⟩:=gx (vI L k)
    rw [hz] at HN4 n1 n2 ⊢
    have hm1:=ham.1
    have hm2:=ham.2
    have hz2:z≤10000000000000 * 4:=aa
    clear hrow hR n3 n4 hz ham n2 hr
    go_wp2_with fail
    go_roundw
    case rel=>exact ⟨k+1,ar,hlt,by rw [HN4.out],HX⟩
    case measure=>simp [intOf];omega
   obtain rfl:n=k:=aa
   have i1:¬ (n:Int) < (n:Int):=aa
   have HXX:=zh (HX1.out.trans HX.out)
   go_wp2_with fail
   go_ret
   exact ⟨by rw [HT.out,HLEN.out];rfl,HXX.out⟩
theorem aBv (a b:VtR) (w:World):Calls prog 213 #[.agg (vtA a),.agg (vtA b)] w fun e w'=>e=.returned (.bool (skV a b))∧Ext w w':=by
 obtain ⟨W,hW⟩:=gx ((w.alloc (.cells (vtA a) 124)).alloc (.cells (vtA b) 124))
 have HA:=zh (show Blk W w.heap.size 124 (vtA a) from ey)
 have HB:=zh (show Blk W (w.heap.size+1) 124 (vtA b) from ag)
 have HE:=zh (show Ext w W from ai)
 have a0:W.cell? ⟨w.heap.size,0,none⟩=some (.int .i64 a.k):=HA.out.cell 0
 have a1:W.cell? ⟨w.heap.size,1,none⟩=some (.int .i64 a.sl):=HA.out.cell 1
 have a2:W.cell? ⟨w.heap.size,2,none⟩=some (.int .i64 a.ro):=HA.out.cell 2
 have a4:W.cell? ⟨w.heap.size,4,none⟩=some (.int .i64 a.si):=HA.out.cell 4
 have b0:W.cell? ⟨w.heap.size+1,0,none⟩=some (.int .i64 b.k):=HB.out.cell 0
 have b1:W.cell? ⟨w.heap.size+1,1,none⟩=some (.int .i64 b.sl):=HB.out.cell 1
 have b2:W.cell? ⟨w.heap.size+1,2,none⟩=some (.int .i64 b.ro):=HB.out.cell 2
 have b4:W.cell? ⟨w.heap.size+1,4,none⟩=some (.int .i64 b.si):=HB.out.cell 4
 have ra:W.rangeAt w.heap.size 6 (RowT.enc a.pa):=aQ (k:=8) (bG (k:=6) (aC HA.out))
 have rb:W.rangeAt (w.heap.size+1) 6 (RowT.enc b.pa):=aQ (k:=8) (bG (k:=6) (aC HB.out))
 obtain ⟨x1,h1⟩:=gx (decide (a.k=b.k))
 obtain ⟨x2,h2⟩:=gx (decide (a.pa=b.pa))
 obtain ⟨x3,h3⟩:=gx (decide (a.sl=b.sl))
 obtain ⟨x4,h4⟩:=gx (decide (a.ro=b.ro))
 obtain ⟨x5,h5⟩:=gx (decide (a.si=b.si))
 have HV:=zh (show skV a b=(x1 && (x2 && (x3 && (x4 && x5)))) from by unfold skV;rw [h1,h2,h3,h4,h5])
 have q7:=fun W=>cE a.pa b.pa W
 rw [h2] at q7
 have e1:(a.k == b.k)=x1:=kb
 have e3:(a.sl == b.sl)=x3:=ka
 have e4:(a.ro == b.ro)=x4:=j9
 have e5:(a.si == b.si)=x5:=qq
 clear h2
 have hcs:(x1=false) ∨ (x1=true∧x2=false) ∨ (x1=true∧x2=true∧x3=false) ∨ (x1=true∧x2=true∧x3=true∧x4=false) ∨ (x1=true∧x2=true∧x3=true∧x4=true∧x5=false) ∨ (x1=true∧x2=true∧x3=true∧x4=true∧x5=true):=by
  cases x1 <;> cases x2 <;> cases x3 <;> cases x4 <;> cases x5 <;> simp
 rcases hcs with rfl | ⟨rfl,rfl⟩ | ⟨rfl,rfl,rfl⟩ | ⟨rfl,rfl,rfl,rfl⟩ | ⟨rfl,rfl,rfl,rfl,rfl⟩ | ⟨rfl,rfl,rfl,rfl,rfl⟩
 all_goals
  go_enter func213,ntmps213
  go_wp2_with (first | (with_reducible refine aX nmP ay (.tmp 11) rfl w.heap.size 6 rfl a.pa _ rfl ra ?_) | (with_reducible refine aX nmP ay (.tmp 13) rfl (w.heap.size+1) 6 rfl b.pa _ rfl rb ?_))
  go_ret
  exact ⟨dc,HE.out⟩
theorem zY (a b:VtR) (w:World) (ha:a.wf) (hb:b.wf):Calls prog 157 #[.agg (vtA a),.agg (vtA b)] w fun e w'=>e=.returned (.bool (cfV a b))∧Ext w w':=by
 obtain ⟨W,hW⟩:=gx ((w.alloc (.cells (vtA a) 124)).alloc (.cells (vtA b) 124))
 have HA:=zh (show Blk W w.heap.size 124 (vtA a) from ey)
 have HB:=zh (show Blk W (w.heap.size+1) 124 (vtA b) from ag)
 have HE:=zh (show Ext w W from ai)
 obtain ⟨va,hva⟩:=gx (Value.agg (vtA a))
 obtain ⟨vb,hvb⟩:=gx (Value.agg (vtA b))
 have HVA:=zh hva
 have HVB:=zh hvb
 obtain ⟨x1,h1⟩:=gx (decide (a ≠ b))
 obtain ⟨x2,h2⟩:=gx (skV a b)
 obtain ⟨x3,h3⟩:=gx (eS a)
 obtain ⟨x4,h4⟩:=gx (eS b)
 have HV:=zh (show cfV a b=(x1 && (x2 && (x3 && x4))) from by unfold cfV;rw [h1,h2,h3,h4])
 have HN:=zh (fun W=>aCN a b ha hb W)
 have HG:=zh (fun (W:World)=>aDC .neq (.tmp 17) (.tmp 18) a b W)
 have HSK:=zh (fun W=>aBv a b W)
 have HVA2:=zh (fun W=>iR a W)
 have HVB2:=zh (fun W=>iR b W)
 rw [h1,hva,hvb] at HN
 rw [hva,hvb] at HG
 rw [h2,hva,hvb] at HSK
 rw [h3,hva] at HVA2
 rw [h4,hvb] at HVB2
 have HRA:=zh (fun (V:World) (e:Ext W V)=>show V.rangeAt w.heap.size 0 (RowT.enc a) from aC (HA.out.ext e))
 have HRB:=zh (fun (V:World) (e:Ext W V)=>show V.rangeAt (w.heap.size+1) 0 (RowT.enc b) from aC (HB.out.ext e))
 clear h1 h2 h3 h4 ha hb hva hvb
 have HX0:=zh (Ext.refl W)
 have q8:=HG.out
 have q9:=HN.out
 have hcs:(x3=false) ∨ (x3=true∧x4=false) ∨ (x3=true∧x4=true∧x2=false) ∨ (x3=true∧x4=true∧x2=true∧x1=false) ∨ (x3=true∧x4=true∧x2=true∧x1=true):=by
  cases x3 <;> cases x4 <;> cases x2 <;> cases x1 <;> simp
 rcases hcs with rfl | ⟨rfl,rfl⟩ | ⟨rfl,rfl,rfl⟩ | ⟨rfl,rfl,rfl,rfl⟩ | ⟨rfl,rfl,rfl,rfl⟩
 all_goals
  go_enter func157,ntmps157
  go_wp2_with (first | (with_reducible refine aD vtP rfl (.tmp 2) rfl w.heap.size 0 rfl a va HVA.out (HRA.out _ HX0.out) ?_) | (with_reducible refine aD vtP rfl (.tmp 3) rfl (w.heap.size+1) 0 rfl b vb HVB.out (HRB.out _ HX0.out) ?_)  | (with_reducible refine aX vtP ay (.tmp 2) rfl w.heap.size 0 rfl a va HVA.out (HRA.out _ HX0.out) ?_) | (with_reducible refine aX vtP ay (.tmp 3) rfl (w.heap.size+1) 0 rfl b vb HVB.out (HRB.out _ HX0.out) ?_) | (go_at_call 213;(with_reducible refine zcl (HSK.out _) fun w5 he5=>?_);have HX0:=zh (HX0.out.trans he5);clear he5) | (go_at_call 212;(first | (with_reducible refine (HVA2.out _).mono ?_) | (with_reducible refine (HVB2.out _).mono ?_));rintro e w5 ⟨rfl,he5⟩;have HX0:=zh (HX0.out.trans he5);clear he5))
  go_ret
  exact ⟨dc,HE.out.trans HX0.out⟩
theorem zV (v:VtR) (hwf:v.wf) (h:eS v=true) (w:World):Calls prog 236 #[.agg (vtA v)] w fun e w'=>e=.returned (.agg (nmc (aEo v)))∧Ext w w':=by
 obtain ⟨W,hW⟩:=gx ((w.alloc (.cells (vtA v) 124)).alloc (.cells zcs.toArray 50))
 have HB2:=zh (show Blk W (w.heap.size+1) 50 zcs.toArray from ag)
 have HE:=zh (show Ext w W from ai)
 have rv:W.rangeAt w.heap.size 0 (RowT.enc v):=oa
 obtain ⟨vv,hvv⟩:=gx (Value.agg (vtA v))
 have HVV:=zh hvv
 have HEN:=zh (fun W=>aEP v hwf h W)
 rw [hvv] at HEN
 clear hvv h
 go_enter func236,ntmps236
 go_wp2_with (with_reducible refine aD vtP rfl (.tmp 1) rfl w.heap.size 0 rfl v vv HVV.out rv ?_)
 refine (HEN.out _).mono ?_
 rintro e w2 ⟨A2,c2,rfl,hO2,he2⟩
 have HX2:=zh he2
 have HS2:=zh hO2.sl
 clear hO2 he2 rv
 go_wp2_with fail
 refine zcl (dA 64 A2 23 c2 _ _ HS2.out aa) fun w3 he3=>?_
 exact wn
theorem aBt (pub:UInt64) (S:SgR) (w:World) (h:S.ok w):Calls prog 214 #[.agg (nmc pub),.agg (sgA S)] w fun e w'=>e=.returned (.bool (vfV pub S.v S.sig))∧Ext w w':=by
 obtain ⟨W,hW⟩:=gx ((w.alloc (.cells (nmc pub) 50)).alloc (.cells (sgA S) 126))
 have HB1:=zh (show Blk W w.heap.size 50 (nmc pub) from pg)
 have HB2:=zh (show Blk W (w.heap.size+1) 126 (sgA S) from ag)
 have HE:=zh (show Ext w W from ai)
 have HS:=zh h
 obtain ⟨vv,hvv⟩:=gx (Value.agg (vtA S.v))
 have HVV:=zh hvv
 have HVD:=zh (fun W=>iR S.v W)
 rw [hvv] at HVD
 obtain ⟨z,hz⟩:=gx (gS pub 2 (aEo S.v) S.sig)
 have HVF:=zh (fun (V:World) (e:Ext w V)=>pQ pub (aEo S.v) 2 S.A S.n S.c S.sig V (HS.out.sig.ext e))
 rw [hz] at HVF
 cases hv:eS S.v with
 | false =>
  have HV:=zh (show vfV pub S.v S.sig=false from by unfold vfV;rw [hv];rfl)
  rw [hv] at HVD
  have HNM:True:=trivial
  exact tw
 | true =>
  have HV:=zh (show vfV pub S.v S.sig=z from by unfold vfV;rw [hv,hz];rfl)
  have HNM:=zh (fun W=>zV S.v HS.out.1 hv W)
  rw [hv] at HVD
  rw [hvv] at HNM
  exact tw
theorem pS (B:Option Addr) (m d:Nat) (PN:List UInt64) (S:SgR) (w:World) (hp:SlG w B m d PN) (h:S.ok w):Calls prog 159 #[.slice B m d,.agg (sgA S)] w fun e w'=>e=.returned (.bool (vfK PN S.v S.sig))∧Ext w w':=by
 obtain ⟨W,hW⟩:=gx (w.alloc (.cells (sgA S) 126))
 have HB:=zh (show Blk W w.heap.size 126 (sgA S) from rp)
 have HE:=zh (show Ext w W from be)
 have HS:=zh h
 have HP:=zh hp
 have HLEN:=zh hp.len
 have hle:=hp.le
 have hcap:=hp.cap
 obtain ⟨vs,hvs⟩:=gx (Value.agg (sgA S))
 have HVS:=zh hvs
 have q4:W.cell? ⟨w.heap.size,4,none⟩=some (.int .i64 S.v.si):=HB.out.cell 4
 obtain ⟨si,hsi⟩:=gx (S.v.si)
 clear q4
 have HQ4:=zh (fun (V:World) (h:Blk V w.heap.size 126 (sgA S))=>show V.cell? ⟨w.heap.size,4,none⟩=some (.int .i64 si) from by rw [← hsi];exact h.cell 4)
 by_cases hok:0≤si∧si < (m:Int)
 ·obtain ⟨i, rfl⟩ : ∃ i : Nat, si = (i : Int) := ⟨si.toNat, aa⟩
  have hi:i < m:=aa
  have j0:(0:Int)≤(i:Int):=aa
  have j1:(i:Int) < (m:Int):=aa
  obtain ⟨b,o,hab,-,-⟩:=hp.at (show 0 < m by omega)
  have HKR:=zh (fun (V:World) (e:Ext w V)=>show V.rangeAt b (o+i * 8) (RowT.enc (aS PN i)) from by
   exact AK)
  subst hab
  obtain ⟨z,hz⟩:=gx (vfV (aS PN i) S.v S.sig)
  have HVF:=zh (fun (V:World) (e:Ext w V)=>aBt (aS PN i) S V (HS.out.ext e))
  rw [hz,hvs] at HVF
  have HV:=zh (show vfK PN S.v S.sig=z from by
   unfold vfK
   rw [hsi,HLEN.out,decide_eq_true hok,Int.toNat_natCast,hz];rfl)
  clear h hp hvs hz hsi hok
  go_enter func159,ntmps159
  go_upto_region 1 with fail
  refine wp_region_held_drew (S:=fun V=>Blk V w.heap.size 126 (sgA S)∧Ext w V) ab (⟨HB.out.drew,HE.out.trans ((Ext.refl _).drew')⟩) (fun aA=>?_)
  refine zz0 [0,1,2,3,4,5,6,7,8,9,10,11,12,13,14,15,16,17] ?_;repeat first | refine zz1 ?_ (hy:=ix) | refine zz2 ?_ | refine zz9 ?_
  first | refine zu 18 (v:=.agg (nmc (aS PN i))) aA ?_ (hy:=by exact aG nmP dp (.tmp 22) dp b (o+i * 8) dp (aS PN i) _ rfl (fun V h=>HKR.out V h.2)) | (refine zs 18 aA ?_)
  try simp only [bB]
  first | refine zu 19 (v:=vs) aA ?_ (hy:=ll) | (refine zs 19 aA ?_)
  try simp only [bB]
  refine za 20 (fun K hK=>?_)
  (go_simp;first | (go_at_call 214;refine (HVF.out _ aA.2).mono ?_;rintro e w8 ⟨rfl,he8⟩) | skip)
  refine hK.out _ _ ni (fun aA=>?_)
  clear hK K
  try simp only [bB]
  exact BR
 have HV:=zh (show vfK PN S.v S.sig=false from by
  unfold vfK
  rw [hsi,HLEN.out,decide_eq_false hok];rfl)
 have hcs:(¬ si ≥ 0) ∨ (si ≥ 0∧¬ si < (m:Int)):=aa
 clear h hp hvs hsi hok
 rcases hcs with j0 | ⟨j0,j1⟩
 ·go_enter func159, ntmps159
  go_upto_region 1 with fail
  refine wp_region_held_drew (S:=fun V=>Blk V w.heap.size 126 (sgA S)∧Ext w V) ab (⟨HB.out.drew,HE.out.trans ((Ext.refl _).drew')⟩) (fun aA=>?_)
  refine zz0 [0,1,2,3,4] ?_;repeat first | refine zz1 ?_ (hy:=ix) | refine zz2 ?_ | refine zz9 ?_
  (refine zs 5 aA ?_)
  (refine zs 6 aA ?_)
  (refine zs 7 aA ?_)
  (refine zs 8 aA ?_)
  (refine zs 9 aA ?_)
  (refine zs 10 aA ?_)
  refine zzr [11,12] ?_
  exact wg
 go_enter func159,ntmps159
 go_upto_region 1 with fail
 refine wp_region_held_drew (S:=fun V=>Blk V w.heap.size 126 (sgA S)∧Ext w V) ab (⟨HB.out.drew,HE.out.trans ((Ext.refl _).drew')⟩) (fun aA=>?_)
 refine zz0 [0,1,2,3,4,5,6,7,8,9,10,11,12] ?_;repeat first | refine zz1 ?_ (hy:=ix) | refine zz2 ?_ | refine zz9 ?_
 exact wg
theorem aBy (B:Option Addr) (m d:Nat) (PN:List UInt64) (E:EvR) (w:World) (hp:SlG w B m d PN) (h:RowT.ok E w):Calls prog 96 #[.slice B m d,.agg (evA E)] w fun e w'=>e=.returned (.bool (evV PN E.a.v E.a.sig E.b.v E.b.sig))∧Ext w w':=by
 obtain ⟨W,hW⟩:=gx (w.alloc (.cells (evA E) 128))
 have HB:=zh (show Blk W w.heap.size 128 (evA E) from rm)
 have HE:=zh (show Ext w W from be)
 have HS:=zh (show E.a.ok w∧E.b.ok w from h)
 have HP:=zh hp
 obtain ⟨va,hva⟩:=gx (Value.agg (vtA E.a.v))
 obtain ⟨vb,hvb⟩:=gx (Value.agg (vtA E.b.v))
 obtain ⟨sa,hsa⟩:=gx (Value.agg (sgA E.a))
 obtain ⟨sb,hsb⟩:=gx (Value.agg (sgA E.b))
 have HVA:=zh hva
 have HVB:=zh hvb
 have HSA:=zh hsa
 have HSB:=zh hsb
 obtain ⟨x1,h1⟩:=gx (cfV E.a.v E.b.v)
 obtain ⟨x2,h2⟩:=gx (tM E.a.v E.b.v)
 obtain ⟨x3,h3⟩:=gx (vfK PN E.a.v E.a.sig)
 obtain ⟨x4,h4⟩:=gx (vfK PN E.b.v E.b.sig)
 have HV:=zh (show evV PN E.a.v E.a.sig E.b.v E.b.sig=(x1 && (x2 && (x3 && x4))) from by unfold evV;rw [h1,h2,h3,h4])
 have HC1:=zh (fun W=>zY E.a.v E.b.v W HS.out.1.v HS.out.2.v)
 have HC2:=zh (fun W=>aDb E.a.v E.b.v W)
 have HC3:=zh (fun (V:World) (e:Ext w V)=>pS B m d PN E.a V (HP.out.ext e) (HS.out.1.ext e))
 have HC4:=zh (fun (V:World) (e:Ext w V)=>pS B m d PN E.b V (HP.out.ext e) (HS.out.2.ext e))
 rw [h1,hva,hvb] at HC1
 rw [h2,hva,hvb] at HC2
 rw [h3,hsa] at HC3
 rw [h4,hsb] at HC4
 have HRE:=zh (fun (V:World) (e:Ext W V)=>show V.rangeAt w.heap.size 0 (RowT.enc E) from aC (HB.out.ext e))
 have HX0:=zh (Ext.refl W)
 clear h1 h2 h3 h4 h hp hva hvb hsa hsb
 have hcs:(x1=false) ∨ (x1=true∧x2=false) ∨ (x1=true∧x2=true∧x3=false) ∨ (x1=true∧x2=true∧x3=true∧x4=false) ∨ (x1=true∧x2=true∧x3=true∧x4=true):=by
  cases x1 <;> cases x2 <;> cases x3 <;> cases x4 <;> simp
 rcases hcs with rfl | ⟨rfl,rfl⟩ | ⟨rfl,rfl,rfl⟩ | ⟨rfl,rfl,rfl,rfl⟩ | ⟨rfl,rfl,rfl,rfl⟩
 all_goals
  go_enter func96,ntmps96
  go_wp2_with (first | (with_reducible refine aD vtP rfl (.tmp 6) rfl w.heap.size 0 rfl E.a.v va HVA.out (aCJ (aHA (HRE.out _ HX0.out))) ?_) | (with_reducible refine aD vtP rfl (.tmp 9) rfl w.heap.size 23 rfl E.b.v vb HVB.out (aCJ (aHz (HRE.out _ HX0.out))) ?_)  | (with_reducible refine aX vtP ay (.tmp 14) rfl w.heap.size 0 rfl E.a.v va HVA.out (aCJ (aHA (HRE.out _ HX0.out))) ?_) | (with_reducible refine aX vtP ay (.tmp 17) rfl w.heap.size 23 rfl E.b.v vb HVB.out (aCJ (aHz (HRE.out _ HX0.out))) ?_)  | (with_reducible refine aX sgP ay (.tmp 23) rfl w.heap.size 0 rfl E.a sa HSA.out (aHA (HRE.out _ HX0.out)) ?_) | (with_reducible refine aX sgP ay (.tmp 29) rfl w.heap.size 23 rfl E.b sb HSB.out (aHz (HRE.out _ HX0.out)) ?_) | (go_at_call 157;(with_reducible refine zcl (HC1.out _) fun w5 he5=>?_);have HX0:=zh (HX0.out.trans he5);clear he5) | (go_at_call 158;(with_reducible refine zcl (HC2.out _) fun w5 he5=>?_);have HX0:=zh (HX0.out.trans he5);clear he5) | (go_at_call 159;(first | (with_reducible refine (HC3.out _ (HE.out.trans HX0.out)).mono ?_) | (with_reducible refine (HC4.out _ (HE.out.trans HX0.out)).mono ?_));rintro e w5 ⟨rfl,he5⟩;have HX0:=zh (HX0.out.trans he5);clear he5))
  go_ret
  exact ⟨dc,HE.out.trans HX0.out⟩
end
end Go.Proofs.YtgmnmjeccfnmbaaGreat
