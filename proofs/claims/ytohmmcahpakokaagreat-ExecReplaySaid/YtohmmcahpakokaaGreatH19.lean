/- slices.Clone at entries, numbers, locks and names; a state as a value. -/
import Derived.Shelf.SlLaysF0
import Derived.Test.YtohmmcahpakokaaGreatProg
import Derived.Test.YtohmmcahpakokaaGreatH17
import Derived.Test.YtohmmcahpakokaaGreatH18
import Derived.Test.YtohmmcahpakokaaGreatLay
set_option maxRecDepth 100000
set_option maxHeartbeats 8000000
set_option linter.unusedVariables false
set_option linter.unusedSimpArgs false
namespace Go.Proofs.YtohmmcahpakokaaGreat
section
open Go.RowKit
attribute [local go_sem ↓] Go.wp_at_zero Go.wp_at_succ
theorem qD {α:Type} [RowT α] {L:List α} (h:gcs L=[]):L=[]:=by
 have:=congrArg List.length h
 rw [aH] at this
 rcases Nat.mul_eq_zero.1 this with h | h
 ·exact List.length_eq_zero_iff.1 h
 exact absurd h (Nat.ne_of_gt RowT.pos)
theorem aBR (A:Option Addr) (n c:Nat) (L:List DeR) (w:World) (h:SlG w A n c L) (hn:n≤1000000000) :
  Calls Tryz.prog 90 #[.slice A n c] w fun e w'=>∃ A' c',e=.returned (.slice A' n c')∧w'.ownsRow w.heap.size 34 11 (.slice A' n c') n (gcs L)∧Ext w w':=by
 rcases A with _ | ad
 ·have hl:L=[]:=by
   rcases h.rd with h | ⟨b,o,h,_⟩
   ·exact qD h
   cases h
  subst hl
  obtain rfl:n=0:=by have:=h.len;simpa using this.symm
  have hq:=run_eql_slice_nil (P:=Tryz.prog) w 27 34 none 0 c Tryz.underlying27
  go_enter Tryz.func90,Tryz.ntmps90
  go_wp2_with fail
  go_ret
  exact ⟨_,_,rfl,World.ownsRow_nil _ _ _ _,Ext.refl _⟩
 have hq:=run_eql_slice_nil (P:=Tryz.prog) w 27 34 (some ad) n c Tryz.underlying27
 have HO0:=zh (show (w.alloc (.cells #[] 34)).ownsRow w.heap.size 34 11 (.slice (some ⟨w.heap.size,0,none⟩) 0 0) 0 [] from World.ownsRow_made w #[] 0 (Nat.le_refl _) (Nat.zero_le _) rfl)
 have HS:=zh (h.ext ((Ext.refl w).alloc' (.cells #[] 34)))
 have HX:=zh ((Ext.refl w).alloc' (.cells #[] 34))
 have HL:=zh (show (gcs L).length=n * 11 by rw [aH,h.len];rfl)
 clear h
 go_enter Tryz.func90,Tryz.ntmps90
 go_wp2_with (at_builtin;go_must (refine bB deE rfl (.tmp 5) (.tmp 6) rfl w.heap.size _ _ _ [] rfl HO0.out _ n c (gcs L) rfl HS.out.rd HL.out (bF L) (by omega) (by omega) HX.out.size ?_;intro A' c' w' hO hg))
 go_ret
 exact ⟨_,_,rfl,by simpa using hO,Below.grown HX.out hg HX.out.size (fun k hk=>(World.ownsRow.lt HO0.out k hk).1)⟩
theorem aBQ (A:Option Addr) (n c:Nat) (L:List Int) (w:World) (h:SlG w A n c L) (hn:n≤1000000000) :
  Calls Tryz.prog 91 #[.slice A n c] w fun e w'=>∃ A' c',e=.returned (.slice A' n c')∧w'.ownsRow w.heap.size 3 1 (.slice A' n c') n (gcs L)∧Ext w w':=by
 rcases A with _ | ad
 ·have hl:L=[]:=by
   rcases h.rd with h | ⟨b,o,h,_⟩
   ·exact qD h
   cases h
  subst hl
  obtain rfl:n=0:=by have:=h.len;simpa using this.symm
  have hq:=run_eql_slice_nil (P:=Tryz.prog) w 38 3 none 0 c Tryz.underlying38
  go_enter Tryz.func91,Tryz.ntmps91
  go_wp2_with fail
  go_ret
  exact ⟨_,_,rfl,World.ownsRow_nil _ _ _ _,Ext.refl _⟩
 have hq:=run_eql_slice_nil (P:=Tryz.prog) w 38 3 (some ad) n c Tryz.underlying38
 have HO0:=zh (show (w.alloc (.cells #[] 3)).ownsRow w.heap.size 3 1 (.slice (some ⟨w.heap.size,0,none⟩) 0 0) 0 [] from World.ownsRow_made w #[] 0 (Nat.le_refl _) (Nat.zero_le _) rfl)
 have HS:=zh (h.ext ((Ext.refl w).alloc' (.cells #[] 3)))
 have HX:=zh ((Ext.refl w).alloc' (.cells #[] 3))
 have HL:=zh (show (gcs L).length=n * 1 by rw [aH,h.len];rfl)
 clear h
 go_enter Tryz.func91,Tryz.ntmps91
 go_wp2_with (at_builtin;go_must (refine bB inE rfl (.tmp 5) (.tmp 6) rfl w.heap.size _ _ _ [] rfl HO0.out _ n c (gcs L) rfl HS.out.rd HL.out (bF L) (by omega) (by omega) HX.out.size ?_;intro A' c' w' hO hg))
 go_ret
 exact ⟨_,_,rfl,by simpa using hO,Below.grown HX.out hg HX.out.size (fun k hk=>(World.ownsRow.lt HO0.out k hk).1)⟩
theorem aBP (A:Option Addr) (n c:Nat) (L:List LkR) (w:World) (h:SlG w A n c L) (hn:n≤1000000000) :
  Calls Tryz.prog 92 #[.slice A n c] w fun e w'=>∃ A' c',e=.returned (.slice A' n c')∧w'.ownsRow w.heap.size 94 19 (.slice A' n c') n (gcs L)∧Ext w w':=by
 rcases A with _ | ad
 ·have hl:L=[]:=by
   rcases h.rd with h | ⟨b,o,h,_⟩
   ·exact qD h
   cases h
  subst hl
  obtain rfl:n=0:=by have:=h.len;simpa using this.symm
  have hq:=run_eql_slice_nil (P:=Tryz.prog) w 41 94 none 0 c Tryz.underlying41
  go_enter Tryz.func92,Tryz.ntmps92
  go_wp2_with fail
  go_ret
  exact ⟨_,_,rfl,World.ownsRow_nil _ _ _ _,Ext.refl _⟩
 have hq:=run_eql_slice_nil (P:=Tryz.prog) w 41 94 (some ad) n c Tryz.underlying41
 have HO0:=zh (show (w.alloc (.cells #[] 94)).ownsRow w.heap.size 94 19 (.slice (some ⟨w.heap.size,0,none⟩) 0 0) 0 [] from World.ownsRow_made w #[] 0 (Nat.le_refl _) (Nat.zero_le _) rfl)
 have HS:=zh (h.ext ((Ext.refl w).alloc' (.cells #[] 94)))
 have HX:=zh ((Ext.refl w).alloc' (.cells #[] 94))
 have HL:=zh (show (gcs L).length=n * 19 by rw [aH,h.len];rfl)
 clear h
 go_enter Tryz.func92,Tryz.ntmps92
 go_wp2_with (at_builtin;go_must (refine bB lkE rfl (.tmp 5) (.tmp 6) rfl w.heap.size _ _ _ [] rfl HO0.out _ n c (gcs L) rfl HS.out.rd HL.out (bF L) (by omega) (by omega) HX.out.size ?_;intro A' c' w' hO hg))
 go_ret
 exact ⟨_,_,rfl,by simpa using hO,Below.grown HX.out hg HX.out.size (fun k hk=>(World.ownsRow.lt HO0.out k hk).1)⟩
theorem aBO (A:Option Addr) (n c:Nat) (L:List UInt64) (w:World) (h:SlG w A n c L) (hn:n≤1000000000) :
  Calls Tryz.prog 93 #[.slice A n c] w fun e w'=>∃ A' c',e=.returned (.slice A' n c')∧w'.ownsRow w.heap.size 30 8 (.slice A' n c') n (gcs L)∧Ext w w':=by
 rcases A with _ | ad
 ·have hl:L=[]:=by
   rcases h.rd with h | ⟨b,o,h,_⟩
   ·exact qD h
   cases h
  subst hl
  obtain rfl:n=0:=by have:=h.len;simpa using this.symm
  have hq:=run_eql_slice_nil (P:=Tryz.prog) w 37 30 none 0 c Tryz.underlying37
  go_enter Tryz.func93,Tryz.ntmps93
  go_wp2_with fail
  go_ret
  exact ⟨_,_,rfl,World.ownsRow_nil _ _ _ _,Ext.refl _⟩
 have hq:=run_eql_slice_nil (P:=Tryz.prog) w 37 30 (some ad) n c Tryz.underlying37
 have HO0:=zh (show (w.alloc (.cells #[] 30)).ownsRow w.heap.size 30 8 (.slice (some ⟨w.heap.size,0,none⟩) 0 0) 0 [] from World.ownsRow_made w #[] 0 (Nat.le_refl _) (Nat.zero_le _) rfl)
 have HS:=zh (h.ext ((Ext.refl w).alloc' (.cells #[] 30)))
 have HX:=zh ((Ext.refl w).alloc' (.cells #[] 30))
 have HL:=zh (show (gcs L).length=n * 8 by rw [aH,h.len];rfl)
 clear h
 go_enter Tryz.func93,Tryz.ntmps93
 go_wp2_with (at_builtin;go_must (refine bB cX rfl (.tmp 5) (.tmp 6) rfl w.heap.size _ _ _ [] rfl HO0.out _ n c (gcs L) rfl HS.out.rd HL.out (bF L) (by omega) (by omega) HX.out.size ?_;intro A' c' w' hO hg))
 go_ret
 exact ⟨_,_,rfl,by simpa using hO,Below.grown HX.out hg HX.out.size (fun k hk=>(World.ownsRow.lt HO0.out k hk).1)⟩
structure StR where
 A1:Option Addr
 n1:Nat
 c1:Nat
 C:List DeR
 A2:Option Addr
 n2:Nat
 c2:Nat
 Q:List Int
 A3:Option Addr
 n3:Nat
 c3:Nat
 K:List LkR
 A4:Option Addr
 n4:Nat
 c4:Nat
 P:List UInt64
 G:Int
def StR.V (s:StR):StV:=⟨s.C,s.Q,s.K,s.P,s.G⟩
abbrev ssA (s:StR):Array Value:=#[.slice s.A1 s.n1 s.c1,.slice s.A2 s.n2 s.c2,.slice s.A3 s.n3 s.c3,.slice s.A4 s.n4 s.c4,.int .i64 s.G]
structure StR.ok (s:StR) (w:World):Prop where
 s1:SlG w s.A1 s.n1 s.c1 s.C
 s2:SlG w s.A2 s.n2 s.c2 s.Q
 s3:SlG w s.A3 s.n3 s.c3 s.K
 s4:SlG w s.A4 s.n4 s.c4 s.P
 g:wfI s.G
theorem StR.ok.ext {s:StR} {w w':World} (h:s.ok w) (e:Ext w w'):s.ok w':=⟨h.s1.ext e,h.s2.ext e,h.s3.ext e,h.s4.ext e,h.g⟩
structure OwnS (w:World) (base:Nat) (s:StR):Prop where
 o1:w.ownsRow base 34 11 (.slice s.A1 s.n1 s.c1) s.n1 (gcs s.C)
 o2:w.ownsRow base 3 1 (.slice s.A2 s.n2 s.c2) s.n2 (gcs s.Q)
 o3:w.ownsRow base 94 19 (.slice s.A3 s.n3 s.c3) s.n3 (gcs s.K)
 o4:w.ownsRow base 30 8 (.slice s.A4 s.n4 s.c4) s.n4 (gcs s.P)
 k1:∀ d ∈ s.C,deW d
 k2:∀ z ∈ s.Q,wfI z
 k3:∀ l ∈ s.K,lkW l
 g:wfI s.G
theorem OwnS.ok {w:World} {base:Nat} {s:StR} (h:OwnS w base s):s.ok w :=
 ⟨OwnG.sl (e:=34) h.o1 h.k1,OwnG.sl (e:=3) h.o2 h.k2,OwnG.sl (e:=94) h.o3 h.k3,OwnG.sl (e:=30) h.o4 (fun _ _=>trivial),h.g⟩
theorem OwnS.ext {w w':World} {base:Nat} {s:StR} (h:OwnS w base s) (e:Ext w w'):OwnS w' base s:=⟨aU h.o1 e,aU h.o2 e,aU h.o3 e,aU h.o4 e,h.k1,h.k2,h.k3,h.g⟩
theorem OwnS.mono {w:World} {base base':Nat} {s:StR} (h:OwnS w base s) (hb:base'≤base):OwnS w base' s:=⟨bC h.o1 hb,bC h.o2 hb,bC h.o3 hb,bC h.o4 hb,h.k1,h.k2,h.k3,h.g⟩
theorem OwnS.kept {w w':World} {base:Nat} {s:StR} {X:Nat} {t:TypeId} {cs:Array Value} (h:OwnS w base s) (hg:w.grownBy w' (some X)) (hb:Blk w X t cs) (h1:t ≠ 34) (h2:t ≠ 3) (h3:t ≠ 94) (h4:t ≠ 30):OwnS w' base s :=
 ⟨h.o1.kept hg (.inr (Ne.symm (aK h.o1 hb h1))),h.o2.kept hg (.inr (Ne.symm (aK h.o2 hb h2))),h.o3.kept hg (.inr (Ne.symm (aK h.o3 hb h3))),h.o4.kept hg (.inr (Ne.symm (aK h.o4 hb h4))),h.k1,h.k2,h.k3,h.g⟩
theorem OwnS.l1 {w:World} {base:Nat} {s:StR} (h:OwnS w base s):s.C.length=s.n1:=OwnG.len (e:=34) h.o1
theorem OwnS.l2 {w:World} {base:Nat} {s:StR} (h:OwnS w base s):s.Q.length=s.n2:=OwnG.len (e:=3) h.o2
theorem OwnS.l3 {w:World} {base:Nat} {s:StR} (h:OwnS w base s):s.K.length=s.n3:=OwnG.len (e:=94) h.o3
theorem OwnS.l4 {w:World} {base:Nat} {s:StR} (h:OwnS w base s):s.P.length=s.n4:=OwnG.len (e:=30) h.o4
theorem aE {w:World} {g:Nat} {t:TypeId} {s:StR} (h:Blk w g t (ssA s)):w.cell? ⟨g,0,none⟩=some (.slice s.A1 s.n1 s.c1)∧w.cell? ⟨g,1,none⟩=some (.slice s.A2 s.n2 s.c2)∧w.cell? ⟨g,2,none⟩=some (.slice s.A3 s.n3 s.c3)∧w.cell? ⟨g,3,none⟩=some (.slice s.A4 s.n4 s.c4)∧w.cell? ⟨g,4,none⟩=some (.int .i64 s.G) :=
 ⟨h.cell 0,h.cell 1,h.cell 2,h.cell 3,h.cell 4⟩
def ss0:StR:=⟨none,0,0,[],none,0,0,[],none,0,0,[],none,0,0,[],0⟩
def gW (w:World) (V:StV) (e:Ending) (w':World):Prop:=∃ s,e=.returned (.agg (ssA s))∧OwnS w' w.heap.size s∧s.V=V∧Ext w w'
theorem rV (x:UInt64) (w:World):Calls Tryz.prog 130 #[.agg (nmc x)] w fun e w'=>e=.returned (.int .u64 (un x))∧Ext w w':=by
 have hl:=aL x
 obtain ⟨W0,hW0⟩:∃ W0,w.alloc (.cells (nmc x) 30)=W0:=⟨_,rfl⟩
 have HB:=zh (show Blk W0 w.heap.size 30 (nmc x) from by rw [← hW0];exact Blk.new _ _ _)
 have HE:=zh (show Ext w W0 from by rw [← hW0];exact (Ext.refl w).alloc' _)
 go_enter Tryz.func130,Tryz.ntmps130
 go_wp2_with fail
 clear hW0
 go_loopw [3,4] (fun v i wr=>∃ k:Nat,k≤8∧i=.int .i64 (k:Int)∧v=.int .u64 (bS ((nmb x).take k))∧W0=wr) (fun _ i _=>8 - (intOf i).toNat)
 case atStart=>exact ⟨0,by omega,rfl,rfl,rfl⟩
 case round =>
  obtain ⟨k,hk,rfl,rfl,rfl⟩:=hrel
  by_cases hlt:k < 8
  ·have hix:W0.cell? ⟨w.heap.size,k,none⟩=some (.int .u8 (((nmb x).getD k 0).toNat:Int)):=by
    rw [HB.out.cell k]
    have hl:=aL x
    simp [nmc,bcs,bv,hl,hlt]
   have i1:(k:Int) < 8:=by omega
   have hb:=lD ((nmb x).take k)
   rw [List.length_take,hl,Nat.min_eq_left (by omega)] at hb
   have hb7:bS ((nmb x).take k) < 72057594037927936:=Nat.lt_of_lt_of_le hb (Nat.pow_le_pow_right (n:=256) (j:=7) (by omega) (by omega))
   have hor:=sT _ ((nmb x).getD k 0) hb7
   have HS:=zh (show bS ((nmb x).take (k+1))=bS ((nmb x).take k) * 256+((nmb x).getD k 0).toNat by rw [mI _ _ (by omega),gG])
   clear hb hb7 hl
   generalize bS ((nmb x).take k)=a at *
   generalize (nmb x).getD k 0=c at *
   go_wp2_with fail
   go_roundw
   case rel=>exact ⟨k+1,by omega,by go_num,by rw [HS.out];go_num,by first | rfl | trivial⟩
   case measure=>simp [intOf];omega
  have HS:=zh (show (bS ((nmb x).take k):Int)=un x by rw [List.take_of_length_le (by omega),nO];rfl)
  have i1:¬ (k:Int) < 8:=by omega
  clear hl
  generalize bS ((nmb x).take k)=a at *
  go_wp2_with fail
  go_ret
  exact ⟨by rw [← HS.out];rfl,HE.out⟩
theorem iJ (x y:UInt64) (w:World):Calls Tryz.prog 74 #[.agg (nmc x),.agg (nmc y)] w fun e w'=>e=.returned (.bool (decide (un x < un y)))∧Ext w w':=by
 have hE:=((Ext.refl w).alloc' (.cells (nmc x) 30)).alloc' (.cells (nmc y) 30)
 have HB1:=zh ((Blk.new w 30 (nmc x)).alloc (.cells (nmc y) 30))
 have HB2:=zh (show Blk ((w.alloc (.cells (nmc x) 30)).alloc (.cells (nmc y) 30)) (w.heap.size+1) 30 (nmc y) from Blk.newAt _ _ _ _ (by simp))
 have HE:=zh hE
 obtain ⟨W0,hW0⟩:∃ W0,(w.alloc (.cells (nmc x) 30)).alloc (.cells (nmc y) 30)=W0:=⟨_,rfl⟩
 rw [hW0] at HB1 HB2 HE
 have HC:=zh (fun (W:World) (h:Ext W0 W)=>And.intro (fV (HB1.out.ext h)) (fV (HB2.out.ext h)))
 clear hE
 go_enter Tryz.func74,Tryz.ntmps74
 go_wp2_with fail
 refine eW (S:=fun W=>Ext W0 W) (by kernel_rfl) (by kernel_rfl) ((Ext.refl W0).drew') ?_
 (refine zzx 0 ?_ (hy:=by intro W aI;obtain ⟨c1,c2⟩:=HC.out W aI;go_simp <;> with_reducible rfl))
 (refine cN (i:=1) (oi:=⟨some 6,.call { callee:=.value (.func 130),args:=#[.tmp 5],argTypes:=#[30] },148,"ref.go:30",#[⟨0,.data⟩],none⟩) (v:=?_) rfl (by kernel_rfl) (by kernel_rfl) (aDQ (by rfl) (fun W aI K hK=>?hy1_1)) ?_;case hy1_1=>(go_simp;go_at_call 130;(with_reducible refine (rV x W).mono ?_);rintro e w1 ⟨rfl,he1⟩;exact hK.out _ (aI.trans he1)))
 try simp only [bH]
 (refine zzx 2 ?_ (hy:=by intro W aI;obtain ⟨c1,c2⟩:=HC.out W aI;go_simp <;> with_reducible rfl))
 (refine cN (i:=3) (oi:=⟨some 8,.call { callee:=.value (.func 130),args:=#[.tmp 7],argTypes:=#[30] },148,"ref.go:30",#[⟨2,.data⟩,⟨1,.chain⟩],none⟩) (v:=?_) rfl (by kernel_rfl) (by kernel_rfl) (aDQ (by rfl) (fun W aI K hK=>?hy1_3)) ?_;case hy1_3=>(go_simp;go_at_call 130;(with_reducible refine (rV y W).mono ?_);rintro e w1 ⟨rfl,he1⟩;exact hK.out _ (aI.trans he1)))
 try simp only [bH]
 (refine zzx 4 ?_)
 (refine zzx 5 ?_)
 refine Plan.done (by kernel_rfl) (fun W aI=>?_)
 have HX:=zh (HE.out.trans aI)
 clear aI
 go_wp2_with fail
 go_ret
 exact ⟨rfl,HX.out⟩
end
section
open Go.RowKit
def cJ (ac sq:Int) (L:List OpR) (i:Nat):List DeR :=
 if (bM L i).k=1 then cU (aP ac) (aP (bM L i).tO) (bM L i).am
 else if (bM L i).k=2 then cU (aP ac) (bW (bA ac sq L (i:Int))) (bM L i).am
 else if (bM L i).k=3 ∨ (bM L i).k=4 then cU (bW (bM L i).lk) (aP (bM L i).tO) (bM L i).am
 else if (bM L i).k=5 then cU (aP ac) (bT (bM L i).va) (bM L i).am
 else []
def iB (ac sq:Int) (L:List OpR) (n:Nat):List DeR:=(List.range n).flatMap (cJ ac sq L)
def iA (ac sq:Int) (L:List OpR):List DeR:=if vTx ac sq L=true then iB ac sq L L.length else []
theorem dQ (ac sq:Int) (L:List OpR) (n:Nat):iB ac sq L (n+1)=iB ac sq L n ++ cJ ac sq L n:=by
 unfold iB;rw [List.range_succ,List.flatMap_append,List.flatMap_cons,List.flatMap_nil,List.append_nil]
theorem sum_append (l m:List DeR):aHj (l ++ m)=aHj l+aHj m:=by unfold aHj;rw [List.map_append,List.sum_append]
def zM (L:List OpR) (n:Nat):Int:=wr ((L.take n).map OpR.am).sum
def kY (ac sq:Int) (L:List OpR):Int:=if vTx ac sq L=true then zM L L.length else 0
def lE (S:StV) (l:List DeR):StV:=⟨addL S.C l,S.Q,S.K,S.P,S.G⟩
def mV (g:Int) (S:StV) (i:Nat):StV :=
 if fN g i=true∧fN S.G i=false then ⟨addL S.C (cU (bT (i:Int)) bV (cY S.C (bT (i:Int)))),S.Q,S.K,S.P,lT S.G i⟩ else S
def expN (g:Int) (S:StV) (n:Nat):StV:=(List.range n).foldl (mV g) S
def vD (g:Int) (S:StV):StV:=expN g S 10
theorem fQ (g:Int) (S:StV) (n:Nat):expN g S (n+1)=mV g (expN g S n) n:=by
 unfold expN;rw [List.range_succ,List.foldl_append];rfl
def gA (ac sq:Int) (L:List OpR) (S:StV) (i:Nat):StV :=
 if (bM L i).k=2 then ⟨S.C,S.Q,eT S.K ⟨bA ac sq L (i:Int),(bM L i).hs,ac,(bM L i).tO,(bM L i).ul⟩,S.P,S.G⟩
 else if (bM L i).k=3 ∨ (bM L i).k=4 then ⟨S.C,S.Q,eG (bM L i).lk S.K,S.P,S.G⟩
 else if (bM L i).k=6 then vD (2 ^ (bM L i).va.toNat) S
 else S
def doO (ac sq:Int) (L:List OpR) (S:StV) (i:Nat):StV:=gA ac sq L (lE S (cJ ac sq L i)) i
def doN (ac sq:Int) (L:List OpR) (S:StV) (n:Nat):StV:=(List.range n).foldl (doO ac sq L) S
theorem mW (ac sq:Int) (L:List OpR) (S:StV) (n:Nat):doN ac sq L S (n+1)=doO ac sq L (doN ac sq L S n) n:=by
 unfold doN;rw [List.range_succ,List.foldl_append];rfl
theorem qF (g:Int) (S:StV) (n:Nat):(expN g S n).Q=S.Q∧(expN g S n).P=S.P:=by
 induction n with
 | zero=>exact ⟨rfl,rfl⟩
 | succ n ih =>
  rw [fQ];unfold mV;split
  ·exact ih
  exact ih
theorem aJn (ac sq:Int) (L:List OpR) (S:StV) (i:Nat):(gA ac sq L S i).Q=S.Q∧(gA ac sq L S i).P=S.P:=by
 unfold gA
 split
 ·exact ⟨rfl,rfl⟩
 split
 ·exact ⟨rfl,rfl⟩
 split
 ·exact qF _ _ _
 exact ⟨rfl,rfl⟩
theorem mX (ac sq:Int) (L:List OpR) (S:StV) (n:Nat):(doN ac sq L S n).Q=S.Q∧(doN ac sq L S n).P=S.P:=by
 induction n with
 | zero=>exact ⟨rfl,rfl⟩
 | succ n ih =>
  rw [mW]
  have:=aJn ac sq L (lE (doN ac sq L S n) (cJ ac sq L n)) n
  exact ⟨this.1.trans ih.1,this.2.trans ih.2⟩
def pP (Q:List Int) (ac sq:Int):List Int:=if ac < (Q.length:Int) then Q.set ac.toNat (max (Q.getD ac.toNat 0) (sq+1)) else Q
def eP (S:StV) (ac sq:Int) (L:List OpR):StV :=
 if vTx ac sq L=false ∨ bG ac sq L ∈ S.P then S
 else ⟨(doN ac sq L S L.length).C,pP (doN ac sq L S L.length).Q ac sq,(doN ac sq L S L.length).K,cE (doN ac sq L S L.length).P (bG ac sq L),(doN ac sq L S L.length).G⟩
theorem aHn (S:StV) (ac sq:Int) (L:List OpR):eP (eP S ac sq L) ac sq L=eP S ac sq L:=by
 by_cases h:vTx ac sq L=false ∨ bG ac sq L ∈ S.P
 ·have e : eP S ac sq L = S := by unfold eP; rw [if_pos h]
  rw [e,e]
 have e:eP S ac sq L=_:=if_neg h
 have hm:bG ac sq L ∈ (eP S ac sq L).P:=by rw [e];exact (aEJ _ _ _).2 (.inl rfl)
 show (if _ then _ else _)=_
 rw [if_pos (.inr hm)]
end
section
open Go.RowKit
attribute [local go_sem ↓] Go.wp_at_zero Go.wp_at_succ
def gV (x y:Int):Int:=if x < y then -1 else if y < x then 1 else 0
theorem iS {x y:Int} (h:x < y):gV x y=-1:=if_pos h
theorem iT {x y:Int} (h:y < x):gV x y=1:=by unfold gV;rw [if_neg (by omega),if_pos h]
theorem iU (x:Int):gV x x=0:=by unfold gV;rw [if_neg (by omega),if_neg (by omega)]
def gT (x y z:Int):Int:=if x ≠ 0 then x else if y ≠ 0 then y else z
def jV (a b:CeR):Int:=gT (gV a.k b.k) (gV a.id b.id) (gV (un a.lk) (un b.lk))
def jW (a b:UInt64):Int:=gV (un a) (un b)
theorem vL (a b:UInt64):decide (jW a b > 0)=decide (un b < un a):=by
 unfold jW
 rcases Int.lt_trichotomy (un a) (un b) with h | h | h
 ·rw [iS h,decide_eq_false (by omega:¬ un b < un a)];rfl
 ·rw [h,iU];simp
 rw [iT h,decide_eq_true h];rfl
theorem vM (a b:CeR):decide (jV a b > 0)=gR b a:=by
 unfold jV gT gR vR
 rcases Int.lt_trichotomy a.k b.k with h | h | h
 ·rw [iS h,if_pos (by decide),hI,if_neg (by omega),decide_eq_false (by omega:¬ b.k < a.k)];rfl
 ·rw [h, iU, if_neg (by decide), hI, if_pos rfl]
  rcases Int.lt_trichotomy a.id b.id with h2 | h2 | h2
  ·rw [iS h2,if_pos (by decide),hI,if_neg (by omega),decide_eq_false (by omega:¬ b.id < a.id)];rfl
  ·rw [h2, iU, if_neg (by decide), hI, if_pos rfl, show gV (un a.lk) (un b.lk) = jW a.lk b.lk from rfl, vL, hI]
   by_cases e:un b.lk=un a.lk
   ·rw [if_pos e,decide_eq_false (by omega)];rfl
   rw [if_neg e]
  rw [iT h2,if_pos (by decide),hI,if_neg (by omega),decide_eq_true h2];rfl
 rw [iT h,if_pos (by decide),hI,if_neg (by omega),decide_eq_true h];rfl
theorem oL (x:Int) (w:World):Calls Tryz.prog 192 #[.int .i64 x] w fun e w'=>e=.returned (.bool false)∧w=w':=by
 go_enter Tryz.func192,Tryz.ntmps192
 go_wp2
 go_ret
 exact ⟨by simp,rfl⟩
theorem qJ (x y:Int) (w:World):Calls Tryz.prog 127 #[.int .i64 x,.int .i64 y] w fun e w'=>e=.returned (.int .i64 (gV x y))∧w=w':=by
 rcases Int.lt_trichotomy x y with h | h | h
 ·have HC := zh (iS h)
  go_enter Tryz.func127,Tryz.ntmps127
  go_wp2_with (go_at_call 192;refine (oL _ _).mono ?_;rintro e w' ⟨rfl,rfl⟩)
  go_ret
  exact ⟨by rw [HC.out];rfl,rfl⟩
 ·subst h
  have h1:decide (x < x)=false:=decide_eq_false (by omega)
  have HC:=zh (iU x)
  go_enter Tryz.func127,Tryz.ntmps127
  go_wp2_with (go_at_call 192;refine (oL _ _).mono ?_;rintro e w' ⟨rfl,rfl⟩)
  go_ret
  exact ⟨by rw [HC.out];rfl,rfl⟩
 have h1:decide (x < y)=false:=decide_eq_false (by omega)
 have HC:=zh (iT h)
 go_enter Tryz.func127,Tryz.ntmps127
 go_wp2_with (go_at_call 192;refine (oL _ _).mono ?_;rintro e w' ⟨rfl,rfl⟩)
 go_ret
 exact ⟨by rw [HC.out];rfl,rfl⟩
theorem oK (x:Int) (w:World):Calls Tryz.prog 219 #[.int .u64 x] w fun e w'=>e=.returned (.bool false)∧w=w':=by
 go_enter Tryz.func219,Tryz.ntmps219
 go_wp2
 go_ret
 exact ⟨by simp,rfl⟩
theorem aAl (x y:Int) (w:World):Calls Tryz.prog 166 #[.int .u64 x,.int .u64 y] w fun e w'=>e=.returned (.int .i64 (gV x y))∧w=w':=by
 rcases Int.lt_trichotomy x y with h | h | h
 ·have HC := zh (iS h)
  go_enter Tryz.func166,Tryz.ntmps166
  go_wp2_with (go_at_call 219;refine (oK _ _).mono ?_;rintro e w' ⟨rfl,rfl⟩)
  go_ret
  exact ⟨by rw [HC.out];rfl,rfl⟩
 ·subst h
  have h1:decide (x < x)=false:=decide_eq_false (by omega)
  have HC:=zh (iU x)
  go_enter Tryz.func166,Tryz.ntmps166
  go_wp2_with (go_at_call 219;refine (oK _ _).mono ?_;rintro e w' ⟨rfl,rfl⟩)
  go_ret
  exact ⟨by rw [HC.out];rfl,rfl⟩
 have h1:decide (x < y)=false:=decide_eq_false (by omega)
 have HC:=zh (iT h)
 go_enter Tryz.func166,Tryz.ntmps166
 go_wp2_with (go_at_call 219;refine (oK _ _).mono ?_;rintro e w' ⟨rfl,rfl⟩)
 go_ret
 exact ⟨by rw [HC.out];rfl,rfl⟩
theorem aHs (x y z:Int) (g:Nat) (w:World) (hb:Blk w g 3 #[.int .i64 x,.int .i64 y,.int .i64 z]):Calls Tryz.prog 126 #[.slice (some ⟨g,0,none⟩) 3 3] w fun e w'=>e=.returned (.int .i64 (gT x y z))∧w=w':=by
 have c0:w.cell? ⟨g,0,none⟩=some (.int .i64 x):=hb.cell 0
 have c1:w.cell? ⟨g,1,none⟩=some (.int .i64 y):=hb.cell 1
 have c2:w.cell? ⟨g,2,none⟩=some (.int .i64 z):=hb.cell 2
 clear hb
 go_enter Tryz.func126,Tryz.ntmps126
 go_wp2_with fail
 go_loop [8] (fun i=>∃ k:Nat,i=.int .i64 (k:Int)∧k≤3∧Hid ((0 < k→x=0)∧(1 < k→y=0)∧(2 < k→z=0))) (fun i=>3 - (intOf i).toNat)
 case atStart=>exact ⟨0,rfl,by omega,zh ⟨by omega,by omega,by omega⟩⟩
 case round =>
  obtain ⟨k,rfl,hk,HZ⟩:=hrel
  rcases (by omega:k=0 ∨ k=1 ∨ k=2 ∨ k=3) with rfl | rfl | rfl | rfl
  ·by_cases h0 : x = 0
   ·have HF := zh h0
    have e1:(x != 0)=false:=by simp [h0]
    clear h0
    go_wp2_with fail
    go_round
    case rel=>exact ⟨1,by go_num,by omega,zh ⟨fun _=>HF.out,by omega,by omega⟩⟩
    case measure=>simp [intOf]
   have HF:=zh (show gT x y z=x from if_pos h0)
   have e1:(x != 0)=true:=by simp [h0]
   clear h0
   go_wp2_with fail
   go_ret
   exact ⟨by rw [HF.out];rfl,rfl⟩
  ·have HX := zh (HZ.out.1 (by omega))
   by_cases h0:y=0
   ·have HF := zh h0
    have e1:(y != 0)=false:=by simp [h0]
    clear h0
    go_wp2_with fail
    go_round
    case rel=>exact ⟨2,by go_num,by omega,zh ⟨fun _=>HX.out,fun _=>HF.out,by omega⟩⟩
    case measure=>simp [intOf]
   have HF:=zh (show gT x y z=y from by unfold gT;rw [if_neg (by simp [HX.out]),if_pos h0])
   have e1:(y != 0)=true:=by simp [h0]
   clear h0
   go_wp2_with fail
   go_ret
   exact ⟨by rw [HF.out];rfl,rfl⟩
  ·have HX := zh (HZ.out.1 (by omega))
   have HY:=zh (HZ.out.2.1 (by omega))
   have HF:=zh (show gT x y z=z from by unfold gT;rw [if_neg (by simp [HX.out]),if_neg (by simp [HY.out])])
   by_cases h0:z=0
   ·have HZ0 := zh h0
    have e1:(z != 0)=false:=by simp [h0]
    clear h0
    go_wp2_with fail
    go_round
    case rel=>exact ⟨3,by go_num,by omega,zh ⟨fun _=>HX.out,fun _=>HY.out,fun _=>HZ0.out⟩⟩
    case measure=>simp [intOf]
   have e1:(z != 0)=true:=by simp [h0]
   clear h0
   go_wp2_with fail
   go_ret
   exact ⟨by rw [HF.out];rfl,rfl⟩
  have HF:=zh (show gT x y z=0 from by unfold gT;rw [if_neg (by simp [HZ.out.1]),if_neg (by simp [HZ.out.2.1])];exact HZ.out.2.2 (by omega))
  go_wp2_with fail
  go_ret
  exact ⟨by rw [HF.out];rfl,rfl⟩
theorem aAN (x y z:Int) (w:World):(Instr.buildSlice 38 3 #[(0,.int .i64 x),(1,.int .i64 y),(2,.int .i64 z)]).run Tryz.prog w=.ok (.slice (some ⟨w.heap.size,0,none⟩) 3 3) (w.alloc (.cells #[.int .i64 x,.int .i64 y,.int .i64 z] 3)):=by kernel_rfl
theorem aEb {o:Oper} {a:Act} {w:World} {K:Act→World→Prop} {Q:Exit→Act→World→Prop} {ty:TypeId} (x y z:Operand) (ho:o.op=.buildSlice ty 3 #[(0,x),(1,y),(2,z)]) {vx vy vz v:Value} {w2:World} (hx:a.eval x=vx) (hy:a.eval y=vy) (hz:a.eval z=vz) (hr:(Instr.buildSlice ty 3 #[(0,vx),(1,vy),(2,vz)]).run Tryz.prog w=.ok v w2) (h:K (a.put o.dst v) w2):o.wp Tryz.prog a w K Q:=by
 unfold Oper.wp execOp
 simp only [ho,List.map_toArray,List.map_cons,List.map_nil,hx,hy,hz,Sem.run_bind,hr,Result.andThen_ok,Sem.run_pure]
 exact h
theorem nN {w:World} {g:Nat} {t:TypeId} {c:CeR} (h:Blk w g t (ceA c)):w.rangeAt g 2 (nmL c.lk):=by
 have:=cB (k:=2) (aD h)
 rw [show (ceA c).toList=ceL c from rfl,aIB] at this
 exact this
theorem bP {w:World} {g:Nat} {t:TypeId} {n:UInt64} (h:Blk w g t (nmc n)):w.rangeAt g 0 (nmL n):=by
 have:=aD h
 rwa [bO] at this
end
section
open Go.Shelf
def tJ:Go.Shelf.Ren:=⟨fun | 6=>64 | 15=>125 | 14=>124 | 28=>190 | 29=>191 | 20=>182 | 21=>183 | 22=>184 | 23=>185 | 24=>186 | 25=>187 | 26=>188 | 27=>189 | 46=>231 | 47=>232 | 48=>233 | 49=>234 | 50=>235 | 57=>253 | n=>n,fun | 22=>96 | 24=>32 | 25=>98 | 3=>3 | 39=>145 | 0=>0 | 53=>202 | 55=>148 | 4=>4 | 46=>196 | 45=>195 | 50=>165 | 5=>5 | 9=>9 | 66=>230 | 70=>234 | 76=>243 | 77=>244 | n=>n,fun | n=>n⟩
theorem aFF:Go.Proofs.SlLaysF0.n6 Tryz.prog tJ:={
 mixed:=by kernel_rfl
 f6:=⟨Tryz.f64.name,by decide,Tryz.func64.trans (congrArg some (by kernel_rfl))⟩
 f14:=⟨Tryz.f124.name,by decide,Tryz.func124.trans (congrArg some (by kernel_rfl))⟩
 f15:=Tryz.func125.trans (congrArg some (by kernel_rfl))
 f20:=⟨Tryz.f182.name,by decide,Tryz.func182.trans (congrArg some (by kernel_rfl))⟩
 f21:=⟨Tryz.f183.name,by decide,Tryz.func183.trans (congrArg some (by kernel_rfl))⟩
 f22:=⟨Tryz.f184.name,by decide,Tryz.func184.trans (congrArg some (by kernel_rfl))⟩
 f23:=⟨Tryz.f185.name,by decide,Tryz.func185.trans (congrArg some (by kernel_rfl))⟩
 f24:=⟨Tryz.f186.name,by decide,Tryz.func186.trans (congrArg some (by kernel_rfl))⟩
 f25:=⟨Tryz.f187.name,by decide,Tryz.func187.trans (congrArg some (by kernel_rfl))⟩
 f26:=⟨Tryz.f188.name,by decide,Tryz.func188.trans (congrArg some (by kernel_rfl))⟩
 f27:=⟨Tryz.f189.name,by decide,Tryz.func189.trans (congrArg some (by kernel_rfl))⟩
 f28:=Tryz.func190.trans (congrArg some (by kernel_rfl))
 f29:=Tryz.func191.trans (congrArg some (by kernel_rfl))
 f46:=⟨Tryz.f231.name,by decide,Tryz.func231.trans (congrArg some (by kernel_rfl))⟩
 f47:=Tryz.func232.trans (congrArg some (by kernel_rfl))
 f48:=Tryz.func233.trans (congrArg some (by kernel_rfl))
 f49:=⟨Tryz.f234.name,by decide,Tryz.func234.trans (congrArg some (by kernel_rfl))⟩
 f50:=⟨Tryz.f235.name,by decide,Tryz.func235.trans (congrArg some (by kernel_rfl))⟩
 f57:=⟨Tryz.f253.name,by decide,Tryz.func253.trans (congrArg some (by kernel_rfl))⟩
 t0:=Tryz.underlying0
 a0:=Tryz.isAgg0
 z0:=Tryz.sizeOf0
 v0:=Tryz.zeroValue0
 t3:=Tryz.underlying3
 a3:=Tryz.isAgg3
 z3:=Tryz.sizeOf3
 v3:=Tryz.zeroValue3
 t4:=Tryz.underlying4
 a4:=Tryz.isAgg4
 z4:=Tryz.sizeOf4
 v4:=Tryz.zeroValue4
 t5:=Tryz.underlying5
 a5:=Tryz.isAgg5
 z5:=Tryz.sizeOf5
 v5:=Tryz.zeroValue5
 t9:=Tryz.underlying9
 a9:=Tryz.isAgg9
 z9:=Tryz.sizeOf9
 v9:=Tryz.zeroValue9
 t22:=Tryz.underlying96
 a22:=Tryz.isAgg96
 z22:=Tryz.sizeOf96
 v22:=Tryz.zeroValue96
 t25:=Tryz.underlying98
 a25:=Tryz.isAgg98
 z25:=Tryz.sizeOf98
 v25:=Tryz.zeroValue98
 t39:=Tryz.underlying145
 a39:=Tryz.isAgg145
 z39:=Tryz.sizeOf145
 v39:=Tryz.zeroValue145
 t45:=Tryz.underlying195
 a45:=Tryz.isAgg195
 z45:=Tryz.sizeOf195
 v45:=Tryz.zeroValue195
 t46:=Tryz.underlying196
 a46:=Tryz.isAgg196
 z46:=Tryz.sizeOf196
 v46:=Tryz.zeroValue196
 t50:=Tryz.underlying165
 a50:=Tryz.isAgg165
 z50:=Tryz.sizeOf165
 v50:=Tryz.zeroValue165
 t53:=Tryz.underlying202
 a53:=Tryz.isAgg202
 z53:=Tryz.sizeOf202
 v53:=Tryz.zeroValue202
 t55:=Tryz.underlying148
 a55:=Tryz.isAgg148
 z55:=Tryz.sizeOf148
 v55:=Tryz.zeroValue148
 t66:=Tryz.underlying230
 a66:=Tryz.isAgg230
 z66:=Tryz.sizeOf230
 v66:=Tryz.zeroValue230
 t70:=Tryz.underlying234
 a70:=Tryz.isAgg234
 z70:=Tryz.sizeOf234
 v70:=Tryz.zeroValue234
 t76:=Tryz.underlying243
 a76:=Tryz.isAgg243
 z76:=Tryz.sizeOf243
 v76:=Tryz.zeroValue243
 t77:=Tryz.underlying244
 a77:=Tryz.isAgg244
 z77:=Tryz.sizeOf244
 v77:=Tryz.zeroValue244 }
end
section
open Go.RowKit
attribute [local go_sem ↓] Go.wp_at_zero Go.wp_at_succ
theorem aDz (seed m:UInt64) {sq:Int} (h0:0≤sq) (h1:sq≤31):mJ seed 1 sq m=some (vZ seed sq.toNat m):=by
 unfold mJ
 rw [if_pos ⟨rfl,h0,by omega⟩]
theorem SlB.grown {w w':World} {A:Option Addr} {n c X:Nat} {l:List UInt8} {ac sq:Int} {A1 A2:Option Addr} {n1 c1 n2 c2:Nat} {t:TypeId} (h:SlB w A n c l) (hg:w.grownBy w' (some X)) (hb:Blk w X t (stA ac sq A1 n1 c1 A2 n2 c2)):SlB w' A n c l:=by
 refine ⟨h.len,h.le,h.cap,?_⟩
 by_cases hx:bcs l=[]
 ·exact .inl hx
 obtain ⟨b,o,e,hr,hlt⟩:=h.rd.at hx
 refine .inr ⟨b,o,e,bK hr (hg.block b hlt ?_)⟩
 intro e2
 injection e2 with e2
 subst e2
 cases l with
 | nil=>exact hx rfl
 | cons x r =>
  have h0:=hr 0 (bv x) rfl
  rw [Nat.add_zero,hb.cell o] at h0
  match o,h0 with
  | 0,h0=>simp [bv] at h0
  | 1,h0=>simp [bv] at h0
  | 2,h0=>simp [bv] at h0
  | 3,h0=>simp [bv] at h0
  | o+4,h0=>simp at h0
def aKL (w:World) (seed:UInt64) (ac sq:Int) (L:List OpR) (e:Ending) (w':World):Prop :=
 Ext w w'∧((vTx ac sq L=false∧e=.returned (.tuple #[.agg lU,.int .i64 1])) ∨ (vTx ac sq L=true∧∃ T:TxR,e=.returned (.tuple #[.agg (tA T),.int .i64 0])∧T.ok w'∧T.v=(ac,sq,L.map OpR.v,vZ seed sq.toNat (bG ac sq L))))
end
section
open Go.RowKit
def iC (na nv:Nat) (ht:Int) (H:List UInt8→UInt64) (ev:OpR→Bool) (ac:Int) (R:OpR) (S:StV):Int :=
 if R.k=3 then match fdK S.K R.lk with
  | none=>6
  | some l=>if R.tO ≠ l.tO ∨ R.am ≠ cY S.C (bW R.lk) then 7 else if H R.pre ≠ l.hs then 12 else if l.ul≤ht then 102 else 0
 else if R.k=4 then match fdK S.K R.lk with
  | none=>6
  | some l=>if R.tO ≠ l.ow ∨ R.am ≠ cY S.C (bW R.lk) then 7 else if ht < l.ul then 102 else 0
 else if R.k=6 then (if (nv:Int)≤R.va then 1 else if fN S.G R.va.toNat=true then 7 else if ev R=true then 0 else 12)
 else if R.k=5∧(nv:Int)≤R.va then 1
 else if R.k=5∧fN S.G R.va.toNat=true then 7
 else if R.k ≠ 5∧(na:Int)≤R.tO then 1
 else if R.k=2∧R.ul≤ht then 102
 else if cY S.C (aP ac) < R.am then 100 else 0
def errN (chk:OpR→StV→Int) (ac sq:Int) (L:List OpR) (S:StV):Nat→Int
 | 0=>0
 | n+1=>if errN chk ac sq L S n ≠ 0 then errN chk ac sq L S n else chk (bM L n) (doN ac sq L S n)
theorem aEX {chk:OpR→StV→Int} {ac sq:Int} {L:List OpR} {S:StV} {k:Nat} (h:errN chk ac sq L S k ≠ 0):∀ n,k≤n→errN chk ac sq L S n=errN chk ac sq L S k:=by
  intro n
  induction n with
  | zero => intro hk; have : k = 0 := by omega
            subst this;rfl
  | succ n ih =>
    intro hk
    by_cases e:k=n+1
    · subst e;rfl
    have e1:=ih (by omega)
    show (if _ then _ else _)=_
    rw [if_pos (by rw [e1];exact h),e1]
end
end Go.Proofs.YtohmmcahpakokaaGreat
