import Derived.Shelf.SlSortCmp.WholeK
import Derived.Shelf.SlSortCmp.NoneTotal
import Derived.Test.YtgmnmjeccfnmbaaGreatE11
set_option maxRecDepth 100000
set_option maxHeartbeats 8000000
set_option linter.unusedSectionVars false
set_option linter.unusedVariables false
set_option linter.unusedSimpArgs false
namespace Go.Proofs.YtgmnmjeccfnmbaaGreat
open Go.Proofs.Tryz
section
open Go.RowKit
attribute [local go_sem ↓] Go.wp_at_zero Go.wp_at_succ
theorem aHw (x:DeR) (c:CeR) (g:Nat) (w:World) (hx:deW x) (hc:ceW c) (hb:Blk w g 61 (ceA c)):Calls prog 135 #[.agg (deA x),.pointer (some ⟨g,0,none⟩)] w fun e w'=>e=.returned (.bool (decide (x.c=c)))∧Ext w w':=by
 have HB:=zh (Blk.new w 92 (deA x))
 have HC:=zh (hb.alloc (.cells (deA x) 92))
 have HE:=zh ((Ext.refl w).alloc' (.cells (deA x) 92))
 have r0:(w.alloc (.cells (deA x) 92)).rangeAt w.heap.size 0 (RowT.enc x.c):=aDP HB.out
 have r1:(w.alloc (.cells (deA x) 92)).rangeAt g 0 (RowT.enc c):=aC HC.out
 have hq:=wQ x.c c hx.1 hc (w.alloc (.cells (deA x) 92))
 have HC2:=zh (rfl:(deA x)=(deA x))
 clear hb hx hc
 have hg:=mP .eql (.tmp 5) (.tmp 6) x.c c (w.alloc (.cells (deA x) 92))
 obtain ⟨v0,hv0⟩:=gx (Value.agg (ceA x.c))
 obtain ⟨v1,hv1⟩:=gx (Value.agg (ceA c))
 rw [hv0,hv1] at hq hg
 have HV0:=zh hv0
 have HV1:=zh hv1
 clear hv0 hv1
 obtain ⟨b,hb⟩:=gx (decide (x.c=c))
 rw [hb] at hq ⊢
 clear hb
 go_enter func135,ntmps135
 go_wp2_with (first | (with_reducible refine aD ceP rfl (.tmp 4) rfl w.heap.size 0 rfl x.c v0 HV0.out r0 ?_) | (with_reducible refine aD ceP rfl (.tmp 1) rfl g 0 rfl c v1 HV1.out r1 ?_))
 go_ret
 exact ⟨rfl,HE.out⟩
theorem aFm (c:CeR) (g:Nat) (w:World) (hc:ceW c) (hb:Blk w g 61 (ceA c)):Says deA 135 #[.pointer (some ⟨g,0,none⟩)] (fun x=>decide (x.c=c)) w :=
 ⟨fun _ _=>by kernel_rfl,fun x W hE hx=>aHw x c g W hx hc (hb.ext hE)⟩
theorem aAf (x:LkR) (c:UInt64) (g:Nat) (w:World) (hx:lkW x)  (hb:Blk w g 50 (nmc c)):Calls prog 195 #[.agg (lkA x),.pointer (some ⟨g,0,none⟩)] w fun e w'=>e=.returned (.bool (decide (x.nm=c)))∧Ext w w':=by
 have HB:=zh (Blk.new w 81 (lkA x))
 have HC:=zh (hb.alloc (.cells (lkA x) 81))
 have HE:=zh ((Ext.refl w).alloc' (.cells (lkA x) 81))
 have r0:(w.alloc (.cells (lkA x) 81)).rangeAt w.heap.size 0 (RowT.enc x.nm):=aBE HB.out
 have r1:(w.alloc (.cells (lkA x) 81)).rangeAt g 0 (RowT.enc c):=bS HC.out
 have hq:=cE x.nm c (w.alloc (.cells (lkA x) 81))
 have HC2:=zh (rfl:(lkA x)=(lkA x))
 clear hb hx 
 have hg:=fZ .eql (.tmp 5) (.tmp 6) x.nm c (w.alloc (.cells (lkA x) 81))
 obtain ⟨v0,hv0⟩:=gx (Value.agg (nmc x.nm))
 obtain ⟨v1,hv1⟩:=gx (Value.agg (nmc c))
 rw [hv0,hv1] at hq hg
 have HV0:=zh hv0
 have HV1:=zh hv1
 clear hv0 hv1
 obtain ⟨b,hb⟩:=gx (decide (x.nm=c))
 rw [hb] at hq ⊢
 clear hb
 go_enter func195,ntmps195
 go_wp2_with (first | (with_reducible refine aD nmP rfl (.tmp 4) rfl w.heap.size 0 rfl x.nm v0 HV0.out r0 ?_) | (with_reducible refine aD nmP rfl (.tmp 1) rfl g 0 rfl c v1 HV1.out r1 ?_))
 go_ret
 exact ⟨rfl,HE.out⟩
theorem yD (c:UInt64) (g:Nat) (w:World)  (hb:Blk w g 50 (nmc c)):Says lkA 195 #[.pointer (some ⟨g,0,none⟩)] (fun x=>decide (x.nm=c)) w :=
 ⟨fun _ _=>by kernel_rfl,fun x W hE hx=>aAf x c g W hx (hb.ext hE)⟩
theorem yC (s:StR) (c:CeR) (w:World) (h:s.ok w) (hc:ceW c) (r:Int) (hr:IxIs (fun x=>decide (x.c=c)) s.C r):Calls prog 74 #[.agg (ssA s),.agg (ceA c)] w fun e w'=>e=.returned (.int .i64 r)∧Ext w w':=by
 obtain ⟨W,hW⟩:=gx ((w.alloc (.cells (ssA s) 30)).alloc (.cells (ceA c) 61))
 have HB:=zh (show Blk W w.heap.size 30 (ssA s) from cg)
 have HC:=zh (show Blk W (w.heap.size+1) 61 (ceA c) from ag)
 have HE:=zh (show Ext w W from ai)
 have c0:W.cell? ⟨w.heap.size,0,none⟩=some (.slice s.A1 s.n1 s.c1):=HB.out.cell 0
 have HF:=zh (aFm c _ _ hc HC.out)
 have HI:=zh (xV HF.out W s.A1 s.n1 s.c1 s.C (h.ext HE.out).s1 (Ext.refl _) r hr)
 clear h hr hc
 go_enter func74,ntmps74
 exact yd
theorem gL (s:StR) (c:UInt64) (w:World) (h:s.ok w)  (r:Int) (hr:IxIs (fun x=>decide (x.nm=c)) s.K r):Calls prog 129 #[.agg (ssA s),.agg (nmc c)] w fun e w'=>e=.returned (.int .i64 r)∧Ext w w':=by
 obtain ⟨W,hW⟩:=gx ((w.alloc (.cells (ssA s) 30)).alloc (.cells (nmc c) 50))
 have HB:=zh (show Blk W w.heap.size 30 (ssA s) from cg)
 have HC:=zh (show Blk W (w.heap.size+1) 50 (nmc c) from ag)
 have HE:=zh (show Ext w W from ai)
 have c0:W.cell? ⟨w.heap.size,2,none⟩=some (.slice s.A3 s.n3 s.c3):=HB.out.cell 2
 have HF:=zh (yD c _ _ HC.out)
 have HI:=zh (xU HF.out W s.A3 s.n3 s.c3 s.K (h.ext HE.out).s3 (Ext.refl _) r hr)
 clear h hr 
 go_enter func129,ntmps129
 exact yd
theorem aAl (x y:DeR) (gf g:Nat) (w:World) (hf:Blk w gf 109 #[.func (.func 78) #[] #[]]) (hb:Blk w g 92 (deA x)):Calls prog 138 #[.agg (deA y),.pointer (some ⟨gf,0,none⟩),.pointer (some ⟨g,0,none⟩)] w fun e w'=>e=.returned (.bool ((fun y=>iU x.c y.c) y))∧Ext w w':=by
 have HB:=zh (Blk.new w 92 (deA y))
 have HC:=zh (hb.alloc (.cells (deA y) 92))
 have HE:=zh ((Ext.refl w).alloc' (.cells (deA y) 92))
 have c0:(w.alloc (.cells (deA y) 92)).cell? ⟨gf,0,none⟩=some (.func (.func 78) #[] #[]):=(hf.alloc _).cell 0
 have r0:(w.alloc (.cells (deA y) 92)).rangeAt w.heap.size 0 (RowT.enc y):=aC HB.out
 have r1:(w.alloc (.cells (deA y) 92)).rangeAt g 0 (RowT.enc x):=aC HC.out
 have HQ:=zh (yM y.c x.c)
 have HM:=zh (fun W=>aCe y x W)
 have eg:∀ args w,(callFunc 78 args).run prog w=.ok (.enter 78 args) w:=fun _ _=>ab
 clear hb hf
 obtain ⟨v0,hv0⟩:=gx (Value.agg (deA y))
 obtain ⟨v1,hv1⟩:=gx (Value.agg (deA x))
 have HV0:=zh hv0
 have HV1:=zh hv1
 rw [hv0,hv1] at HM
 clear hv0 hv1
 go_enter func138,ntmps138
 go_wp2_with (first | (with_reducible refine aD deP rfl (.tmp 3) rfl w.heap.size 0 rfl y v0 HV0.out r0 ?_) | (with_reducible refine aD deP rfl (.tmp 2) rfl g 0 rfl x v1 HV1.out r1 ?_))
 exact ym
theorem aCi (A:Option Addr) (n c:Nat) (L:List DeR) (x:DeR) (w:World) (h:SlG w A n c L):Calls prog 77 #[.slice A n c,.agg (deA x),.func (.func 78) #[] #[]] w fun e w'=>∃ k:Nat,e=.returned (.int .i64 (k:Int))∧k≤n∧gW (fun y=>iU x.c y.c) x L=L.take k ++ x :: L.drop k∧Ext w w':=by
 obtain ⟨W,hW⟩:=gx ((w.alloc (.cells (deA x) 92)).alloc (.cells #[.func (.func 78) #[] #[]] 109))
 have HB:=zh (show Blk W w.heap.size 92 (deA x) from by rw [← hW];exact (Blk.new w 92 (deA x)).alloc _)
 have HC:=zh (show Blk W (w.heap.size+1) 109 #[.func (.func 78) #[] #[]] from ag)
 have HE:=zh (show Ext w W from ai)
 have HF:=zh (show Says deA 138 #[.pointer (some ⟨w.heap.size+1,0,none⟩),.pointer (some ⟨w.heap.size,0,none⟩)] (fun y=>iU x.c y.c) W from ⟨fun _ _=>ab,fun y W2 hE2 _=>aAl x y _ _ W2 (HC.out.ext hE2) (HB.out.ext hE2)⟩)
 have HLEN:=zh h.len
 have HS:=zh (h.ext HE.out)
 have hcap:=h.cap
 have hle:=h.le
 clear h
 have hcs:=kD (fun y=>iU x.c y.c) L
 rw [HLEN.out] at hcs
 rcases hcs with hno | ⟨k,hk,h1,h2⟩
 ·have HI := zh (xV HF.out W A n c L HS.out (Ext.refl _) (-1) (.inl ⟨rfl, ps⟩))
  have HR:=zh (gJ (fun y=>iU x.c y.c) x L n fe (fun j hj hl=>oz) (fun hh=>absurd hh ef))
  clear hno
  go_enter func77,ntmps77
  exact AJ
 have HI:=zh (xV HF.out W A n c L HS.out (Ext.refl _) (k:Int) (.inr ⟨k,rfl,qg,h1,h2⟩))
 have HR:=zh (gJ (fun y=>iU x.c y.c) x L k ef (fun j hj hl=>pp) (fun hh=>rs))
 clear h1 h2
 go_enter func77,ntmps77
 exact xn
theorem aAk (x y:LkR) (gf g:Nat) (w:World) (hf:Blk w gf 156 #[.func (.func 132) #[] #[]]) (hb:Blk w g 81 (lkA x)):Calls prog 198 #[.agg (lkA y),.pointer (some ⟨gf,0,none⟩),.pointer (some ⟨g,0,none⟩)] w fun e w'=>e=.returned (.bool ((fun y=>decide (un x.nm < un y.nm)) y))∧Ext w w':=by
 have HB:=zh (Blk.new w 81 (lkA y))
 have HC:=zh (hb.alloc (.cells (lkA y) 81))
 have HE:=zh ((Ext.refl w).alloc' (.cells (lkA y) 81))
 have c0:(w.alloc (.cells (lkA y) 81)).cell? ⟨gf,0,none⟩=some (.func (.func 132) #[] #[]):=(hf.alloc _).cell 0
 have r0:(w.alloc (.cells (lkA y) 81)).rangeAt w.heap.size 0 (RowT.enc y):=aC HB.out
 have r1:(w.alloc (.cells (lkA y) 81)).rangeAt g 0 (RowT.enc x):=aC HC.out
 have HQ:=zh (yL y.nm x.nm)
 have HM:=zh (fun W=>aCd y x W)
 have eg:∀ args w,(callFunc 132 args).run prog w=.ok (.enter 132 args) w:=fun _ _=>ab
 clear hb hf
 obtain ⟨v0,hv0⟩:=gx (Value.agg (lkA y))
 obtain ⟨v1,hv1⟩:=gx (Value.agg (lkA x))
 have HV0:=zh hv0
 have HV1:=zh hv1
 rw [hv0,hv1] at HM
 clear hv0 hv1
 go_enter func198,ntmps198
 go_wp2_with (first | (with_reducible refine aD lkP rfl (.tmp 3) rfl w.heap.size 0 rfl y v0 HV0.out r0 ?_) | (with_reducible refine aD lkP rfl (.tmp 2) rfl g 0 rfl x v1 HV1.out r1 ?_))
 exact ym
theorem aCh (A:Option Addr) (n c:Nat) (L:List LkR) (x:LkR) (w:World) (h:SlG w A n c L):Calls prog 131 #[.slice A n c,.agg (lkA x),.func (.func 132) #[] #[]] w fun e w'=>∃ k:Nat,e=.returned (.int .i64 (k:Int))∧k≤n∧gW (fun y=>decide (un x.nm < un y.nm)) x L=L.take k ++ x :: L.drop k∧Ext w w':=by
 obtain ⟨W,hW⟩:=gx ((w.alloc (.cells (lkA x) 81)).alloc (.cells #[.func (.func 132) #[] #[]] 156))
 have HB:=zh (show Blk W w.heap.size 81 (lkA x) from by rw [← hW];exact (Blk.new w 81 (lkA x)).alloc _)
 have HC:=zh (show Blk W (w.heap.size+1) 156 #[.func (.func 132) #[] #[]] from ag)
 have HE:=zh (show Ext w W from ai)
 have HF:=zh (show Says lkA 198 #[.pointer (some ⟨w.heap.size+1,0,none⟩),.pointer (some ⟨w.heap.size,0,none⟩)] (fun y=>decide (un x.nm < un y.nm)) W from ⟨fun _ _=>ab,fun y W2 hE2 _=>aAk x y _ _ W2 (HC.out.ext hE2) (HB.out.ext hE2)⟩)
 have HLEN:=zh h.len
 have HS:=zh (h.ext HE.out)
 have hcap:=h.cap
 have hle:=h.le
 clear h
 have hcs:=kD (fun y=>decide (un x.nm < un y.nm)) L
 rw [HLEN.out] at hcs
 rcases hcs with hno | ⟨k,hk,h1,h2⟩
 ·have HI := zh (xU HF.out W A n c L HS.out (Ext.refl _) (-1) (.inl ⟨rfl, ps⟩))
  have HR:=zh (gJ (fun y=>decide (un x.nm < un y.nm)) x L n fe (fun j hj hl=>oz) (fun hh=>absurd hh ef))
  clear hno
  go_enter func131,ntmps131
  exact AJ
 have HI:=zh (xU HF.out W A n c L HS.out (Ext.refl _) (k:Int) (.inr ⟨k,rfl,qg,h1,h2⟩))
 have HR:=zh (gJ (fun y=>decide (un x.nm < un y.nm)) x L k ef (fun j hj hl=>pp) (fun hh=>rs))
 clear h1 h2
 go_enter func131,ntmps131
 exact xn
theorem aAj (x y:UInt64) (gf g:Nat) (w:World) (hf:Blk w gf 113 #[.func (.func 83) #[] #[]]) (hb:Blk w g 50 (nmc x)):Calls prog 142 #[.agg (nmc y),.pointer (some ⟨gf,0,none⟩),.pointer (some ⟨g,0,none⟩)] w fun e w'=>e=.returned (.bool ((fun y=>decide (un x < un y)) y))∧Ext w w':=by
 have HB:=zh (Blk.new w 50 (nmc y))
 have HC:=zh (hb.alloc (.cells (nmc y) 50))
 have HE:=zh ((Ext.refl w).alloc' (.cells (nmc y) 50))
 have c0:(w.alloc (.cells (nmc y) 50)).cell? ⟨gf,0,none⟩=some (.func (.func 83) #[] #[]):=(hf.alloc _).cell 0
 have r0:(w.alloc (.cells (nmc y) 50)).rangeAt w.heap.size 0 (RowT.enc y):=bS HB.out
 have r1:(w.alloc (.cells (nmc y) 50)).rangeAt g 0 (RowT.enc x):=bS HC.out
 have HQ:=zh (yL y x)
 have HM:=zh (fun W=>compareNames_any y x W)
 have eg:∀ args w,(callFunc 83 args).run prog w=.ok (.enter 83 args) w:=fun _ _=>ab
 clear hb hf
 obtain ⟨v0,hv0⟩:=gx (Value.agg (nmc y))
 obtain ⟨v1,hv1⟩:=gx (Value.agg (nmc x))
 have HV0:=zh hv0
 have HV1:=zh hv1
 rw [hv0,hv1] at HM
 clear hv0 hv1
 go_enter func142,ntmps142
 go_wp2_with (first | (with_reducible refine aD nmP rfl (.tmp 3) rfl w.heap.size 0 rfl y v0 HV0.out r0 ?_) | (with_reducible refine aD nmP rfl (.tmp 2) rfl g 0 rfl x v1 HV1.out r1 ?_))
 exact ym
theorem aCg (A:Option Addr) (n c:Nat) (L:List UInt64) (x:UInt64) (w:World) (h:SlG w A n c L):Calls prog 82 #[.slice A n c,.agg (nmc x),.func (.func 83) #[] #[]] w fun e w'=>∃ k:Nat,e=.returned (.int .i64 (k:Int))∧k≤n∧gW (fun y=>decide (un x < un y)) x L=L.take k ++ x :: L.drop k∧Ext w w':=by
 obtain ⟨W,hW⟩:=gx ((w.alloc (.cells (nmc x) 50)).alloc (.cells #[.func (.func 83) #[] #[]] 113))
 have HB:=zh (show Blk W w.heap.size 50 (nmc x) from by rw [← hW];exact (Blk.new w 50 (nmc x)).alloc _)
 have HC:=zh (show Blk W (w.heap.size+1) 113 #[.func (.func 83) #[] #[]] from ag)
 have HE:=zh (show Ext w W from ai)
 have HF:=zh (show Says nmc 142 #[.pointer (some ⟨w.heap.size+1,0,none⟩),.pointer (some ⟨w.heap.size,0,none⟩)] (fun y=>decide (un x < un y)) W from ⟨fun _ _=>ab,fun y W2 hE2 _=>aAj x y _ _ W2 (HC.out.ext hE2) (HB.out.ext hE2)⟩)
 have HLEN:=zh h.len
 have HS:=zh (h.ext HE.out)
 have hcap:=h.cap
 have hle:=h.le
 clear h
 have hcs:=kD (fun y=>decide (un x < un y)) L
 rw [HLEN.out] at hcs
 rcases hcs with hno | ⟨k,hk,h1,h2⟩
 ·have HI := zh (aDy HF.out W A n c L HS.out (Ext.refl _) (-1) (.inl ⟨rfl, ps⟩))
  have HR:=zh (gJ (fun y=>decide (un x < un y)) x L n fe (fun j hj hl=>oz) (fun hh=>absurd hh ef))
  clear hno
  go_enter func82,ntmps82
  exact AJ
 have HI:=zh (aDy HF.out W A n c L HS.out (Ext.refl _) (k:Int) (.inr ⟨k,rfl,qg,h1,h2⟩))
 have HR:=zh (gJ (fun y=>decide (un x < un y)) x L k ef (fun j hj hl=>pp) (fun hh=>rs))
 clear h1 h2
 go_enter func82,ntmps82
 exact xn
def eU:UInt64:=72057594037927936
theorem lZ:nmc eU=#[.int .u8 1,.int .u8 0,.int .u8 0,.int .u8 0,.int .u8 0,.int .u8 0,.int .u8 0,.int .u8 0]:=by kernel_rfl
end
section
open Go.RowKit
structure St3 where
 C:List DeR
 Q:List Int
 P:List UInt64
def StV.s3 (S:StV):St3:=⟨S.C,S.Q,S.P⟩
def cov1 (C:List DeR) (c:CeR):List DeR :=
 if cX C cA≤0 ∨ 0≤cX C c then C
 else addL C (dF cA c (if - cX C cA < cX C c then - cX C c else cX C cA))
def oT (c:CeR):Bool:=decide (1≤c.k∧c.k≤3)
def aKF (C:List DeR):List CeR:=qY iU ((C.map DeR.c).filter oT)
def aNq (C:List DeR):List DeR:=(aKF C).foldl cov1 C
def aKE (S:StV):StV:=⟨aNq S.C,S.Q,S.K,S.P,S.G⟩
section
variable {α β:Type} [RowT α] [DecidableEq β] {V:α→β} {lt0:α→α→Bool} {lt:β→β→Bool} {d d':Array α} {n:Nat}
theorem aLP (hlt:∀ x y,lt0 x y=lt (V x) (V y)) (hn:d'.size=n) (hs:Sort.SortedIn lt0 0 n d'):Wsc lt (d'.toList.map V):=by
 unfold Wsc
 rw [List.pairwise_iff_getElem]
 intro i j hi hj hij
 simp only [List.length_map,Array.length_toList] at hi hj
 have:=hs i j (Nat.zero_le _) hij aa
 rw [hlt,getElem!_pos d' i hi,getElem!_pos d' j hj] at this
 simpa using this
theorem aDq (hd:d.size=n) (hp:Sort.PermIn 0 n d d') (y:β):y ∈ d'.toList.map V ↔ y ∈ d.toList.map V:=by
 obtain ⟨h1,h2,h3⟩:=hp
 have e1:d'.extract 0 n=d':=by rw [← hd,← h1];exact Array.extract_size
 have e2:d.extract 0 n=d:=by rw [← hd];exact Array.extract_size
 rw [e1,e2] at h3
 exact (h3.map V).mem_iff
theorem vL (hS:STO lt) (hlt:∀ x y,lt0 x y=lt (V x) (V y)) (hd:d.size=n) (hp:Sort.PermIn 0 n d d') (hs:Sort.SortedIn lt0 0 n d'):compO (d'.toList.map V)=qY lt (d.toList.map V) :=
 aDS hS (aLP hlt (by rw [hp.1,hd]) hs) (aDq hd hp)
end
def lM (okG:Bool) (na:Nat) (sg:Bool) (S:StV) (ac sq:Int) (L:List OpR):Int :=
 if vTx ac sq L=false ∨ okG=false ∨ (na:Int)≤ac ∨ S.Q.length ≠ na then 1
 else if sg=false then 8
 else if cG ac sq L ∈ S.P then 7
 else if sq ≠ S.Q.getD ac.toNat 0 then 101
 else 0
def iX (chk:OpR→StV→Int) (okG:Bool) (na:Nat) (sg:Bool) (S:StV) (ac sq:Int) (L:List OpR):Int :=
 if lM okG na sg S ac sq L ≠ 0 then lM okG na sg S ac sq L else errN chk ac sq L S L.length
def aJo (S:StV) (ac sq:Int) (L:List OpR):StV :=
 ⟨(doN ac sq L S L.length).C,(doN ac sq L S L.length).Q.set ac.toNat (sq+1),(doN ac sq L S L.length).K,dW (doN ac sq L S L.length).P (cG ac sq L),(doN ac sq L S L.length).G⟩
def nX (chk:OpR→StV→Int) (okG:Bool) (na:Nat) (sg:Bool) (S:StV) (ac sq:Int) (L:List OpR):StV :=
 if iX chk okG na sg S ac sq L=0 then aJo S ac sq L else S
section
variable {chk:OpR→StV→Int} {okG:Bool} {na:Nat} {sg:Bool} {S:StV} {ac sq:Int} {L:List OpR}
theorem aKY (h:lM okG na sg S ac sq L=0):vTx ac sq L=true∧okG=true∧ac < (na:Int)∧S.Q.length=na∧sg=true∧cG ac sq L ∉ S.P∧sq=S.Q.getD ac.toNat 0:=by
 unfold lM at h
 split at h
 ·cases h
 rename_i h1
 split at h
 ·cases h
 rename_i h2
 split at h
 ·cases h
 rename_i h3
 split at h
 ·cases h
 rename_i h4
 simp only [not_or,Bool.not_eq_false,Decidable.not_not] at h1 h2 h4
 exact ⟨h1.1,h1.2.1,aa,h1.2.2.2,h2,h3,h4⟩
end
theorem aJA (g:Int) {k:Nat} (hk:k≤9):(BitVec.ofInt 64 g).getLsbD k=fA g k:=by
 have h1:(BitVec.ofInt 64 g).toNat=(g % 2 ^ 64).toNat:=by simp [BitVec.toNat_ofInt]
 show (BitVec.ofInt 64 g).toNat.testBit k=_
 rw [Nat.testBit_eq_decide_div_mod_eq,h1]
 unfold fA
 have h2:(0:Int)≤g % 2 ^ 64:=Int.emod_nonneg _ ae
 apply decide_eq_decide.2
 exact yb
theorem aFt {k:Nat} (hk:k≤9):BitVec.ofInt 64 ((2:Int) ^ k)=BitVec.twoPow 64 k:=by
 exact yf
theorem kQ (g:Int) {k:Nat} (hk:k≤9):bits .and .i64 g (2 ^ k)=if fA g k=true then 2 ^ k else 0:=by
 show IntKind.i64.wrap ((BitVec.ofInt 64 g &&& BitVec.ofInt 64 (2 ^ k)).toNat:Int)=_
 rw [aFt hk,BitVec.and_twoPow,aJA g hk]
 by_cases h:fA g k=true
 ·rw [if_pos h, if_pos h]
  exact yf
 rw [if_neg h,if_neg h];rfl
theorem wF {G:Int} (h:wfI G) {k:Nat} (hk:k≤9):wfI (nN G k):=by
 unfold nN fA
 by_cases h1:G / 2 ^ k % 2=1
 ·rw [if_pos (by simpa using h1)];exact h
 rw [if_neg (by simpa using h1)]
 rw [fU] at *
 unfold oU at *
 exact yb
theorem uX {g:Int} (hg:wfI g) {k:Nat} (hk:k≤9):bits .or .i64 g (2 ^ k)=nN g k:=by
 have hw:∀ z:Int,wfI z→IntKind.i64.wrap (((BitVec.ofInt 64 z).toNat:Nat):Int)=z:=by
  intro z hz
  have h1:(((BitVec.ofInt 64 z).toNat:Nat):Int)=z % 2 ^ 64:=by
   rw [BitVec.toNat_ofInt]
   exact Int.toNat_of_nonneg (Int.emod_nonneg _ ae)
  rw [h1]
  rw [fU] at hz
  unfold oU at hz
  rw [IntKind.wrap_i64]
  omega
 show IntKind.i64.wrap ((BitVec.ofInt 64 g ||| BitVec.ofInt 64 (2 ^ k)).toNat:Int)=_
 have h0:=aJA g hk
 unfold nN
 by_cases h:fA g k=true
 ·rw [if_pos h]
  have:BitVec.ofInt 64 g ||| BitVec.ofInt 64 (2 ^ k)=BitVec.ofInt 64 g:=by
   rw [aFt hk]
   apply BitVec.eq_of_getLsbD_eq
   intro i hi
   rw [BitVec.getLsbD_or,BitVec.getLsbD_twoPow]
   by_cases e:k=i
   ·subst e;rw [h0,h];rfl
   simp [e]
  rw [this];exact hw g hg
 rw [if_neg h]
 have h2:fA g k=false:=lx
 have:BitVec.ofInt 64 g ||| BitVec.ofInt 64 (2 ^ k)=BitVec.ofInt 64 (g+2 ^ k):=by
  rw [BitVec.ofInt_add]
  refine (BitVec.add_eq_or_of_and_eq_zero _ _ ?_).symm
  rw [aFt hk,BitVec.and_twoPow,h0,h2];rfl
 rw [this]
 refine hw _ ?_
 have:=wF hg hk
 unfold nN at this;rwa [if_neg h] at this
theorem aDU (a b:CeR):decide (lJ a b < 0)=iU a b:=by
 unfold lJ iW iU yP
 rcases Int.lt_trichotomy a.k b.k with h | h | h
 ·rw [jT h,if_pos ae,fQ,if_neg aa,decide_eq_true h];rfl
 ·rw [h, jV, if_neg ae, fQ, if_pos rfl]
  rcases Int.lt_trichotomy a.id b.id with h2 | h2 | h2
  ·rw [jT h2,if_pos ae,fQ,if_neg aa,decide_eq_true h2];rfl
  ·rw [h2, jV, if_neg ae, fQ, if_pos rfl, fQ]
   rcases Int.lt_trichotomy (un a.lk) (un b.lk) with h3 | h3 | h3
   ·rw [jT h3,if_neg aa,decide_eq_true h3];rfl
   ·rw [h3,jV,if_pos rfl];rfl
   rw [jU h3,if_neg aa,decide_eq_false (by omega:¬ un a.lk < un b.lk)];rfl
  rw [jU h2,if_pos ae,fQ,if_neg aa,decide_eq_false (by omega:¬ a.id < b.id)];rfl
 rw [jU h,if_pos ae,fQ,if_neg aa,decide_eq_false (by omega:¬ a.k < b.k)];rfl
section
variable {α:Type} [RowT α]
theorem aAM (d:Array α):Sort.flatK RowT.enc (RowT.sz α) d=(gcs d.toList).toArray:=by
 have hl:(gcs d.toList).length=d.size * RowT.sz α:=by rw [aJ];simp
 refine Sort.ext_get! (by simp [hl]) (fun t ht=>?_)
 have ht':t < d.size * RowT.sz α:=by simpa using ht
 rw [Sort.get_flatK _ _ _ _ ht']
 have hp:=RowT.pos (α:=α)
 have hq:t / RowT.sz α < d.size:=Nat.div_lt_of_lt_mul (by rwa [Nat.mul_comm] at ht')
 have hm:=Nat.mod_lt t hp
 have h1:=aJh (L:=d.toList) (k:=t / RowT.sz α) qj
 rw [sV,← h1]
 have hlen:(List.take (RowT.sz α) (List.drop (t / RowT.sz α * RowT.sz α) (gcs d.toList))).length=RowT.sz α:=by rw [h1,RowT.len]
 rw [getElem!_pos _ _ (by rw [hlen];exact hm),List.getElem_take,List.getElem_drop,getElem!_pos _ _ (by simp [hl];exact ht'),List.getElem_toArray]
 congr 1
 have:=Nat.div_add_mod t (RowT.sz α)
 rw [Nat.mul_comm] at this
 exact this
end
theorem aDE {w:World} {g n:Nat} {os:Array Obj} (d:Array Value):w.grownBy (sortWorld id w g 0 n d os) (some g):=by
 unfold sortWorld
 refine ⟨rfl,rfl,rfl,dr,fun k hk hne=>?_⟩
 rw [Sort.heap_grow_old _ _ (by simpa using hk)]
 have:g ≠ k:=fun e=>hne (by rw [e])
 simp [Sort.putRow,Sort.mapBlock,Sort.ahead,Array.getElem?_modify,this]
theorem aJe {w:World} {g n:Nat} {os:Array Obj} {cur:Array Value} {e:TypeId} {fr:Nat × Nat} (d:Array Value) (hb:w.heap[g]?=some (.cells cur e fr)) :
  (sortWorld id w g 0 n d os).heap[g]?=some (.cells (Sort.putCells id 0 d cur) e fr):=by
 have hg:g < w.heap.size:=(Array.getElem?_eq_some_iff.1 hb).1
 unfold sortWorld
 rw [Sort.heap_grow_old _ _ (by simpa using hg)]
 simp [Sort.putRow,Sort.mapBlock,Sort.ahead,Array.getElem?_modify,hb,Sort.onCells]
theorem aGM (cur d:Array Value) (h:d.size≤cur.size):(Sort.putCells id 0 d cur).toList.take d.size=d.toList:=by
 apply List.ext_getElem?
 intro j
 by_cases hj:j < d.size
 ·rw [List.getElem?_take_of_lt hj, Array.getElem?_toList]
  simp [Sort.putCells,hj,show j < cur.size by omega]
 rw [List.getElem?_take_eq_none aa,List.getElem?_eq_none gj]
theorem aKe {w:World} {base g c n m size:Nat} {e:TypeId} {os:Array Obj} {xs:List Value} (d:Array Value) (hd:d.size=n * size) (h:w.ownsRow base e size (.slice (some ⟨g,0,none⟩) n c) n xs) :
  (sortWorld id w g 0 m d os).ownsRow base e size (.slice (some ⟨g,0,none⟩) n c) n d.toList:=by
 have hl:=h.1
 rcases h.2 with ⟨hv,_⟩ | ⟨g',cap,cur,hv,hb,hh,hn,hm,hs,ht⟩
 ·cases hv
 cases hv
 have hle:d.size≤cur.size:=by
  have:=congrArg List.length ht
  rw [List.length_take,hl] at this
  simp at this;omega
 exact ⟨by simp [hd],.inr ⟨g,c,_,rfl,hb,aJe d hh,hn,hm,by simp [Sort.putCells,hs],by rw [← hd];exact aGM cur d hle⟩⟩
theorem aNs:Sort.SWO (ltOf lJ):=by
 have e:ltOf lJ=iU:=funext fun x=>funext fun y=>aDU x y
 rw [e]
 exact ⟨sE.irrefl,fun x y z h1 h2=>sE.trans _ _ _ h1 h2,fun x y z h1 h2=>sE.ntrans h1 h2⟩
theorem aNt {g n size:Nat} {w:World}:CmpLays prog 52 #[] (RowT.enc (α:=CeR)) 10 lJ g 0 size w:=fun m os dk hs x y=>by
 have h:=GW.compareC_any x y (sortWorldK RowT.enc 10 w g 0 m dk os)
 rw [Array.append_empty,ceP.eq,ceP.eq]
 refine h.mono ?_
 rintro e w' ⟨rfl,hg⟩
 exact ⟨rfl,hg.grow⟩
theorem aEA (w0 w:World) (base:Nat) (A:Option Addr) (n c:Nat) (d:Array CeR) (h:RowS w0 w base 61 A n c d) (hn:n≤1000000000) :
  Calls prog 51 #[.slice A n c,.func (.func 52) #[] #[]] w (fun e w'=>e=.returned (.tuple #[])∧∃ d',RowS w0 w' base 61 A n c d'∧Sort.PermIn 0 n d d'∧Sort.SortedIn iU 0 n d'):=by
 rcases Nat.eq_zero_or_pos n with rfl | hpos
 ·refine (AnyF.slices_SortFunc_none (P := prog) (ρ := wM) { aIj with } A c (.func (.func 52) #[] #[]) w).mono ?_
  rintro e w' ⟨rfl,rfl⟩
  exact ⟨rfl,d,h,Sort.permIn_refl _ _ _,fun i j _ _ hj=>absurd hj (Nat.not_lt_zero _)⟩
 obtain ⟨g,rfl,-,hr⟩:=h.at hpos
 have hsz:=h.size
 have ho:w.ownsRow base 61 10 (.slice (some ⟨g,0,none⟩) n c) n (gcs d.toList):=h.own
 have hH:Sort.HoldsK (RowT.enc (α:=CeR)) 10 w g 0 d:=fun j hj=>by
  have e1:=aAM d
  rw [show RowT.sz CeR=10 from rfl] at e1
  rw [Sort.size_flatK,hsz] at hj
  have hl:(gcs d.toList).length=n * 10:=ho.1
  refine ⟨?_,ho.frozenAt _⟩
  rw [e1,ho.cellAt (0+j) aa,Nat.zero_add,List.getElem?_eq_getElem aa,getElem!_pos _ j gj]
  simp
 have hlt:g < w.heap.size:=(ho.lt g rfl).2
 have eg:∀ args w,(callFunc 52 args).run prog w=.ok (.enter 52 args) w:=enters_of func52 ab rfl
 have hc:=AnyQ.slices_SortFunc aIj 10 (fun w=>ab) (fun w=>ab) (RowT.enc (α:=CeR)) (RowT.len (α:=CeR)) (fun x v hv=>RowT.one x v hv) lJ aNs 52 #[] g 0 c d w eg (aNt (n:=n)) hH hlt aa
 rw [hsz] at hc
 change Calls prog 51 _ _ _ at hc
 refine hc.mono ?_
 rintro e w' ⟨rfl,d',m,os,hp,hs,rfl⟩
 have hw:sortWorldK (RowT.enc (α:=CeR)) 10 w g 0 m d' os=sortWorld id w g 0 m (Sort.flatK RowT.enc 10 d') os:=rfl
 rw [hw]
 have hf:=aAM d'
 rw [show RowT.sz CeR=10 from rfl] at hf
 refine ⟨rfl,d',⟨?_,fun x hx=>?_,Grown.trans h.gr (aDE _),h.ne⟩,hp,fun i j h1 h2 h3=>?_⟩
 ·have := aKe (os := os) (m := m) (Sort.flatK RowT.enc 10 d') (by rw [Sort.size_flatK, hp.1, hsz]) ho
  rw [hf] at this ⊢
  simp only [List.toList_toArray] at this ⊢
  exact this
 ·have hm:x ∈ d.toList:=by
   obtain ⟨p1,p2,p3⟩:=hp
   have e1:d'.extract 0 n=d':=by rw [← hsz,← p1];exact Array.extract_size
   have e2:d.extract 0 n=d:=by rw [← hsz];exact Array.extract_size
   rw [e1,e2] at p3
   exact p3.mem_iff.1 hx
  exact h.ow x hm
 have:=hs i j h1 h2 h3
 unfold ltOf at this
 rwa [aDU] at this
structure StB (w0 w:World) (g:Nat) (s:StR):Prop where
 blk:Blk w g 30 (ssA s)
 own:OwnS w w0.heap.size s
 low:Ext w0 w
 hg:w0.heap.size≤g
section
variable {w0 w w':World} {g:Nat} {s:StR}
theorem StB.ext (h:StB w0 w g s) (e:Ext w w'):StB w0 w' g s:=⟨h.blk.ext e,h.own.ext e,h.low.trans e,h.hg⟩
theorem StB.start {z:StR} (ho:OwnS w w0.heap.size z) (hbl:Blk w g 30 (ssA s)) (hl:Ext w0 w) (hg:w0.heap.size≤g):StB w0 (w.setCells g 0 (ssA z).toList) g z :=
 ⟨aN (ds:=ssA z) hbl rfl,ho.kept (aB _ _ _ _) hbl (by decide) (by decide) (by decide) (by decide),Below.setCells' hl hg _ _,hg⟩
theorem StB.row1 (h:StB w0 w g s) (hg:w.grownBy w' (Value.ownBlock (.slice s.A1 s.n1 s.c1))) {A:Option Addr} {n c:Nat} {C:List DeR} (ho:w'.ownsRow w0.heap.size 92 11 (.slice A n c) n (gcs C)) (hk:∀ d ∈ C,deW d) :
  StB w0 (w'.setCell ⟨g,0,none⟩ (.slice A n c)) g { s with A1:=A,n1:=n,c1:=c,C:=C }:=by
 have hb:Blk w' g 30 (ssA s):=h.blk.grown hg (aL h.own.o1 h.blk ae)
 have hs:=mQ w' g 0 (.slice A n c)
 have o2:=World.ownsRow.kept h.own.o2 hg (eF h.own.o2 h.own.o1 ae)
 have o3:=World.ownsRow.kept h.own.o3 hg (eF h.own.o3 h.own.o1 ae)
 have o4:=World.ownsRow.kept h.own.o4 hg (eF h.own.o4 h.own.o1 ae)
 exact ⟨hb.set 0 _,OwnS.kept (s:={ s with A1:=A,n1:=n,c1:=c,C:=C }) ⟨ho,o2,o3,o4,hk,h.own.k2,h.own.k3,h.own.g⟩ hs hb ae ae ae ae,
  (Below.grown h.low hg h.low.size (fun k hk=>(World.ownsRow.lt h.own.o1 k hk).1)).setCell (p:=⟨g,0,none⟩) h.hg _,h.hg⟩
theorem StB.row3 (h:StB w0 w g s) (hg:w.grownBy w' (Value.ownBlock (.slice s.A3 s.n3 s.c3))) {A:Option Addr} {n c:Nat} {C:List LkR} (ho:w'.ownsRow w0.heap.size 81 19 (.slice A n c) n (gcs C)) (hk:∀ d ∈ C,lkW d) :
  StB w0 (w'.setCell ⟨g,2,none⟩ (.slice A n c)) g { s with A3:=A,n3:=n,c3:=c,K:=C }:=by
 have hb:Blk w' g 30 (ssA s):=h.blk.grown hg (aL h.own.o3 h.blk ae)
 have hs:=mQ w' g 2 (.slice A n c)
 have o1:=World.ownsRow.kept h.own.o1 hg (eF h.own.o1 h.own.o3 ae)
 have o2:=World.ownsRow.kept h.own.o2 hg (eF h.own.o2 h.own.o3 ae)
 have o4:=World.ownsRow.kept h.own.o4 hg (eF h.own.o4 h.own.o3 ae)
 exact ⟨hb.set 2 _,OwnS.kept (s:={ s with A3:=A,n3:=n,c3:=c,K:=C }) ⟨o1,o2,ho,o4,h.own.k1,h.own.k2,hk,h.own.g⟩ hs hb ae ae ae ae,
  (Below.grown h.low hg h.low.size (fun k hk=>(World.ownsRow.lt h.own.o3 k hk).1)).setCell (p:=⟨g,2,none⟩) h.hg _,h.hg⟩
theorem StB.row4 (h:StB w0 w g s) (hg:w.grownBy w' (Value.ownBlock (.slice s.A4 s.n4 s.c4))) {A:Option Addr} {n c:Nat} {C:List UInt64} (ho:w'.ownsRow w0.heap.size 50 8 (.slice A n c) n (gcs C)) :
  StB w0 (w'.setCell ⟨g,3,none⟩ (.slice A n c)) g { s with A4:=A,n4:=n,c4:=c,P:=C }:=by
 have hb:Blk w' g 30 (ssA s):=h.blk.grown hg (aL h.own.o4 h.blk ae)
 have hs:=mQ w' g 3 (.slice A n c)
 have o1:=World.ownsRow.kept h.own.o1 hg (eF h.own.o1 h.own.o4 ae)
 have o2:=World.ownsRow.kept h.own.o2 hg (eF h.own.o2 h.own.o4 ae)
 have o3:=World.ownsRow.kept h.own.o3 hg (eF h.own.o3 h.own.o4 ae)
 exact ⟨hb.set 3 _,OwnS.kept (s:={ s with A4:=A,n4:=n,c4:=c,P:=C }) ⟨o1,o2,o3,ho,h.own.k1,h.own.k2,h.own.k3,h.own.g⟩ hs hb ae ae ae ae,
  (Below.grown h.low hg h.low.size (fun k hk=>(World.ownsRow.lt h.own.o4 k hk).1)).setCell (p:=⟨g,3,none⟩) h.hg _,h.hg⟩
theorem StB.cell1 (h:StB w0 w g s) {b:Nat} (hA:s.A1=some ⟨b,0,none⟩) (j:Nat) (v:Value) {C:List DeR} (hc:(gcs s.C).set j v=gcs C) (hk:∀ d ∈ C,deW d) :
  StB w0 (w.setCell ⟨b,j,none⟩ v) g { s with C:=C }:=by
 obtain ⟨A1,n1,c1,C1,A2,n2,c2,Q1,A3,n3,c3,K1,A4,n4,c4,P1,G1⟩:=s
 simp only at hA hc
 subst hA
 obtain ⟨k1,k2⟩:=World.ownsRow.stored h.own.o1 j v
 rw [hc] at k1
 have hg:w.grownBy (w.setCell ⟨b,j,none⟩ v) (some b):=k2
 have hb:Blk (w.setCell ⟨b,j,none⟩ v) g 30 _:=h.blk.grown hg (aL h.own.o1 h.blk ae)
 have o2:=World.ownsRow.kept h.own.o2 hg (eF h.own.o2 h.own.o1 ae)
 have o3:=World.ownsRow.kept h.own.o3 hg (eF h.own.o3 h.own.o1 ae)
 have o4:=World.ownsRow.kept h.own.o4 hg (eF h.own.o4 h.own.o1 ae)
 exact ⟨hb,⟨k1,o2,o3,o4,hk,h.own.k2,h.own.k3,h.own.g⟩,Below.grown h.low hg h.low.size (fun k hk=>(World.ownsRow.lt h.own.o1 k hk).1),h.hg⟩
theorem StB.cell2 (h:StB w0 w g s) {b:Nat} (hA:s.A2=some ⟨b,0,none⟩) (j:Nat) (z:Int) (hz:wfI z) (hj:j < s.n2) :
  StB w0 (w.setCell ⟨b,j,none⟩ (.int .i64 z)) g { s with Q:=s.Q.set j z }:=by
 obtain ⟨A1,n1,c1,C1,A2,n2,c2,Q1,A3,n3,c3,K1,A4,n4,c4,P1,G1⟩:=s
 simp only at hA hj
 subst hA
 have hl:=h.own.l2
 obtain ⟨k1,k2⟩:=World.ownsRow.stored h.own.o2 j (.int .i64 z)
 have hc:(gcs Q1).set j (.int .i64 z)=gcs (Q1.set j z):=by
  exact xz
 simp only at k1
 rw [hc] at k1
 have hg:w.grownBy (w.setCell ⟨b,j,none⟩ (.int .i64 z)) (some b):=k2
 have hb:Blk (w.setCell ⟨b,j,none⟩ (.int .i64 z)) g 30 _:=h.blk.grown hg (aL h.own.o2 h.blk ae)
 have o1:=World.ownsRow.kept h.own.o1 hg (eF h.own.o1 h.own.o2 ae)
 have o3:=World.ownsRow.kept h.own.o3 hg (eF h.own.o3 h.own.o2 ae)
 have o4:=World.ownsRow.kept h.own.o4 hg (eF h.own.o4 h.own.o2 ae)
 exact ⟨hb,⟨o1,k1,o3,o4,h.own.k1,fun y hy=>by
  rcases List.mem_or_eq_of_mem_set hy with hy | rfl
  ·exact h.own.k2 _ hy
  exact hz,h.own.k3,h.own.g⟩,Below.grown h.low hg h.low.size (fun k hk=>(World.ownsRow.lt h.own.o2 k hk).1),h.hg⟩
theorem StB.guilty (h:StB w0 w g s) (z:Int) (hz:wfI z):StB w0 (w.setCell ⟨g,4,none⟩ (.int .i64 z)) g { s with G:=z }:=by
 have hs:=mQ w g 4 (.int .i64 z)
 have:=OwnS.kept h.own hs h.blk ae ae ae ae
 exact ⟨h.blk.set 4 _,⟨this.o1,this.o2,this.o3,this.o4,this.k1,this.k2,this.k3,hz⟩,h.low.setCell (p:=⟨g,4,none⟩) h.hg _,h.hg⟩
theorem StB.far (h:StB w0 w g s) (hg:w.grownBy w' (Value.ownBlock (.slice s.A1 s.n1 s.c1))) {X:Nat} {t:TypeId} {cs:Array Value} (hb:Blk w X t cs) (ht:t ≠ 92):Blk w' X t cs:=hb.grown hg (aL h.own.o1 hb ht)
end
section
variable {C:List DeR} {c:CeR}
theorem vW (h:∀ k,k < C.length→decide ((aS C k).c=c)=false):fdC C c=none:=by
 refine aJl.2 (fun d hd e=>?_)
 obtain ⟨k,hk,rfl⟩:=List.getElem_of_mem hd
 have:=h k hk
 rw [← cH hk] at this
 exact (of_decide_eq_false this) e
theorem sJ:∀ {C:List DeR} {k:Nat},k < C.length→decide ((aS C k).c=c)=true→(∀ j,j < k→decide ((aS C j).c=c)=false)→fdC C c=some (aS C k)
 | [],k,hk,_,_=>by simp at hk
 | d :: r,0,_,h1,_=>by rw [aDI,if_pos (show d.c=c from of_decide_eq_true h1)];rfl
 | d :: r,k+1,hk,h1,h2=>by
  have:=h2 0 (by omega)
  rw [aDI,if_neg (show ¬ d.c=c from of_decide_eq_false this)]
  exact sJ (C:=r) (by simpa using hk) h1 (fun j hj=>h2 (j+1) (by omega))
theorem aBh (n:Int):∀ {C:List DeR} {k:Nat},k < C.length→decide ((aS C k).c=c)=true→(∀ j,j < k→decide ((aS C j).c=c)=false)→yX c n C=if n=0 then C.take k ++ C.drop (k+1) else C.set k ⟨(aS C k).c,n⟩
 | [],k,hk,_,_=>by simp at hk
 | d :: r,0,_,h1,_=>by
  have h1':d.c=c:=of_decide_eq_true h1
  unfold yX
  rw [if_pos h1']
  split
  ·rfl
  rfl
 | d :: r,k+1,hk,h1,h2=>by
  have:=h2 0 (by omega)
  have h0:¬ d.c=c:=of_decide_eq_false this
  unfold yX
  rw [if_neg h0,aBh n (C:=r) (by simpa using hk) h1 (fun j hj=>h2 (j+1) (by omega))]
  split
  ·rfl
  rfl
theorem aBJ:∀ {C:List DeR} {k:Nat} (n:Int),k < C.length→(gcs C).set (k * 11+10) (.int .i64 n)=gcs (C.set k ⟨(aS C k).c,n⟩)
 | [],k,n,hk=>by simp at hk
 | d :: r,0,n,_=>by
  rw [dK,List.set_cons_zero,dK,List.set_append_left _ _ (by show 10 < 11;omega)]
  rfl
 | d :: r,k+1,n,hk=>by
  rw [dK,List.set_cons_succ,dK,List.set_append_right _ _ (by show 11≤_;omega)]
  have:=aBJ (C:=r) (k:=k) n (by simpa using hk)
  rw [show (k+1) * 11+10 - (RowT.enc d).length=k * 11+10 from by show (k+1) * 11+10 - 11=_;omega,this]
  rfl
theorem sW (C:List DeR) (c:CeR) (a:Int):(eB C c a).length≤C.length+1:=by
 have hi:∀ (p:DeR→Bool) (x:DeR) (L:List DeR),(gW p x L).length=L.length+1:=fun p x L=>by
  induction L with
  | nil=>rfl
  | cons y r ih=>unfold gW;split <;> simp [ih]
 have hs:∀ (n:Int) (L:List DeR),(yX c n L).length≤L.length:=fun n L=>by
  induction L with
  | nil=>exact Nat.le_refl _
  | cons y r ih=>unfold yX;split <;> (try split) <;> simp <;> omega
 unfold eB
 split
 ·split
  ·omega
  rw [hi];exact Nat.le_refl _
 exact Nat.le_trans (hs _ _) (Nat.le_succ _)
theorem mW (l:List DeR):∀ (C:List DeR),(addL C l).length≤C.length+l.length:=by
 induction l with
 | nil=>intro C;exact Nat.le_refl _
 | cons d r ih =>
  intro C
  show (addL (eB C d.c d.a) r).length≤_
  have h1:=ih (eB C d.c d.a)
  have h2:=sW C d.c d.a
  rw [List.length_cons];omega
theorem uB {l:List DeR} {k:Nat} (hk:k < l.length) (C:List DeR):addL C (l.take (k+1))=eB (addL C (l.take k)) (aS l k).c (aS l k).a:=by
 rw [iI hk];unfold addL;rw [List.foldl_append];rfl
end
end
section
open Go.RowKit
attribute [local go_sem ↓] Go.wp_at_zero Go.wp_at_succ
theorem pJ (k i:Int):ceA ⟨k,i,0⟩=#[.int .i64 k,.int .i64 i,.int .u8 0,.int .u8 0,.int .u8 0,.int .u8 0,.int .u8 0,.int .u8 0,.int .u8 0,.int .u8 0]:=by
 unfold ceA;simp only [bJ 0 aa,bJ 1 aa,bJ 2 aa,bJ 3 aa,bJ 4 aa,bJ 5 aa,bJ 6 aa,bJ 7 aa]
theorem fF (i:Int) (w:World):Calls prog 79 #[.int .i64 i] w fun e w'=>e=.returned (.agg (ceA (aV i)))∧Ext w w':=by
 have HB:=zh (Blk.new w 61 ce0)
 have HX:=zh ((Ext.refl w).alloc' (.cells ce0 61))
 have ht:(w.alloc (.cells ce0 61)).there w.heap.size 0 (RowT.sz CeR):=aI HB.out
 have HV:=zh (show Value.agg (ceA (aV i))=.agg #[.int .i64 1,.int .i64 i,.int .u8 0,.int .u8 0,.int .u8 0,.int .u8 0,.int .u8 0,.int .u8 0,.int .u8 0,.int .u8 0] by unfold aV;rw [pJ])
 go_enter func79,ntmps79
 exact vT
theorem sY (i:Int) (w:World):Calls prog 59 #[.int .i64 i] w fun e w'=>e=.returned (.agg (ceA (bY i)))∧Ext w w':=by
 have HB:=zh (Blk.new w 61 ce0)
 have HX:=zh ((Ext.refl w).alloc' (.cells ce0 61))
 have ht:(w.alloc (.cells ce0 61)).there w.heap.size 0 (RowT.sz CeR):=aI HB.out
 have HV:=zh (show Value.agg (ceA (bY i))=.agg #[.int .i64 3,.int .i64 i,.int .u8 0,.int .u8 0,.int .u8 0,.int .u8 0,.int .u8 0,.int .u8 0,.int .u8 0,.int .u8 0] by unfold bY;rw [pJ])
 go_enter func59,ntmps59
 exact v7
theorem rY (w:World):Calls prog 55 #[] w fun e w'=>e=.returned (.agg (ceA cA))∧Ext w w':=by
 have HB:=zh (Blk.new w 61 ce0)
 have HX:=zh ((Ext.refl w).alloc' (.cells ce0 61))
 have ht:(w.alloc (.cells ce0 61)).there w.heap.size 0 (RowT.sz CeR):=aI HB.out
 have HV:=zh (show Value.agg (ceA cA)=.agg #[.int .i64 4,.int .i64 0,.int .u8 0,.int .u8 0,.int .u8 0,.int .u8 0,.int .u8 0,.int .u8 0,.int .u8 0,.int .u8 0] by unfold cA;rw [pJ])
 go_enter func55,ntmps55
 exact v8
section
variable {ops:Array Oper} {rest:List Oper} {o:Oper} {a:Act} {w:World} {K:Act→World→Prop} {Q:Exit→Act→World→Prop} {S:World→Prop}
theorem cV {ty:TypeId} {i j:Nat} (x y:Operand) (ho:o.op=.build ty #[(i,x),(j,y)]) {vx vy v:Value} (hx:a.eval x=vx) (hy:a.eval y=vy) (hr:∀ w,(Instr.build ty #[(i,vx),(j,vy)]).run prog w=.ok v w) (w:World):(execOp a.eval o).run prog w=.ok (.value v) w:=by
 exact yp
theorem dV (hgd:o.guard=none) {v:Value} (hr:∀ w,(execOp a.eval o).run prog w=.ok (.value v) w) (h:wpList prog ops Q rest (a.put o.dst v) w):wpList prog ops Q (o :: rest) a w :=
 wpList_plain hgd fun K hK=>by
  unfold Oper.wp
  rw [hr w]
  exact hK _ _ h
theorem yH {ty:TypeId} (x y:Operand) (ho:o.op=.buildSlice ty 2 #[(0,x),(1,y)]) {vx vy v:Value} {w2:World} (hx:a.eval x=vx) (hy:a.eval y=vy) (hr:(Instr.buildSlice ty 2 #[(0,vx),(1,vy)]).run prog w=.ok v w2):(execOp a.eval o).run prog w=.ok (.value v) w2:=by
 exact yp
theorem qB (hgd:o.guard=none) {v:Value} {w2:World} (hr:(execOp a.eval o).run prog w=.ok (.value v) w2) (h:wpList prog ops Q rest (a.put o.dst v) w2):wpList prog ops Q (o :: rest) a w :=
 wpList_plain hgd fun K hK=>by
  unfold Oper.wp
  rw [hr]
  exact hK _ _ h
theorem wA (hw:Region.wanted o (yielded ops a.tmps)=true) {v:Value} (hr:∀ w,(execOp a.eval o).run prog w=.ok (.value v) w):YieldsIf prog ops S o v a:=.inl ⟨hw,fun w _=>hr w⟩
end
theorem wR (n:UInt64) (w:World):(Instr.build 61 #[(0,.int .i64 2),(2,.agg (nmc n))]).run prog w=.ok (.agg (ceA (bZ n))) w:=by
 rw [← gI n];kernel_rfl
theorem nJ (n:UInt64) (w:World):Calls prog 80 #[.agg (nmc n)] w fun e w'=>e=.returned (.agg (ceA (bZ n)))∧Ext w w':=by
 obtain ⟨W,hW⟩:=gx ((w.alloc (.cells (nmc n) 50)).alloc (.cells ce0 61))
 have HB:=zh (show Blk W (w.heap.size+1) 61 ce0 from ag)
 have HX:=zh (show Ext w W from ai)
 have ht:W.there (w.heap.size+1) 0 (RowT.sz CeR):=aI HB.out
 have r0:W.rangeAt w.heap.size 0 (RowT.enc n):=bS (show Blk W w.heap.size 50 (nmc n) from pu)
 obtain ⟨v,hv⟩:=gx (Value.agg (ceA (bZ n)))
 have HR:=zh (fun W=>wR n W)
 rw [hv] at HR ⊢
 have HV:=zh hv
 clear hv
 go_enter func80,ntmps80
 exact um
def aJI (w:World) (l:List DeR) (e:Ending) (w':World):Prop:=∃ A n c,e=.returned (.slice A n c)∧SlG w' A n c l∧Ext w w'
theorem dR (c:CeR) (z:Int) (w:World):(Instr.build 92 #[(0,.agg (ceA c)),(1,.int .i64 z)]).run prog w=.ok (.agg (deA ⟨c,z⟩)) w:=by kernel_rfl
theorem gE (a b:DeR) (w:World):(Instr.buildSlice 26 2 #[(0,.agg (deA a)),(1,.agg (deA b))]).run prog w=.ok (.slice (some ⟨w.heap.size,0,none⟩) 2 2) (w.alloc (.cells (deA a ++ deA b) 92)):=by kernel_rfl
theorem aDp {x y:CeR} {n:Int} (hx:ceW x) (hy:ceW y) (hn:wfI n):∀ d ∈ dF x y n,deW d:=by
 intro d hd
 simp only [dF,List.mem_cons,List.not_mem_nil,or_false] at hd
 rcases hd with rfl | rfl
 ·exact ⟨hx,fU.2 (aFG _)⟩
 exact ⟨hy,hn⟩
theorem rB (x:Int):IntKind.i64.wrap x=wrap64 x:=by rw [IntKind.wrap_i64,wrap64]
theorem aAG {w:World} {g:Nat} {x y:CeR} {n:Int} (hx:ceW x) (hy:ceW y) (hn:wfI n) (hb:Blk w g 92 (deA ⟨x,IntKind.i64.wrap (-n)⟩ ++ deA ⟨y,n⟩)):SlG w (some ⟨g,0,none⟩) 2 2 (dF x y n) :=
 ⟨rfl,Nat.le_refl _,by omega,by
  have:=Rd.of_blk hb
  rw [show (deA ⟨x,IntKind.i64.wrap (-n)⟩ ++ deA ⟨y,n⟩).toList=gcs (dF x y n) from by
   rw [Array.toList_append]
   unfold dF
   rw [dK,dK,aGn,List.append_nil];rfl] at this
  exact this,fun d hd=>aDp hx hy hn d hd⟩
theorem kB (x y:CeR) (n:Int) (w:World) (hx:ceW x) (hy:ceW y) (hn:wfI n):Calls prog 56 #[.agg (ceA x),.agg (ceA y),.int .i64 n] w (aJI w (dF x y n)):=by
 obtain ⟨W,hW⟩:=gx ((w.alloc (.cells (ceA x) 61)).alloc (.cells (ceA y) 61))
 have HX:=zh (show Ext w W from ai)
 have r0:W.rangeAt w.heap.size 0 (RowT.enc x):=aC (show Blk W w.heap.size 61 (ceA x) from by rw [← hW];exact (Blk.new w 61 (ceA x)).alloc _)
 have r1:W.rangeAt (w.heap.size+1) 0 (RowT.enc y):=aC (show Blk W (w.heap.size+1) 61 (ceA y) from ag)
 obtain ⟨vx,hvx⟩:=gx (Value.agg (ceA x))
 obtain ⟨vy,hvy⟩:=gx (Value.agg (ceA y))
 obtain ⟨va,hva⟩:=gx (Value.agg (deA ⟨x,wrap64 (-n)⟩))
 obtain ⟨vb,hvb⟩:=gx (Value.agg (deA ⟨y,n⟩))
 have HRA:=zh (fun W=>dR x (wrap64 (-n)) W)
 have HRB:=zh (fun W=>dR y n W)
 have HR2:=zh (gE ⟨x,wrap64 (-n)⟩ ⟨y,n⟩ W)
 have HVX:=zh hvx
 have HVY:=zh hvy
 rw [hvx,hva] at HRA
 rw [hvy,hvb] at HRB
 rw [hva,hvb] at HR2
 obtain ⟨W2,hW2⟩:=gx (W.alloc (.cells (deA ⟨x,wrap64 (-n)⟩ ++ deA ⟨y,n⟩) 92))
 have HB2:=zh (show Blk W2 W.heap.size 92 (deA ⟨x,wrap64 (-n)⟩ ++ deA ⟨y,n⟩) from by rw [← hW2];exact Blk.new W 92 _)
 have HX2:=zh (show Ext w W2 from by rw [← hW2];exact HX.out.alloc' _)
 have HSL:=zh (aAG hx hy hn (by rw [rB];exact HB2.out))
 rw [hW2] at HR2
 clear hva hvb hvx hvy hW2 HB2 hx hy hn
 go_enter func56,ntmps56
 go_wp2_with (first | (with_reducible refine aD ceP rfl (.tmp 3) rfl w.heap.size 0 rfl x vx HVX.out r0 ?_) | (with_reducible refine aD ceP rfl (.tmp 4) rfl (w.heap.size+1) 0 rfl y vy HVY.out r1 ?_) | (with_reducible refine dV rfl (cV (vx:=vx) (vy:=.int .i64 (wrap64 (-n))) (.tmp 7) (.tmp 9) rfl rfl rfl HRA.out) ?_) | (with_reducible refine dV rfl (cV (vx:=vy) (vy:=.int .i64 n) (.tmp 11) (.tmp 12) rfl rfl rfl HRB.out) ?_) | (with_reducible refine qB rfl (yH (vx:=va) (vy:=vb) (.tmp 10) (.tmp 13) rfl rfl rfl HR2.out) ?_))
 go_ret
 exact ⟨_,_,_,rfl,HSL.out,HX2.out⟩
def ceV (x:CeR):CeR:=x
theorem aKX:∀ v ∈ (Value.agg ce0).cells,v.oneCell'=true:=fun v hv=>Array.all_eq_true_iff_forall_mem.1 (show ce0.all (·.oneCell')=true from by kernel_rfl) v hv
theorem RowCe.load {w0 w w':World} {base n c:Nat} {A:Option Addr} {d:Array CeR} (h:RowS w0 w base 61 A n c d) {g:Nat} (hA:A=some ⟨g,0,none⟩) {i:Nat} (hi:i < n) {R:CeR} (hR:d[i]! = R) (he:Ext w w'):w'.rangeAt g (i * 10) (RowT.enc R):=by
 have:=(RowS.ext h he).cell hA hi
 rw [hR] at this
 exact this
theorem RowCe.eqv {w0 w:World} {base n c:Nat} {A:Option Addr} {d:Array CeR} (h:RowS w0 w base 61 A n c d) {i j:Nat} (hi:i < n) (hj:j < n) {R T:CeR} (hR:d[i]! = R) (hT:d[j]! = T) (vx vy:Value) (hx:Value.agg (ceA R)=vx) (hy:Value.agg (ceA T)=vy) (b:Bool) (hb:decide (ceV d[i]! = ceV d[j]!)=b) :
  Hid (∀ W,(binOp .eql 61 vx vy).run prog W=.ok (.bool b) W):=by
 subst hR;subst hT;rw [← hx,← hy,← hb]
 exact zh (fun W=>wQ _ _ (h.ok hi) (h.ok hj) W)
theorem RowCe.neqv {w0 w:World} {base n c:Nat} {A:Option Addr} {d:Array CeR} (h:RowS w0 w base 61 A n c d) {i j:Nat} (hi:i < n) (hj:j < n) {R T:CeR} (hR:d[i]! = R) (hT:d[j]! = T) (vx vy:Value) (hx:Value.agg (ceA R)=vx) (hy:Value.agg (ceA T)=vy) (b:Bool) (hb:decide (ceV d[i]! = ceV d[j]!)=b) :
  Hid (∀ W,(binOp .neq 61 vx vy).run prog W=.ok (.bool (!b)) W):=by
 subst hR;subst hT;rw [← hx,← hy,← hb]
 exact zh (fun W=>aGR _ _ (h.ok hi) (h.ok hj) W)
def aLi (w0:World) (base:Nat) (A:Option Addr) (n c:Nat) (d:Array CeR) (e:Ending) (w':World):Prop:=∃ (m:Nat) (d':Array CeR),e=.returned (.slice A m c)∧m≤n∧RowS w0 w' base 61 A m c d'∧d'.toList.map ceV=compO (d.toList.map ceV)
theorem aAi (w0 w:World) (base:Nat) (A:Option Addr) (n c:Nat) (d:Array CeR) (h:RowS w0 w base 61 A n c d) (hn:n≤1000000000) (hnc:n≤c) (hc:c≤9223372036854775807) :
  Calls prog 53 #[.slice A n c] w (aLi w0 base A n c d):=by
 have HD:=zh h
 have HSZ:=zh (RowS.size h)
 rcases (by omega:n=0 ∨ 1≤n) with rfl | hpos
 ·have HC:=zh (show d.toList.map ceV=compO (d.toList.map ceV) from by
   have:d.toList=[]:=List.eq_nil_of_length_eq_zero (by simpa using HSZ.out)
   rw [this];rfl)
  go_enter func53,ntmps53
  go_wp2_with fail
  go_ret
  exact ⟨0,d,rfl,Nat.le_refl _,HD.out,HC.out⟩
 have HC1:=zh (Cm1.start (V:=ceV) (d:=d) (by rw [HSZ.out];exact hpos))
 obtain ⟨g,hA,-,-⟩:=RowS.at h aa
 subst hA
 clear h
 by_cases h2:n < 2
 ·have i1 : (n : Int) < 2 := aa
  go_enter func53,ntmps53
  go_wp2_with fail
  go_ret
  exact ⟨n,d,rfl,Nat.le_refl _,HD.out,HC1.out.all (by rw [HSZ.out];omega)⟩
 have i1:¬ (n:Int) < 2:=aa
 go_enter func53,ntmps53
 go_wp2_with fail
 go_loopw [3] (fun vk wr=>∃ (k:Nat),vk=.int .i64 (k:Int)∧1≤k∧k≤n∧Hid (Cm1 ceV d k)∧Hid (RowS w0 wr base 61 (some ⟨g,0,none⟩) n c d)) (fun k _=>n - (intOf k).toNat)
 case atStart=>exact ⟨1,rfl,Nat.le_refl _,hpos,HC1,HD⟩
 case round =>
  clear HD HC1
  obtain ⟨k,rfl,hk1,hkn,HC,HD⟩:=hrel
  by_cases hlt:k < n
  ·have i2 : (k : Int) < (n : Int) := aa
   obtain ⟨p,hp⟩:∃ p,p=k - 1:=⟨_,rfl⟩
   have HP:=zh hp
   have p0:(k:Int) - 1=(p:Int):=aa
   have hpn:p < n:=aa
   have p1:(p:Int) < (n:Int):=aa
   have pw:IntKind.i64.wrap (p:Int)=(p:Int):=dt
   have kw:IntKind.i64.wrap (k:Int)=(k:Int):=dt
   clear hp
   cases hb:decide (ceV d[k]! = ceV d[p]!) with
   | false =>
    have HB:=zh (of_decide_eq_false hb)
    obtain ⟨R,hR⟩:∃ R,d[k]! = R:=⟨_,rfl⟩
    obtain ⟨T,hT⟩:∃ R,d[p]! = R:=⟨_,rfl⟩
    obtain ⟨vx,hvx⟩:=gx (Value.agg (ceA R))
    obtain ⟨vy,hvy⟩:=gx (Value.agg (ceA T))
    have HVX:=zh hvx
    have HVY:=zh hvy
    have L1:=zh (fun (W:World) (he:Ext wr W)=>show W.rangeAt g (k * 10) (RowT.enc R) from lw)
    have L2:=zh (fun (W:World) (he:Ext wr W)=>show W.rangeAt g (p * 10) (RowT.enc T) from lu)
    have HCM:=RowCe.eqv HD.out hlt hpn hR hT vx vy hvx hvy false hb
    have HGD:=zh (fun op x y (W:World)=>show (eqGuard op 61 x y vx vy).run prog W=.ok () W from ex)
    have HKR:=zh hR
    clear hvx hvy hR hT hb
    go_wp2_with fail
    refine eV (S:=fun W=>Ext wr W) ab ab ((Ext.refl wr).drew') ?_
    (refine zzx 0 ?_)
    (refine zzx 1 ?_)
    (refine zzx 2 ?_)
    (refine cO (i:=3) (oi:=⟨some 19,.load 61 (.tmp 18),61,"slices.go:376",#[⟨2,.data⟩],none⟩) (v:=vx) rfl ab ab (fR ?hy1_3) ?_;case hy1_3=>(exact aG ceP dp (.tmp 18) dp g (k * 10) dp R vx HVX.out (fun W hS=>L1.out W hS)))
    try simp only [bB]
    (refine zzx 4 ?_)
    (refine zzx 5 ?_)
    (refine zzx 6 ?_)
    (refine zzx 7 ?_)
    (refine cO (i:=8) (oi:=⟨some 24,.load 61 (.tmp 23),61,"slices.go:376",#[⟨7,.data⟩],none⟩) (v:=vy) rfl ab ab (fR ?hy1_8) ?_;case hy1_8=>(exact aG ceP dp (.tmp 23) dp g (p * 10) dp T vy HVY.out (fun W hS=>L2.out W hS)))
    try simp only [bB]
    (refine cO (i:=9) (oi:=⟨some 25,.binOp .eql 61 (.tmp 19) (.tmp 24) 61,4,"slices.go:376",#[⟨3,.data⟩,⟨8,.data⟩],none⟩) (v:=.bool false) rfl ab ab (fR ?hy1_9) ?_;case hy1_9=>(exact cK dp (.tmp 19) (.tmp 24) dp (vx:=vx) (vy:=vy) dp dp (HGD.out _ _ _) HCM.out))
    try simp only [bB]
    refine Plan.done ab (fun W aP=>?_)
    have HD2:=zh (RowS.ext HD.out aP)
    have HC2:=zh (HC.out.next (by rw [HSZ.out];exact hlt) (by rw [← HP.out];exact HB.out))
    clear HD HCM HGD L1 L2 aP HVX HVY pw kw
    go_wp2_with fail
    go_roundw
    case rel=>exact ⟨k+1,ar,aa,aa,HC2,HD2⟩
    case measure=>simp [intOf];omega
   | true =>
    have HB:=zh (of_decide_eq_true hb)
    obtain ⟨R,hR⟩:∃ R,d[k]! = R:=⟨_,rfl⟩
    obtain ⟨T,hT⟩:∃ R,d[p]! = R:=⟨_,rfl⟩
    obtain ⟨vx,hvx⟩:=gx (Value.agg (ceA R))
    obtain ⟨vy,hvy⟩:=gx (Value.agg (ceA T))
    have HVX:=zh hvx
    have HVY:=zh hvy
    have L1:=zh (fun (W:World) (he:Ext wr W)=>show W.rangeAt g (k * 10) (RowT.enc R) from lw)
    have L2:=zh (fun (W:World) (he:Ext wr W)=>show W.rangeAt g (p * 10) (RowT.enc T) from lu)
    have HCM:=RowCe.eqv HD.out hlt hpn hR hT vx vy hvx hvy true hb
    have HGD:=zh (fun op x y (W:World)=>show (eqGuard op 61 x y vx vy).run prog W=.ok () W from ex)
    have HKR:=zh hR
    clear hvx hvy hR hT hb
    go_wp2_with fail
    refine eV (S:=fun W=>Ext wr W) ab ab ((Ext.refl wr).drew') ?_
    (refine zzx 0 ?_)
    (refine zzx 1 ?_)
    (refine zzx 2 ?_)
    (refine cO (i:=3) (oi:=⟨some 19,.load 61 (.tmp 18),61,"slices.go:376",#[⟨2,.data⟩],none⟩) (v:=vx) rfl ab ab (fR ?hy2_3) ?_;case hy2_3=>(exact aG ceP dp (.tmp 18) dp g (k * 10) dp R vx HVX.out (fun W hS=>L1.out W hS)))
    try simp only [bB]
    (refine zzx 4 ?_)
    (refine zzx 5 ?_)
    (refine zzx 6 ?_)
    (refine zzx 7 ?_)
    (refine cO (i:=8) (oi:=⟨some 24,.load 61 (.tmp 23),61,"slices.go:376",#[⟨7,.data⟩],none⟩) (v:=vy) rfl ab ab (fR ?hy2_8) ?_;case hy2_8=>(exact aG ceP dp (.tmp 23) dp g (p * 10) dp T vy HVY.out (fun W hS=>L2.out W hS)))
    try simp only [bB]
    (refine cO (i:=9) (oi:=⟨some 25,.binOp .eql 61 (.tmp 19) (.tmp 24) 61,4,"slices.go:376",#[⟨3,.data⟩,⟨8,.data⟩],none⟩) (v:=.bool true) rfl ab ab (fR ?hy2_9) ?_;case hy2_9=>(exact cK dp (.tmp 19) (.tmp 24) dp (vx:=vx) (vy:=vy) dp dp (HGD.out _ _ _) HCM.out))
    try simp only [bB]
    refine Plan.done ab (fun W aP=>?_)
    have HD2:=zh (RowS.ext HD.out aP)
    have HC2:=zh (HC.out.dup (by rw [HSZ.out];exact hlt) (by rw [← HP.out];exact HB.out))
    clear HD HCM HGD L1 L2 aP HVX HVY pw kw p0 p1
    have k1:k≤n:=aa
    have k2:k≤c:=aa
    have k3:¬ c=k:=aa
    go_wp2_with fail
    go_loopw [3,5] (fun vk vj wr=>∃ (kk k2:Nat) (dk:Array CeR),vk=.int .i64 (kk:Int)∧vj=.int .i64 (k2:Int)∧1≤k2∧k2≤n - k∧kk < k+k2∧1≤kk∧Hid (Cmp ceV d dk kk (k+k2))∧Hid (RowS w0 wr base 61 (some ⟨g,0,none⟩) n c dk)) (fun _ j _=>n - k - (intOf j).toNat)
    case atStart=>exact ⟨k,1,d,rfl,rfl,Nat.le_refl _,aa,aa,hk1,HC2,HD2⟩
    case round =>
     clear HD2 HC2
     obtain ⟨kk,k2,dk,rfl,rfl,h21,h2n,hkk,hkp,HC,HD⟩:=hrel
     by_cases hlt2:k2 < n - k
     ·have i3 : (k2 : Int) < ((n - k : Nat) : Int) := aa
      obtain ⟨m,hm⟩:=gx (n - k)
      have i4:(k2:Int) < (m:Int):=aa
      obtain ⟨k3',hk3⟩:∃ q,q=k2 - 1:=⟨_,rfl⟩
      have q0:(k2:Int) - 1=(k3':Int):=aa
      have q1:(k3':Int) < ((n - k:Nat):Int):=aa
      have q2:(k3':Int) < (m:Int):=aa
      have qw:IntKind.i64.wrap (k3':Int)=(k3':Int):=dt
      have kw:IntKind.i64.wrap (k2:Int)=(k2:Int):=dt
      obtain ⟨j,hj⟩:∃ j,j=k+k2:=⟨_,rfl⟩
      obtain ⟨jp,hjp⟩:∃ j,j=k+k3':=⟨_,rfl⟩
      have e1:k * 10+k2 * 10=j * 10:=by rw [hj,Nat.add_mul]
      have e2:k * 10+k3' * 10=jp * 10:=by rw [hjp,Nat.add_mul]
      have E1:=zh e1
      have E2:=zh e2
      have HJ:=zh (show j=k+k2∧jp=k+k2 - 1∧j < d.size∧kk < j by rw [HSZ.out];omega)
      have hjn:j < n:=aa
      have hjpn:jp < n:=aa
      have hkn2:kk < n:=aa
      have kkn:(kk:Int) < (n:Int):=aa
      have kkw:IntKind.i64.wrap (kk:Int)=(kk:Int):=dt
      have r1:dk[j]! = d[j]!:=HC.out.rest j aa
      have r2:dk[jp]! = d[jp]!:=HC.out.rest jp aa
      have HRR:=zh (And.intro r1 r2)
      have HMM:=zh hm
      clear e1 e2 hj hjp hk3 r1 r2 hm
      cases hb:decide (ceV dk[j]! = ceV dk[jp]!) with
      | false =>
       have HB:=zh (of_decide_eq_false hb)
       obtain ⟨R,hR⟩:∃ R,dk[j]! = R:=⟨_,rfl⟩
       obtain ⟨T,hT⟩:∃ R,dk[jp]! = R:=⟨_,rfl⟩
       obtain ⟨vx,hvx⟩:=gx (Value.agg (ceA R))
       obtain ⟨vy,hvy⟩:=gx (Value.agg (ceA T))
       have HVX:=zh hvx
       have HVY:=zh hvy
       have L1:=zh (fun (W:World) (he:Ext wr W)=>show W.rangeAt g (k * 10+k2 * 10) (RowT.enc R) from pt)
       have L2:=zh (fun (W:World) (he:Ext wr W)=>show W.rangeAt g (k * 10+k3' * 10) (RowT.enc T) from pl)
       have HCM:=RowCe.neqv HD.out hjn hjpn hR hT vx vy hvx hvy false hb
       have HGD:=zh (fun op x y (W:World)=>show (eqGuard op 61 x y vx vy).run prog W=.ok () W from ex)
       have HKR:=zh hR
       clear hvx hvy hR hT hb
       go_wp2_with fail
       refine eV (S:=fun W=>Ext wr W) ab ab ((Ext.refl wr).drew') ?_
       (refine zzx 0 ?_)
       (refine zzx 1 ?_)
       (refine zzx 2 ?_)
       (refine cO (i:=3) (oi:=⟨some 38,.load 61 (.tmp 37),61,"slices.go:379",#[⟨2,.data⟩],none⟩) (v:=vx) rfl ab ab (fR ?hy3_3) ?_;case hy3_3=>(exact aG ceP dp (.tmp 37) dp g (k * 10+k2 * 10) dp R vx HVX.out (fun W hS=>L1.out W hS)))
       try simp only [bB]
       (refine zzx 4 ?_)
       (refine zzx 5 ?_)
       (refine zzx 6 ?_)
       (refine zzx 7 ?_)
       (refine cO (i:=8) (oi:=⟨some 43,.load 61 (.tmp 42),61,"slices.go:379",#[⟨7,.data⟩],none⟩) (v:=vy) rfl ab ab (fR ?hy3_8) ?_;case hy3_8=>(exact aG ceP dp (.tmp 42) dp g (k * 10+k3' * 10) dp T vy HVY.out (fun W hS=>L2.out W hS)))
       try simp only [bB]
       (refine cO (i:=9) (oi:=⟨some 44,.binOp .neq 61 (.tmp 38) (.tmp 43) 61,4,"slices.go:379",#[⟨3,.data⟩,⟨8,.data⟩],none⟩) (v:=.bool true) rfl ab ab (fR ?hy3_9) ?_;case hy3_9=>(exact cK dp (.tmp 38) (.tmp 43) dp (vx:=vx) (vy:=vy) dp dp (HGD.out _ _ _) HCM.out))
       try simp only [bB]
       refine Plan.done ab (fun W aP=>?_)
       have HD2:=zh (RowS.ext HD.out aP)
       have L1':=zh (fun (W':World) (he:Ext W W')=>L1.out W' (aP.trans he))
       have HB2:=zh (show ceV d[j]! ≠ ceV d[j - 1]! from by
        have h1:=HB.out
        rw [HRR.out.1,HRR.out.2] at h1
        rw [show j - 1=jp from nx];exact h1)
       have HC2:=zh (show Cmp ceV d (dk.setIfInBounds kk R) (kk+1) (k+(k2+1)) from by
        have h1:=HC.out.keep nx (by have:=HB2.out;rw [HJ.out.1] at this;exact this)
        rw [← HJ.out.1,← HRR.out.1,HKR.out] at h1
        rw [show k+(k2+1)=j+1 from nx];exact h1)
       have HD3:=zh (HD2.out.set rfl hkn2 R (by rw [← HKR.out];exact HD2.out.owAt hjn))
       have ht:W.there g (kk * 10) (RowT.sz CeR):=HD2.out.there rfl hkn2
       clear HD HC HCM HGD L1 L2 aP qw HVY HKR
       go_upto_region 13 with (first | ((with_reducible refine aD ceP rfl (.tmp 49) rfl g (k * 10+k2 * 10) ?hx R vx HVX.out (L1'.out _ (Ext.refl _)) ?_);case hx=>rfl) | ((with_reducible refine bX ceP rfl (.tmp 51) (.tmp 50) rfl g (kk * 10) ?hx R vx HVX.out ?hy ht ?_);(case hx=>rfl);(case hy=>rfl)))
       have HD4:=zh (show RowS w0 (W.setCells g (kk * 10) (RowT.enc R)) base 61 (some ⟨g,0,none⟩) n c (dk.setIfInBounds kk R) from HD3.out)
       clear HD3 HD2 kkw
       generalize W.setCells g (kk * 10) (RowT.enc R)=W8 at HD4 ⊢
       go_wp2_with fail
       go_roundw
       case rel=>exact ⟨kk+1,k2+1,_,ar,ar,aa,by have:=HMM.out;omega,aa,aa,HC2,HD4⟩
       case measure=>simp [intOf];have:=HMM.out;omega
      | true =>
       have HB:=zh (of_decide_eq_true hb)
       obtain ⟨R,hR⟩:∃ R,dk[j]! = R:=⟨_,rfl⟩
       obtain ⟨T,hT⟩:∃ R,dk[jp]! = R:=⟨_,rfl⟩
       obtain ⟨vx,hvx⟩:=gx (Value.agg (ceA R))
       obtain ⟨vy,hvy⟩:=gx (Value.agg (ceA T))
       have HVX:=zh hvx
       have HVY:=zh hvy
       have L1:=zh (fun (W:World) (he:Ext wr W)=>show W.rangeAt g (k * 10+k2 * 10) (RowT.enc R) from pt)
       have L2:=zh (fun (W:World) (he:Ext wr W)=>show W.rangeAt g (k * 10+k3' * 10) (RowT.enc T) from pl)
       have HCM:=RowCe.neqv HD.out hjn hjpn hR hT vx vy hvx hvy true hb
       have HGD:=zh (fun op x y (W:World)=>show (eqGuard op 61 x y vx vy).run prog W=.ok () W from ex)
       have HKR:=zh hR
       clear hvx hvy hR hT hb
       go_wp2_with fail
       refine eV (S:=fun W=>Ext wr W) ab ab ((Ext.refl wr).drew') ?_
       (refine zzx 0 ?_)
       (refine zzx 1 ?_)
       (refine zzx 2 ?_)
       (refine cO (i:=3) (oi:=⟨some 38,.load 61 (.tmp 37),61,"slices.go:379",#[⟨2,.data⟩],none⟩) (v:=vx) rfl ab ab (fR ?hy4_3) ?_;case hy4_3=>(exact aG ceP dp (.tmp 37) dp g (k * 10+k2 * 10) dp R vx HVX.out (fun W hS=>L1.out W hS)))
       try simp only [bB]
       (refine zzx 4 ?_)
       (refine zzx 5 ?_)
       (refine zzx 6 ?_)
       (refine zzx 7 ?_)
       (refine cO (i:=8) (oi:=⟨some 43,.load 61 (.tmp 42),61,"slices.go:379",#[⟨7,.data⟩],none⟩) (v:=vy) rfl ab ab (fR ?hy4_8) ?_;case hy4_8=>(exact aG ceP dp (.tmp 42) dp g (k * 10+k3' * 10) dp T vy HVY.out (fun W hS=>L2.out W hS)))
       try simp only [bB]
       (refine cO (i:=9) (oi:=⟨some 44,.binOp .neq 61 (.tmp 38) (.tmp 43) 61,4,"slices.go:379",#[⟨3,.data⟩,⟨8,.data⟩],none⟩) (v:=.bool false) rfl ab ab (fR ?hy4_9) ?_;case hy4_9=>(exact cK dp (.tmp 38) (.tmp 43) dp (vx:=vx) (vy:=vy) dp dp (HGD.out _ _ _) HCM.out))
       try simp only [bB]
       refine Plan.done ab (fun W aP=>?_)
       have HD2:=zh (RowS.ext HD.out aP)
       have HC2:=zh (show Cmp ceV d dk kk (k+(k2+1)) from by
        have h1:=HB.out
        rw [HRR.out.1,HRR.out.2,HJ.out.2.1,HJ.out.1] at h1
        exact HC.out.dup nx h1)
       clear HD HC HCM HGD L1 L2 aP HVX HVY qw kw kkw
       go_wp2_with fail
       go_roundw
       case rel=>exact ⟨kk,k2+1,dk,rfl,ar,aa,by have:=HMM.out;omega,aa,hkp,HC2,HD2⟩
       case measure=>simp [intOf];have:=HMM.out;omega
     obtain ⟨m,hm⟩:=gx (n - k)
     have i3:¬ (k2:Int) < ((n - k:Nat):Int):=aa
     have i4:¬ (k2:Int) < (m:Int):=aa
     have y1:kk≤n:=aa
     have y2:kk≤c:=aa
     have y3:¬ c=kk:=aa
     have y4:¬ n=kk:=aa
     have y5:0 < n - kk:=aa
     have HF:=zh (show (dk.toList.take kk).map ceV=compO (d.toList.map ceV) from HC.out.all (by rw [HSZ.out];omega))
     have hcl:=fun ty=>aEG ceE aKX wr ty g (kk * 10) (n - kk) (c - kk) y5 (HD.out.clearOk rfl y1).1 (HD.out.clearOk rfl y1).2
     have HD2:=zh (HD.out.cutClear rfl y1 (Builtin.zeroCells (Value.agg ce0).cells (n - kk)).toList)
     have HLE:=zh y1
     clear HD HC hm
     obtain ⟨W8,hW8⟩:=gx (wr.setCells g (kk * 10) (Builtin.zeroCells (Value.agg ce0).cells (n - kk)).toList)
     simp only [hW8] at hcl
     have HD3:=zh (show RowS w0 W8 base 61 (some ⟨g,0,none⟩) kk c (dk.toList.take kk).toArray from by rw [← hW8];exact HD2.out)
     clear HD2 hW8
     go_wp2_with fail
     go_ret
     exact ⟨kk,_,rfl,HLE.out,HD3.out,HF.out⟩
  obtain rfl:k=n:=aa
  have i2:¬ (k:Int) < (k:Int):=aa
  go_wp2_with fail
  go_ret
  exact ⟨k,d,rfl,Nat.le_refl _,HD.out,HC.out.all (by rw [HSZ.out];exact Nat.le_refl _)⟩
end
end Go.Proofs.YtgmnmjeccfnmbaaGreat
