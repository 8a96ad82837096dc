/- exec.Execute. -/
import Derived.Test.YtohmmcahpakokaaGreatJ37
import Derived.Test.YtohmmcahpakokaaGreatJ39
import Derived.Test.YtohmmcahpakokaaGreatJ40
set_option maxRecDepth 100000
set_option maxHeartbeats 8000000
set_option linter.unusedVariables false
set_option linter.unusedSimpArgs false
namespace Go.Proofs.YtohmmcahpakokaaGreat
section
open Go.RowKit
attribute [local go_sem ↓] Go.wp_at_zero Go.wp_at_succ
structure ExeS (w wr:World) (P:Nat) (x:StpR) (S:Option Addr) (m d:Nat) (L:List OpR) (chk:OpR→StV→Int) (k:Nat) (s:StR):Prop where
 st:StpB w wr P { x with s:=s }
 old:Blk wr (w.heap.size+1) 44 (ssA x.s)
 tx:Blk wr (w.heap.size+2) 47 (stA x.ac x.sq x.A x.n x.c S m d)
 r1:∃ z,Blk wr (w.heap.size+3) 44 (ssA z)
 r2:Blk wr (w.heap.size+4) 52 (rcA rc0)
 far:w.heap.size+4 < P
 v:s.V=doN x.ac x.sq L x.s.V k
 er:errN chk x.ac x.sq L x.s.V k=0
section
variable {w wr w':World} {P:Nat} {x:StpR} {S:Option Addr} {m d:Nat} {L:List OpR} {chk:OpR→StV→Int} {k:Nat} {s:StR}
theorem ExeS.ext (h:ExeS w wr P x S m d L chk k s) (e:Ext wr w'):ExeS w w' P x S m d L chk k s:=⟨h.st.ext e,h.old.ext e,h.tx.ext e,(by obtain ⟨z,hz⟩:=h.r1;exact ⟨z,hz.ext e⟩),h.r2.ext e,h.far,h.v,h.er⟩
theorem ExeS.bd (h:ExeS w wr P x S m d L chk k s) (h0:x.s.ok w') (hk:k≤4) (hn:x.s.n1≤200000∧x.s.n2≤200000∧x.s.n3≤200000∧x.s.n4≤200000):s.n1≤500000∧s.n2≤500000∧s.n3≤500000∧s.n4≤500000:=by
 have e1:s.C=_:=congrArg StV.C h.v
 have e2:s.Q=x.s.Q:=(congrArg StV.Q h.v).trans (oS ..).1
 have e3:s.K=_:=congrArg StV.K h.v
 have e4:s.P=x.s.P:=(congrArg StV.P h.v).trans (oS ..).2
 have m1:s.C.length=s.n1:=h.st.own.l1
 have m2:s.Q.length=s.n2:=h.st.own.l2
 have m3:s.K.length=s.n3:=h.st.own.l3
 have m4:s.P.length=s.n4:=h.st.own.l4
 have l1:=h0.s1.len
 have l2:=h0.s2.len
 have l3:=h0.s3.len
 have l4:=h0.s4.len
 rw [e1] at m1;rw [e2] at m2;rw [e3] at m3;rw [e4] at m4
 have h5:=aAB x.ac x.sq L x.s.V k
 have e6:x.s.V.C=x.s.C:=rfl
 have e7:x.s.V.K=x.s.K:=rfl
 rw [e6,e7] at h5
 omega
end
theorem aIw {chk:OpR→StV→Int} {okG:Bool} {na:Nat} {sg:Bool} {V:StV} {ac sq:Int} {L:List OpR} {k:Nat} (hb:mW okG na sg V ac sq L=0) (hk:k < L.length) (he:errN chk ac sq L V k=0) (h:chk (aY L k) (doN ac sq L V k) ≠ 0) :
  qF chk okG na sg V ac sq L=chk (aY L k) (doN ac sq L V k):=by
 have h1:errN chk ac sq L V (k+1)=chk (aY L k) (doN ac sq L V k):=if_neg (by rw [he];simp)
 unfold qF
 rw [if_neg (by rw [hb];simp),aFI (by rw [h1];exact h) L.length (by omega),h1]
theorem aIx {chk:OpR→StV→Int} {okG:Bool} {na:Nat} {sg:Bool} {V:StV} {ac sq:Int} {L:List OpR} (h:mW okG na sg V ac sq L ≠ 0):qF chk okG na sg V ac sq L=mW okG na sg V ac sq L:=if_pos h
theorem aIv {chk:OpR→StV→Int} {okG:Bool} {na:Nat} {sg:Bool} {V:StV} {ac sq:Int} {L:List OpR} (hb:mW okG na sg V ac sq L=0) (he:errN chk ac sq L V L.length=0):qF chk okG na sg V ac sq L=0:=by
 unfold qF
 rw [if_neg (by rw [hb];simp),he]
theorem aCb (x:StpR) (S:Option Addr) (m d:Nat) (L:List OpR) (sig:List UInt8) (PN:List UInt64) (BL:List Int) (ev:OpR→Bool) (okG sg:Bool) (chk:OpR→StV→Int) (w:World) (hs:x.s.ok w) (hT:(⟨x.ac,x.sq,x.A,x.n,x.c,S,m,d,L,sig⟩:TxR).ok w) (hN:SlG w x.B2 x.m2 x.d2 PN) (hB:SlZ w x.B3 x.m3 x.d3 BL) (hm1:x.m1≤9223372036854775807) (hn:x.s.n1≤200000∧x.s.n2≤200000∧x.s.n3≤200000∧x.s.n4≤200000) (hpn:∀ R ∈ L,R.n1≤140737488355328)
  (hok:iX x.gN x.gZ x.m1 x.m2 x.m3 BL=okG) (hsg:vSg (nthG PN x.ac.toNat) ⟨x.ac,x.sq,x.A,x.n,x.c,S,m,d,L,sig⟩=sg) (hck:gS x.m2 x.m1 x.ht dO ev x.ac=chk)
  (hbl:∀ R ∈ L,R.k=6→vOp R=true→∀ (V:World) (s:StR),Ext w V→s.ok V→Calls Tryz.prog 96 #[.agg (stpA { x with s:=s }),.agg (opA R)] V fun e w'=>e=.returned (.int .i64 (chk R s.V))∧Ext V w') :
  Calls Tryz.prog 20 #[.agg (dT x.gN x.gZ x.B1 x.m1 x.d1 x.B2 x.m2 x.d2 x.B3 x.m3 x.d3),.agg (ssA x.s),.agg (stA x.ac x.sq x.A x.n x.c S m d),.int .i64 x.ht] w
   (aLV w (xC chk okG x.m2 sg x.s.V x.ac x.sq L) (qF chk okG x.m2 sg x.s.V x.ac x.sq L) (rcE (qF chk okG x.m2 sg x.s.V x.ac x.sq L) x.ac x.sq L) (rcO (qF chk okG x.m2 sg x.s.V x.ac x.sq L) x.ac x.sq L) (rcG (qF chk okG x.m2 sg x.s.V x.ac x.sq L) x.s.V (xC chk okG x.m2 sg x.s.V x.ac x.sq L))):=by
 obtain ⟨gN,gZ,B1,m1,d1,B2,m2,d2,B3,m3,d3,s0,ac,sq,A,n,c,ht⟩:=x
 simp only at hs hT hN hB hm1 hn hok hsg hck hbl ⊢
 have HS0:=zh hs
 have HN:=zh hn
 have HS:=zh (show SlO w A n c L from hT.ops)
 have HBL:=zh hbl
 have HPN:=zh hpn
 have HCK:=zh hck
 have hle:n≤c:=hT.ops.le
 have hcap:c≤9223372036854775807:=hT.ops.cap
 have HLEN:=zh (show L.length=n from hT.ops.len)
 have HBG:=zh (fun (V:World) (e:Ext w V)=>aFR gN gZ B1 m1 d1 B2 m2 d2 B3 m3 d3 PN BL s0 ⟨ac,sq,A,n,c,S,m,d,L,sig⟩ V (hs.ext e) (hT.ext e) (hN.ext e) (hB.ext e) hm1)
 rw [hok,hsg] at HBG
 obtain ⟨z,hz⟩:∃ z,mW okG m2 sg s0.V ac sq L=z:=⟨_,rfl⟩
 have HBG:=zh (show ∀ (V:World),Ext w V→Calls Tryz.prog 50 #[.agg (dT gN gZ B1 m1 d1 B2 m2 d2 B3 m3 d3),.agg (ssA s0),.agg (stA ac sq A n c S m d)] V fun e w'=>e=.returned (.int .i64 z)∧Ext V w' from by rw [← hz];exact HBG.out)
 obtain ⟨W,hW⟩:∃ W,((((w.alloc (.cells (dT gN gZ B1 m1 d1 B2 m2 d2 B3 m3 d3) 40)).alloc (.cells (ssA s0) 44)).alloc (.cells (stA ac sq A n c S m d) 47)).alloc (.cells #[.slice none 0 0,.slice none 0 0,.slice none 0 0,.slice none 0 0,.int .i64 0] 44)).alloc (.cells #[.int .i64 0,.slice none 0 0,.int .i64 0,.int .i64 0] 52)=W:=⟨_,rfl⟩
 have HG:=zh (show Blk W w.heap.size 40 (dT gN gZ B1 m1 d1 B2 m2 d2 B3 m3 d3) from by rw [← hW];exact ((((Blk.new w 40 (dT gN gZ B1 m1 d1 B2 m2 d2 B3 m3 d3)).alloc _).alloc _).alloc _).alloc _)
 have HB:=zh (show Blk W (w.heap.size+1) 44 (ssA s0) from by rw [← hW];exact ((Blk.alloc (Blk.newAt _ _ _ _ (by simp)) _).alloc _).alloc _)
 have HT:=zh (show Blk W (w.heap.size+2) 47 (stA ac sq A n c S m d) from by rw [← hW];exact (Blk.alloc (Blk.newAt _ _ _ _ (by simp)) _).alloc _)
 have HR:=zh (show Blk W (w.heap.size+3) 44 (ssA ss0) from by rw [← hW];exact Blk.alloc (Blk.newAt _ _ _ _ (by simp)) _)
 have HR2:=zh (show Blk W (w.heap.size+4) 52 (rcA rc0) from by rw [← hW];exact Blk.newAt _ _ _ _ (by simp))
 have HE:=zh (show Ext w W from by rw [← hW];exact (((((Ext.refl w).alloc' _).alloc' _).alloc' _).alloc' _).alloc' _)
 have HWS:=zh (show w.heap.size+5≤W.heap.size from by rw [← hW];simp)
 have g0:=HG.out.cell 0
 have g1:=HG.out.cell 1
 have g2:=HG.out.cell 2
 have g3:=HG.out.cell 3
 have g4:=HG.out.cell 4
 have t0:=HT.out.cell 0
 have t1:=HT.out.cell 1
 have t2:=HT.out.cell 2
 have t3:=HT.out.cell 3
 obtain ⟨q0,q1,q2,q3,q4⟩:=aE HB.out
 clear hs hT hN hB hn hok hsg hck hbl hpn
 by_cases h0:z=0
 ·subst h0
  have HZ:=zh hz
  obtain ⟨a1,a2,a3,a4,a5,a6,a7⟩:=aIZ hz
  obtain ⟨⟨v1,v2,v3,v4,v5,v6⟩,-⟩:=eO a1
  obtain ⟨a,rfl⟩:∃ a:Nat,ac=(a:Int):=⟨ac.toNat,by omega⟩
  have HVT:=zh a1
  obtain ⟨b,o,hA,-,-⟩:=HS.out.g.at (by have:=HLEN.out;omega)
  subst hA
  have hn4:n≤4:=by have:=HLEN.out;omega
  have HN4:=zh hn4
  have HAC:=zh (show wfI (a:Int) from wfS ⟨by omega,by omega⟩)
  have HQL:=zh (show a < s0.Q.length from by have:=show s0.Q.length=m2 from a4;omega)
  have HSQ:=zh (show wfI (sq+1) from wfS ⟨by omega,by omega⟩)
  clear hz a1 a2 a3 a4 a5 a6 a7
  go_enter Tryz.func20,Tryz.ntmps20
  go_wp2_with fail
  refine (HBG.out _ HE.out).mono ?_
  rintro e w5 ⟨rfl,he5⟩
  have HX5:=zh (HE.out.trans he5)
  have HG5:=zh (HG.out.ext he5)
  have HB5:=zh (HB.out.ext he5)
  have HT5:=zh (HT.out.ext he5)
  have HR5:=zh (HR.out.ext he5)
  have HQ5:=zh (HR2.out.ext he5)
  have HZ5:=zh (Nat.le_trans HWS.out he5.size)
  clear he5 g0 g1 g2 g3 g4 t0 t1 t2 t3 q0 q1 q2 q3 q4 HG HB HT HR HR2 HE HWS HBG hW
  go_upto_region 4 with fail
  refine wp_region_held_drew (S:=fun V=>Blk V w.heap.size 40 (dT gN gZ B1 m1 d1 B2 m2 d2 B3 m3 d3)∧Blk V (w.heap.size+1) 44 (ssA s0)∧Blk V (w.heap.size+2) 47 (stA (a:Int) sq (some ⟨b,o,none⟩) n c S m d)∧Blk V (w.heap.size+3) 44 (ssA ss0)∧Blk V (w.heap.size+4) 52 (rcA rc0)∧Ext w V) (by kernel_rfl) (⟨HG5.out.drew,HB5.out.drew,HT5.out.drew,HR5.out.drew,HQ5.out.drew,HX5.out.trans ((Ext.refl _).drew')⟩) (fun aA=>?_)
  refine zz0 [0,1,3,4,5] ?_;repeat first | refine zz1 ?_ (hy:=by intro W aM;obtain ⟨q0,q1,q2,q3,q4⟩:=aE aM.2.1;have g0:=aM.1.cell 0;have g1:=aM.1.cell 1;have g2:=aM.1.cell 2;have g3:=aM.1.cell 3;have g4:=aM.1.cell 4;have t0:=aM.2.2.1.cell 0;have t1:=aM.2.2.1.cell 1;have t2:=aM.2.2.1.cell 2;go_simp <;> with_reducible rfl) | refine zz2 ?_ | refine zz9 ?_
  refine zzj (VV 2 (fun v V=>∃ s1,v=.agg (ssA s1)∧OwnS V w.heap.size s1∧s1.V=s0.V) (VV 6 (fun v V=>∃ s1,v=.agg (stpA (⟨gN,gZ,B1,m1,d1,B2,m2,d2,B3,m3,d3,s1,(a:Int),sq,(some ⟨b,o,none⟩),n,c,ht⟩:StpR))∧OwnS V w.heap.size s1∧s1.V=s0.V) (VV 7 (fun v V=>∃ P,v=.pointer (some ⟨P,0,none⟩)∧Blk V P 86 (stpA RowT.z)∧w.heap.size+5≤P) VN))) [(2,some 27),(6,some 31),(7,some 11)] 1 (fun V V' h e=>⟨h.1.ext e,h.2.1.ext e,h.2.2.1.ext e,h.2.2.2.1.ext e,h.2.2.2.2.1.ext e,h.2.2.2.2.2.trans e⟩) (VV.ext (fun v w w' ⟨s1,h1,h2,h3⟩ e=>⟨s1,h1,h2.ext e,h3⟩) (VV.ext (fun v w w' ⟨s1,h1,h2,h3⟩ e=>⟨s1,h1,h2.ext e,h3⟩) (VV.ext (fun v w w' ⟨P,h1,h2,h3⟩ e=>⟨P,h1,h2.ext e,h3⟩) VN.ext))) (zzc ?_ (zzc ?_ (zzc ?_ zzn))) ?_
  ·refine zzp fun W hE hS K hK => ?_
   go_simp
   go_at_call 51
   refine (cR s0 _ (HS0.out.ext hS.2.2.2.2.2) (by have:=HN.out;omega)).mono ?_
   rintro e w6 ⟨s1,rfl,ho1,hv1,he1⟩
   exact zzK (hK.out (.agg (ssA s1)) _ (he1) (⟨s1,rfl,bJ ho1 hS.2.2.2.2.2.size,hv1⟩))
  ·refine zm [(2, some 27)] fun env W hE hS hD K hK => ?_
   obtain ⟨h2,-⟩:=zzV hD
   clear hD
   simp only [aO] at hK ⊢
   generalize env 2=x2 at h2 hK ⊢
   obtain ⟨s1,rfl,ho1,hv1⟩:=h2
   refine aFW (yI (vx:=.agg (dT gN gZ B1 m1 d1 B2 m2 d2 B3 m3 d3)) (vy:=.agg (ssA s1)) (vz:=.agg (txA (a:Int) sq (some ⟨b,o,none⟩) n c)) (vu:=.int .i64 ht) (.tmp 25) (.tmp 27) (.tmp 29) (.tmp 30) (by rfl) (by rfl) (by rfl) (by rfl) (by rfl) (aCZ (⟨gN,gZ,B1,m1,d1,B2,m2,d2,B3,m3,d3,s1,(a:Int),sq,(some ⟨b,o,none⟩),n,c,ht⟩:StpR))) ?_
   exact zzK (hK.out (.agg (stpA (⟨gN,gZ,B1,m1,d1,B2,m2,d2,B3,m3,d3,s1,(a:Int),sq,(some ⟨b,o,none⟩),n,c,ht⟩:StpR))) _ (Ext.refl _) (⟨s1,rfl,ho1,hv1⟩))
  ·refine zzp fun W hE hS K hK => ?_
   refine aAQ rfl ?_
   intro g W2 h2
   exact zzK (hK.out (.pointer (some ⟨g,0,none⟩)) _ (h2.out.2.1) (⟨g,rfl,h2.out.1,Nat.le_trans (Nat.le_trans HZ5.out hE.size) h2.out.2.2⟩))
  intro env W hE hS hV
  obtain ⟨h2,h6,h7,-⟩:=zzV hV
  clear hV
  simp only [aO]
  generalize env 2=x2 at h2 ⊢
  generalize env 6=x6 at h6 ⊢
  generalize env 7=x7 at h7 ⊢
  obtain ⟨s9,rfl,-,-⟩:=h2
  obtain ⟨s1,rfl,ho1,hv1⟩:=h6
  obtain ⟨P,rfl,hp,hpl⟩:=h7
  have aA:=hS
  refine za 8 (fun K hK=>?_)
  (refine pF gP rfl (.tmp 11) (.tmp 31) (by rfl) P 0 (by rfl) (⟨gN,gZ,B1,m1,d1,B2,m2,d2,B3,m3,d3,s1,(a:Int),sq,(some ⟨b,o,none⟩),n,c,ht⟩:StpR) (.agg (stpA (⟨gN,gZ,B1,m1,d1,B2,m2,d2,B3,m3,d3,s1,(a:Int),sq,(some ⟨b,o,none⟩),n,c,ht⟩:StpR))) rfl (by rfl) (aT hp) ?_;intro W6 hW6)
  refine hK.out _ _ (⟨aA.1.grown (by rw [← hW6.out];exact aC _ _ _ _) (fun e=>by injection e;omega),aA.2.1.grown (by rw [← hW6.out];exact aC _ _ _ _) (fun e=>by injection e;omega),aA.2.2.1.grown (by rw [← hW6.out];exact aC _ _ _ _) (fun e=>by injection e;omega),aA.2.2.2.1.grown (by rw [← hW6.out];exact aC _ _ _ _) (fun e=>by injection e;omega),aA.2.2.2.2.1.grown (by rw [← hW6.out];exact aC _ _ _ _) (fun e=>by injection e;omega),by rw [← hW6.out];exact Below.setCells' aA.2.2.2.2.2 (by omega) _ _⟩) (fun aA=>?_)
  clear hK K
  try simp only [aS]
  refine wpAnyH_done (by kernel_rfl) ?_ _
  have hA0:ExeS w W6 P (⟨gN,gZ,B1,m1,d1,B2,m2,d2,B3,m3,d3,s0,(a:Int),sq,(some ⟨b,o,none⟩),n,c,ht⟩:StpR) S m d L chk 0 s1:=⟨⟨by rw [← hW6.out];exact aR (ds:=stpA (⟨gN,gZ,B1,m1,d1,B2,m2,d2,B3,m3,d3,s1,(a:Int),sq,(some ⟨b,o,none⟩),n,c,ht⟩:StpR)) hp rfl,by rw [← hW6.out];exact ho1.kept (aC _ _ _ _) hp (by decide) (by decide) (by decide) (by decide),aA.2.2.2.2.2,by omega⟩,aA.2.1,aA.2.2.1,⟨_,aA.2.2.2.1⟩,aA.2.2.2.2.1,by omega,hv1,rfl⟩
  clear hW6 hp ho1 hv1 hpl
  have HA0:=zh hA0
  clear hA0 hE hS aA
  have t0:=HA0.out.tx.cell 0
  have t1:=HA0.out.tx.cell 1
  have t2:=HA0.out.tx.cell 2
  go_wp2_with fail
  clear t0 t1 t2
  go_loopw [36] (fun vi wr=>∃ (k:Nat) (s:StR),vi=.int .i64 (k:Int)∧k≤n∧Hid (ExeS w wr P (⟨gN,gZ,B1,m1,d1,B2,m2,d2,B3,m3,d3,s0,(a:Int),sq,(some ⟨b,o,none⟩),n,c,ht⟩:StpR) S m d L chk k s)) (fun i _=>n - (intOf i).toNat)
  case atStart=>exact ⟨0,s1,rfl,Nat.zero_le _,HA0⟩
  case round =>
   clear HA0 HG5 HB5 HT5 HR5 HQ5 HX5 HZ5
   obtain ⟨k,s,rfl,hk,HA⟩:=hrel
   have HBD:=zh (HA.out.bd (w':=w) HS0.out (by have:=HN4.out;omega) HN.out)
   by_cases hlt:k < n
   ·have i0 : (0 : Int) ≤ (k : Int) := by omega
    have i1:(k:Int) < (n:Int):=by omega
    have HKN:=zh hlt
    obtain ⟨R,hR⟩:∃ R,aY L k=R:=⟨_,rfl⟩
    have hr:wr.rangeAt b (o+k * 23) (RowT.enc R):=by
     rw [← hR,uN]
     obtain ⟨b2,o2,e2,hr2,-⟩:=(HS.out.ext HA.out.st.low).g.at (by omega)
     injection e2 with e3
     injection e3 with e4 e5
     subst e4
     subst e5
     exact cG hr2 (by rw [HLEN.out];exact hlt)
    have HRR:=zh hR
    obtain ⟨vo,hvo⟩:∃ v,Value.agg (opA R)=v:=⟨_,rfl⟩
    obtain ⟨vx,hvx⟩:∃ v,Value.agg (stpA (⟨gN,gZ,B1,m1,d1,B2,m2,d2,B3,m3,d3,s,(a:Int),sq,(some ⟨b,o,none⟩),n,c,ht⟩:StpR))=v:=⟨_,rfl⟩
    have HVO:=zh hvo
    have HVX:=zh hvx
    obtain ⟨X,hX⟩:∃ X,wr.heap.size=X:=⟨_,rfl⟩
    have HXS:=zh hX
    clear hR hvo hvx hX
    go_upto_region 8 with (first | (with_reducible refine aB opP rfl (.tmp 39) rfl b (o+k * 23) rfl R vo HVO.out hr ?_) | ((with_reducible refine aP opP rfl (.tmp 13) (.tmp 40) rfl jU rfl R vo HVO.out rfl rfl ?_);intro W4 h4))
    have HX4:=zh (show Ext wr W4 from by rw [← h4.out];exact (Ext.refl wr).alloc' _)
    have HD:=zh (show Blk W4 X 69 (opA R) from by rw [← h4.out,← HXS.out];exact Blk.new wr 69 (opA R))
    have HA4:=zh (HA.out.ext HX4.out)
    have ro:W4.rangeAt X 0 (RowT.enc R):=aD HD.out
    have rx:W4.rangeAt P 0 (RowT.enc (⟨gN,gZ,B1,m1,d1,B2,m2,d2,B3,m3,d3,s,(a:Int),sq,(some ⟨b,o,none⟩),n,c,ht⟩:StpR)):=aD HA4.out.st.blk
    clear h4 hr
    rw [HXS.out]
    have HCH:=zh (show Calls Tryz.prog 52 #[vx,vo] W4 fun e w'=>e=.returned (.int .i64 (chk R s.V))∧Ext W4 w' from by
     have hm:R ∈ L:=by rw [← HRR.out];exact pS (by rw [HLEN.out];exact hlt)
     have hvp:vOp R=true:=by rw [← HRR.out];exact (eO HVT.out).2 k (by rw [HLEN.out];exact hlt)
     have hro:R.ok W4:=by rw [← HRR.out,uN];exact (HS.out.ext HA4.out.st.low).g.nth hlt
     rw [← HVX.out,← HVO.out,← HCK.out]
     exact aFO (⟨gN,gZ,B1,m1,d1,B2,m2,d2,B3,m3,d3,s,(a:Int),sq,(some ⟨b,o,none⟩),n,c,ht⟩:StpR) R ev W4 HA4.out.st.own.ok hro (HPN.out R hm) hvp HAC.out (fun hk V e=>by rw [HCK.out];exact HBL.out R hm hk hvp V s (HA4.out.st.low.trans e) (HA4.out.st.own.ok.ext e)))
    obtain ⟨y,hy⟩:∃ y,chk R s.V=y:=⟨_,rfl⟩
    rw [hy] at HCH
    have HY:=zh (show chk (aY L k) (doN (a:Int) sq L s0.V k)=y from by rw [HRR.out,← HA.out.v];exact hy)
    clear hy
    go_wp2_with (first | (with_reducible refine aB gP rfl (.tmp 11) rfl P 0 rfl (⟨gN,gZ,B1,m1,d1,B2,m2,d2,B3,m3,d3,s,(a:Int),sq,(some ⟨b,o,none⟩),n,c,ht⟩:StpR) vx HVX.out rx ?_) | (with_reducible refine aB opP rfl (.tmp 13) rfl X 0 rfl R vo HVO.out ro ?_))
    refine HCH.out.mono ?_
    rintro e w6 ⟨rfl,he6⟩
    have HA6:=zh (HA4.out.ext he6)
    clear he6 ro rx HCH HX4 HD HA4
    by_cases hy0:y=0
    ·subst hy0
     have HE1:=zh (show errN chk (a:Int) sq L s0.V (k+1)=0 from by
      show (if _ then _ else _)=_
      rw [if_neg (by rw [show errN chk (a:Int) sq L s0.V k=0 from HA6.out.er];simp)];exact HY.out)
     go_upto_region 11 with fail
     have HAW:=zh (HA6.out.ext ((Ext.refl w6).drew'))
     refine wp_region_held_drew (S:=fun _=>True) (by kernel_rfl) (trivial) (fun aA=>?_)
     refine zzr [0,2,4,7,9] ?_
     refine cJ (VV 1 (fun v V=>v=.agg (ssA s)) (VV 3 (fun v V=>v=.agg (txA (a:Int) sq (some ⟨b,o,none⟩) n c)) (VV 5 (fun v V=>∃ A5 n5 c5,v=.slice A5 n5 c5∧SlG V A5 n5 c5 (dL (a:Int) sq L k)) (VV 6 (fun v V=>∃ s2,v=.agg (ssA s2)∧OwnS V w.heap.size s2∧s2.V=nO s.V (dL (a:Int) sq L k)) (VV 8 (fun v V=>v=.agg (txA (a:Int) sq (some ⟨b,o,none⟩) n c)) (VV 10 (fun v V=>∃ s2,v=.agg (ssA s2)∧OwnS V w.heap.size s2∧s2.V=doO (a:Int) sq L s.V k) (VN))))))) [(1,some 51),(3,some 53),(5,some 55),(6,some 56),(8,some 58),(10,some 60)] (fuel:=2) (by kernel_rfl) (by kernel_rfl) (fun _ _ h _=>h) (VV.ext (fun v w w' h e=>h) (VV.ext (fun v w w' h e=>h) (VV.ext (fun v w w' ⟨A,n,c,h1,h2⟩ e=>⟨A,n,c,h1,h2.ext e⟩) (VV.ext (fun v w w' ⟨s2,h1,h2,h3⟩ e=>⟨s2,h1,h2.ext e,h3⟩) (VV.ext (fun v w w' h e=>h) (VV.ext (fun v w w' ⟨s2,h1,h2,h3⟩ e=>⟨s2,h1,h2.ext e,h3⟩) (VN.ext))))))) aA ?hm2 rfl ?hr2
     case hm2 =>
      refine Members.cons ?mm2_1 (Members.cons ?mm2_3 (Members.cons ?mm2_5 (Members.cons ?mm2_6 (Members.cons ?mm2_8 (Members.cons ?mm2_10 (Members.nil _))))))
      case mm2_1 =>
       refine zm [] (fun env W5 hE hS hD K hK=>?_)
       clear hD
       try simp only [aO]
       have q5:W5.cell? ⟨P,5,none⟩=some (.slice s.A1 s.n1 s.c1):=(HAW.out.st.blk.ext hE).cell 5
       have q6:W5.cell? ⟨P,6,none⟩=some (.slice s.A2 s.n2 s.c2):=(HAW.out.st.blk.ext hE).cell 6
       have q7:W5.cell? ⟨P,7,none⟩=some (.slice s.A3 s.n3 s.c3):=(HAW.out.st.blk.ext hE).cell 7
       have q8:W5.cell? ⟨P,8,none⟩=some (.slice s.A4 s.n4 s.c4):=(HAW.out.st.blk.ext hE).cell 8
       have q9:W5.cell? ⟨P,9,none⟩=some (.int .i64 s.G):=(HAW.out.st.blk.ext hE).cell 9
       go_simp
       have hk:=hK.out (.agg (ssA s)) _ (Ext.refl _) (rfl)
       try simp only [aO] at hk
       exact hk
      case mm2_3 =>
       refine zm [] (fun env W5 hE hS hD K hK=>?_)
       clear hD
       try simp only [aO]
       have t0:=(HAW.out.tx.ext hE).cell 0
       have t1:=(HAW.out.tx.ext hE).cell 1
       have t2:=(HAW.out.tx.ext hE).cell 2
       go_simp
       have hk:=hK.out (.agg (txA (a:Int) sq (some ⟨b,o,none⟩) n c)) _ (Ext.refl _) (rfl)
       try simp only [aO] at hk
       exact hk
      case mm2_5 =>
       refine zm [(3,some 53)] (fun env W5 hE hS hD K hK=>?_)
       have h3:(fun v V=>v=.agg (txA (a:Int) sq (some ⟨b,o,none⟩) n c)) (env 3) W5:=hD (3,some 53) (by simp)
       clear hD
       try simp only [aO] at hK ⊢
       generalize env 3=x3 at h3 hK ⊢
       subst h3
       go_simp
       go_at_call 45
       refine (oQ (a:Int) sq (some ⟨b,o,none⟩) n c L k _ (HS.out.ext (HAW.out.st.low.trans hE)) HKN.out HVT.out).mono ?_
       rintro e w5 ⟨A5,n5,c5,rfl,hs5,he5⟩
       have hk:=hK.out (.slice A5 n5 c5) _ (he5) (⟨A5,n5,c5,rfl,hs5⟩)
       try simp only [aO] at hk
       exact hk
      case mm2_6 =>
       refine zm [(1,some 51),(5,some 55)] (fun env W5 hE hS hD K hK=>?_)
       have h1:(fun v V=>v=.agg (ssA s)) (env 1) W5:=hD (1,some 51) (by simp)
       have h5:(fun v V=>∃ A5 n5 c5,v=.slice A5 n5 c5∧SlG V A5 n5 c5 (dL (a:Int) sq L k)) (env 5) W5:=hD (5,some 55) (by simp)
       clear hD
       try simp only [aO] at hK ⊢
       generalize env 1=x1 at h1 hK ⊢
       generalize env 5=x5 at h5 hK ⊢
       subst h1
       obtain ⟨A8,n8,c8,rfl,hs8⟩:=h5
       go_simp
       go_at_call 54
       refine (kS s A8 n8 c8 (dL (a:Int) sq L k) _ (HAW.out.st.own.ok.ext hE) hs8 ⟨by have h7:=lA (a:Int) sq L k;rw [hs8.len] at h7;omega,by have:=HBD.out;omega⟩).mono ?_
       rintro e w5 ⟨s2,rfl,ho2,hv2,he5⟩
       have hk:=hK.out (.agg (ssA s2)) _ (he5) (⟨s2,rfl,bJ ho2 (Nat.le_trans HAW.out.st.low.size hE.size),hv2⟩)
       try simp only [aO] at hk
       exact hk
      case mm2_8 =>
       refine zm [] (fun env W5 hE hS hD K hK=>?_)
       clear hD
       try simp only [aO]
       have t0:=(HAW.out.tx.ext hE).cell 0
       have t1:=(HAW.out.tx.ext hE).cell 1
       have t2:=(HAW.out.tx.ext hE).cell 2
       go_simp
       have hk:=hK.out (.agg (txA (a:Int) sq (some ⟨b,o,none⟩) n c)) _ (Ext.refl _) (rfl)
       try simp only [aO] at hk
       exact hk
      case mm2_10 =>
       refine zm [(6,some 56),(8,some 58)] (fun env W5 hE hS hD K hK=>?_)
       have h6:(fun v V=>∃ s2,v=.agg (ssA s2)∧OwnS V w.heap.size s2∧s2.V=nO s.V (dL (a:Int) sq L k)) (env 6) W5:=hD (6,some 56) (by simp)
       have h8:(fun v V=>v=.agg (txA (a:Int) sq (some ⟨b,o,none⟩) n c)) (env 8) W5:=hD (8,some 58) (by simp)
       clear hD
       try simp only [aO] at hK ⊢
       generalize env 6=x6 at h6 hK ⊢
       generalize env 8=x8 at h8 hK ⊢
       obtain ⟨s2,rfl,ho2,hv2⟩:=h6
       subst h8
       go_simp
       go_at_call 53
       refine (vU s2 (a:Int) sq (some ⟨b,o,none⟩) n c L k w.heap.size _ ho2 (Nat.le_trans HAW.out.st.low.size hE.size) (HS.out.ext (HAW.out.st.low.trans hE)) HKN.out HVT.out (aHE ho2 hv2 HAW.out.st.own HBD.out)).mono ?_
       rintro e w5 ⟨s3,rfl,ho3,hv3,he5⟩
       have hk:=hK.out (.agg (ssA s3)) _ (he5) (⟨s3,rfl,ho3,by rw [hv3,hv2];rfl⟩)
       try simp only [aO] at hk
       exact hk
     case hr2 =>
      intro env W5 hE hS hV
      have h1:(fun v V=>v=.agg (ssA s)) (env 1) W5:=hV (1,some 51) (by simp)
      have h3:(fun v V=>v=.agg (txA (a:Int) sq (some ⟨b,o,none⟩) n c)) (env 3) W5:=hV (3,some 53) (by simp)
      have h5:(fun v V=>∃ A5 n5 c5,v=.slice A5 n5 c5∧SlG V A5 n5 c5 (dL (a:Int) sq L k)) (env 5) W5:=hV (5,some 55) (by simp)
      have h6:(fun v V=>∃ s2,v=.agg (ssA s2)∧OwnS V w.heap.size s2∧s2.V=nO s.V (dL (a:Int) sq L k)) (env 6) W5:=hV (6,some 56) (by simp)
      have h8:(fun v V=>v=.agg (txA (a:Int) sq (some ⟨b,o,none⟩) n c)) (env 8) W5:=hV (8,some 58) (by simp)
      have h10:(fun v V=>∃ s2,v=.agg (ssA s2)∧OwnS V w.heap.size s2∧s2.V=doO (a:Int) sq L s.V k) (env 10) W5:=hV (10,some 60) (by simp)
      clear hV
      try simp only [aO]
      generalize env 1=x1 at h1 ⊢
      generalize env 3=x3 at h3 ⊢
      generalize env 5=x5 at h5 ⊢
      generalize env 6=x6 at h6 ⊢
      generalize env 8=x8 at h8 ⊢
      generalize env 10=x10 at h10 ⊢
      subst h1
      subst h3
      subst h8
      obtain ⟨A8,n8,c8,rfl,hs8⟩:=h5
      obtain ⟨s2,rfl,-,-⟩:=h6
      obtain ⟨s3,rfl,ho3,hv3⟩:=h10
      clear hs8
      have aA:=hS
      refine zt 11 aA ?_
      refine za 12 (fun K hK=>?_)
      (refine yY rfl (.tmp 61) (.tmp 60) (by rfl) P (.agg (ssA s3)) s3 rfl (by rfl) (by rfl) (HAW.out.st.blk.ext hE) ?_;intro W6 h6)
      refine hK.out _ _ (trivial) (fun aA=>?_)
      clear hK K
      try simp only [aS]
      refine wpAnyH_done (by kernel_rfl) ?_ _
      have HF:=zh (show ExeS w W6 P (⟨gN,gZ,B1,m1,d1,B2,m2,d2,B3,m3,d3,s0,(a:Int),sq,(some ⟨b,o,none⟩),n,c,ht⟩:StpR) S m d L chk (k+1) s3 from by
       rw [← h6.out]
       have hX:Ext w6.drew W5:=hE
       have hfar:w.heap.size+4 < P:=HAW.out.far
       refine ⟨(HAW.out.st.ext hE).put ho3,(HAW.out.old.ext hE).grown (aC _ _ _ _) (fun e=>by injection e;omega),(HAW.out.tx.ext hE).grown (aC _ _ _ _) (fun e=>by injection e;omega),?_,(HAW.out.r2.ext hE).grown (aC _ _ _ _) (fun e=>by injection e;omega),hfar,?_,HE1.out⟩
       ·obtain ⟨z, hz⟩ := HAW.out.r1
        exact ⟨z,(hz.ext hE).grown (aC _ _ _ _) (fun e=>by injection e;omega)⟩
       rw [hv3]
       show _=doN (a:Int) sq L s0.V (k+1)
       rw [mU,show s.V=doN (a:Int) sq L s0.V k from HAW.out.v])
      clear h6 ho3 hv3 hE hS aA HAW HA6
      go_wp2_with fail
      go_roundw
      case rel=>exact ⟨k+1,s3,by go_num,hlt,HF⟩
      case measure=>simp [intOf];omega
    have HZ9:=zh HZ.out
    clear HZ
    have HZ:=zh (show qF chk okG m2 sg s0.V (a:Int) sq L=y from by
     rw [aIw HZ9.out (by rw [HLEN.out];exact hlt) HA6.out.er (by have h9:=HY.out;exact fun h=>hy0 (h9.symm.trans h))];exact HY.out)
    have HV:=zh (show xC chk okG m2 sg s0.V (a:Int) sq L=s0.V from if_neg (by rw [HZ.out];exact hy0))
    have h1:(y != 0)=true:=bne_iff_ne.2 hy0
    have HY0:=zh hy0
    clear hy0
    have HB5:=zh (show Blk w6 (w.heap.size+1) 44 (ssA s0) from HA6.out.old)
    have HQ5:=zh (show Blk w6 (w.heap.size+4) 52 (rcA rc0) from HA6.out.r2)
    obtain ⟨z5,hz5⟩:=HA6.out.r1
    have HR5:=zh hz5
    have HX5:=zh (show Ext w w6 from HA6.out.st.low)
    clear hz5
    obtain ⟨q0,q1,q2,q3,q4⟩:=aE HB5.out
    go_wp2_with fail
    refine (cR s0 _ (HS0.out.ext HX5.out) (by have:=HN.out;omega)).mono ?_
    rintro e w7 ⟨s5,rfl,ho5,hv5,he5⟩
    have HR7:=zh (HR5.out.ext he5)
    have HQ7:=zh (HQ5.out.ext he5)
    have HO5:=zh ho5
    have HV5:=zh hv5
    have HX7:=zh (HX5.out.trans he5)
    have HSZ:=zh HX5.out.size
    clear ho5 hv5 he5 q0 q1 q2 q3 q4
    go_wp2_with (first | ((with_reducible refine aK rfl (.tmp 8) (.tmp 47) rfl (w.heap.size+3) s5 rfl rfl HR7.out ?_);intro W9 h9;have HQ9:=zh (show Blk W9 (w.heap.size+4) 52 (rcA rc0) from by rw [← h9.out];exact HQ7.out.grown (aC _ _ _ _) (fun e=>by injection e;omega));have HT9:=zh (show W9.there (w.heap.size+4) 0 (RowT.sz RcR) from aT HQ9.out)) | ((with_reducible refine mE rcP rfl (.tmp 9) (.tmp 49) rfl (w.heap.size+4) 0 rfl ⟨y,none,0,0,0,0⟩ _ rfl rfl HT9.out ?_);intro W8 hW8))
    have hst9:Blk W9 (w.heap.size+3) 44 (ssA s5):=by rw [← h9.out];exact aR (ds:=ssA s5) HR7.out rfl
    have hst:Blk W8 (w.heap.size+3) 44 (ssA s5):=by rw [← hW8.out];exact hst9.grown (aC _ _ _ _) (fun e=>by injection e;omega)
    have hst2:Blk W8 (w.heap.size+4) 52 (rcA ⟨y,none,0,0,0,0⟩):=by rw [← hW8.out];exact aR (ds:=rcA ⟨y,none,0,0,0,0⟩) HQ9.out rfl
    have HOW:=zh (show OwnS W8 w.heap.size s5 from by
     rw [← hW8.out]
     refine OwnS.kept ?_ (aC _ _ _ _) HQ9.out (by decide) (by decide) (by decide) (by decide)
     rw [← h9.out]
     exact (HO5.out.kept (aC _ _ _ _) HR7.out (by decide) (by decide) (by decide) (by decide)).mono HSZ.out)
    have HXE:=zh (show Ext w W8 from by rw [← hW8.out];refine Below.setCells' ?_ (by omega) _ _;rw [← h9.out];exact Below.setCells' HX7.out (by omega) _ _)
    clear h9 hW8 hst9
    exact bodyPost_ret (v:=.tuple #[.agg (ssA s5),.agg (rcA ⟨y,none,0,0,0,0⟩)]) (aGC rfl _ _ (w.heap.size+3) (w.heap.size+4) _ _ rfl rfl (run_loadVar_row _ _ _ _ _ (0,0) _ hst Tryz.underlying44 rfl (by kernel_rfl)) (run_loadVar_row _ _ _ _ _ (0,0) _ hst2 Tryz.underlying52 rfl (by kernel_rfl))) rfl ⟨s5,none,0,0,by (first | rw [HZ.out] | skip);unfold rcO rcG;rw [if_neg HY0.out,if_neg HY0.out],HOW.out,by rw [HV5.out,HV.out],by (first | rw [HZ.out] | skip);unfold rcE;rw [if_neg HY0.out];exact SlG.nil _,HXE.out⟩
   obtain rfl:n=k:=by omega
   have i1:¬ (n:Int) < (n:Int):=by omega
   have HFZ:=zh (show qF chk okG m2 sg s0.V (a:Int) sq L=0 from aIv HZ.out (by rw [HLEN.out];exact HA.out.er))
   have HFS:=zh (show xC chk okG m2 sg s0.V (a:Int) sq L=aKj s0.V (a:Int) sq L from if_pos HFZ.out)
   have hq:s.Q=s0.Q:=(congrArg StV.Q HA.out.v).trans (oS ..).1
   have HQN:=zh (show a < s.n2 from by have h1:s.Q.length=s.n2:=HA.out.st.own.l2;have:=HQL.out;rw [hq] at h1;omega)
   clear hq
   have i2:(a:Int) < (s.n2:Int):=by have:=HQN.out;omega
   have i3:(0:Int)≤(a:Int):=by omega
   have hown:OwnS wr w.heap.size s:=HA.out.st.own
   obtain ⟨bb,hA2,-,-⟩:=cF hown.o2 (by have:=HQN.out;omega)
   have HBB:=zh hA2
   have HOW:=zh hown
   have hb5:wr.ownsRow w.heap.size 3 1 (.slice (some ⟨bb,0,none⟩) s.n2 s.c2) s.n2 (gcs s.Q):=by have:=hown.o2;rwa [hA2] at this
   have HN1:=zh (show P ≠ bb from fun e=>aI hb5 HA.out.st.blk (by decide) (by rw [e];rfl))
   have HN2:=zh (show w.heap.size+1 ≠ bb from fun e=>aI hb5 HA.out.old (by decide) (by rw [e];rfl))
   have HN3:=zh (show w.heap.size+2 ≠ bb from fun e=>aI hb5 HA.out.tx (by decide) (by rw [e];rfl))
   have HN5:=zh (show w.heap.size+3 ≠ bb from fun e=>aI hb5 HA.out.r1.choose_spec (by decide) (by rw [e];rfl))
   have HN6:=zh (show w.heap.size+4 ≠ bb from fun e=>aI hb5 HA.out.r2 (by decide) (by rw [e];rfl))
   have p6:wr.cell? ⟨P,6,none⟩=some (.slice (some ⟨bb,0,none⟩) s.n2 s.c2):=by rw [← hA2];exact HA.out.st.blk.cell 6
   have t0:wr.cell? ⟨w.heap.size+2,0,none⟩=some (.int .i64 (a:Int)):=HA.out.tx.cell 0
   have t1:wr.cell? ⟨w.heap.size+2,1,none⟩=some (.int .i64 sq):=HA.out.tx.cell 1
   have c9:=tU hown hA2 HQN.out
   have f9:=tT hown hA2 a
   have hw9:wrap64 (sq+1)=sq+1:=by rw [← xK];exact gT ⟨by omega,by omega⟩
   clear hA2 hb5 hown
   go_upto_region 14 with fail
   clear p6 t0 t1 c9 f9
   obtain ⟨W9,hW9⟩:∃ W9,wr.setCell ⟨bb,a,none⟩ (.int .i64 (sq+1))=W9:=⟨_,rfl⟩
   rw [hW9]
   obtain ⟨s4,hs4⟩:∃ s4:StR,{ s with Q:=s.Q.set a (sq+1) }=s4:=⟨_,rfl⟩
   have HP9:=zh (show StpB w W9 P (⟨gN,gZ,B1,m1,d1,B2,m2,d2,B3,m3,d3,s4,(a:Int),sq,(some ⟨b,o,none⟩),n,c,ht⟩:StpR) from by rw [← hW9,← hs4];exact HA.out.st.cell2 HBB.out a (sq+1) HSQ.out)
   have HB9:=zh (show Blk W9 (w.heap.size+1) 44 (ssA s0) from by rw [← hW9];exact HA.out.old.far (p:=⟨bb,a,none⟩) HN2.out _)
   have HT9:=zh (show Blk W9 (w.heap.size+2) 47 (stA (a:Int) sq (some ⟨b,o,none⟩) n c S m d) from by rw [← hW9];exact HA.out.tx.far (p:=⟨bb,a,none⟩) HN3.out _)
   have HR9:=zh (show ∃ z,Blk W9 (w.heap.size+3) 44 (ssA z) from by rw [← hW9];obtain ⟨z,hz⟩:=HA.out.r1;exact ⟨z,hz.far (p:=⟨bb,a,none⟩) HN5.out _⟩)
   have HQ9:=zh (show Blk W9 (w.heap.size+4) 52 (rcA rc0) from by rw [← hW9];exact HA.out.r2.far (p:=⟨bb,a,none⟩) HN6.out _)
   have hfar:w.heap.size+4 < P:=HA.out.far
   have HV4:=zh (show (⟨s4.C,s4.Q,s4.K,cM s4.P (bQ (a:Int) sq L),s4.G⟩:StV)=xC chk okG m2 sg s0.V (a:Int) sq L from by
    rw [HFS.out,← hs4]
    unfold aKj
    rw [Int.toNat_natCast,HLEN.out,← show s.V=doN (a:Int) sq L s0.V n from HA.out.v]
    rfl)
   have HB4:=zh (show s4.n1≤1000000∧s4.n2≤1000000∧s4.n3≤1000000∧s4.n4≤1000000 from by
    rw [← hs4]
    have:=HBD.out
    show s.n1≤1000000∧s.n2≤1000000∧s.n3≤1000000∧s.n4≤1000000
    omega)
   clear hs4 hW9 HA
   refine wp_region_held_drew (S:=fun V=>Blk V P 86 (stpA (⟨gN,gZ,B1,m1,d1,B2,m2,d2,B3,m3,d3,s4,(a:Int),sq,(some ⟨b,o,none⟩),n,c,ht⟩:StpR))∧Blk V (w.heap.size+1) 44 (ssA s0)∧Blk V (w.heap.size+2) 47 (stA (a:Int) sq (some ⟨b,o,none⟩) n c S m d)∧(∃ z,Blk V (w.heap.size+3) 44 (ssA z))∧(∃ z,Blk V (w.heap.size+4) 52 (rcA z))∧Ext w V) (by kernel_rfl) (⟨HP9.out.blk.drew,HB9.out.drew,HT9.out.drew,⟨_,HR9.out.choose_spec.drew⟩,⟨_,HQ9.out.drew⟩,HP9.out.low.trans ((Ext.refl _).drew')⟩) (fun aA=>?_)
   refine zz0 [0,1,2,3,6,7,9,10,12,13,14,15,16,17] ?_;repeat first | refine zz1 ?_ (hy:=by intro W aM;have q5:W.cell? ⟨P,5,none⟩=some (.slice s4.A1 s4.n1 s4.c1):=aM.1.cell 5;have q6:W.cell? ⟨P,6,none⟩=some (.slice s4.A2 s4.n2 s4.c2):=aM.1.cell 6;have q7:W.cell? ⟨P,7,none⟩=some (.slice s4.A3 s4.n3 s4.c3):=aM.1.cell 7;have q8:W.cell? ⟨P,8,none⟩=some (.slice s4.A4 s4.n4 s4.c4):=aM.1.cell 8;have q9:W.cell? ⟨P,9,none⟩=some (.int .i64 s4.G):=aM.1.cell 9;have o4:W.cell? ⟨w.heap.size+1,4,none⟩=some (.int .i64 s0.G):=aM.2.1.cell 4;have t0:=aM.2.2.1.cell 0;have t1:=aM.2.2.1.cell 1;have t2:=aM.2.2.1.cell 2;go_simp <;> with_reducible rfl) | refine zz2 ?_ | refine zz9 ?_
   refine cJ (VV 4 (fun v V=>v=.agg (nmc (bQ (a:Int) sq L))) (VV 5 (fun v V=>∃ s5,v=.agg (ssA s5)∧OwnS V w.heap.size s5∧s5.V=⟨s4.C,s4.Q,s4.K,cM s4.P (bQ (a:Int) sq L),s4.G⟩) (VV 8 (fun v V=>∃ A5 n5 c5,v=.slice A5 n5 c5∧V.ownsRow w.heap.size 34 11 (.slice A5 n5 c5) n5 (gcs (oR (a:Int) sq L))∧(∀ d ∈ oR (a:Int) sq L,deW d)) (VV 11 (fun v V=>v=.int .i64 (kU (a:Int) sq L)) (VN))))) [(4,some 78),(5,some 79),(8,some 82),(11,some 85)] (fuel:=3) (by kernel_rfl) (by kernel_rfl) (fun V V' h e=>⟨h.1.ext e,h.2.1.ext e,h.2.2.1.ext e,(by obtain ⟨z,hz⟩:=h.2.2.2.1;exact ⟨z,hz.ext e⟩),(by obtain ⟨z,hz⟩:=h.2.2.2.2.1;exact ⟨z,hz.ext e⟩),h.2.2.2.2.2.trans e⟩) (VV.ext (fun v w w' h e=>h) (VV.ext (fun v w w' ⟨s2,h1,h2,h3⟩ e=>⟨s2,h1,h2.ext e,h3⟩) (VV.ext (fun v w w' ⟨A,n,c,h1,h2,h3⟩ e=>⟨A,n,c,h1,bA h2 e,h3⟩) (VV.ext (fun v w w' h e=>h) (VN.ext))))) aA ?hm3 rfl ?hr3
   case hm3 =>
    refine Members.cons ?mm3_4 (Members.cons ?mm3_5 (Members.cons ?mm3_8 (Members.cons ?mm3_11 (Members.nil _))))
    case mm3_4 =>
     refine zm [] (fun env W hE hS hD K hK=>?_)
     clear hD
     try simp only [aO]
     go_simp
     go_at_call 56
     refine (eS (a:Int) sq (some ⟨b,o,none⟩) n c L _ (HS.out.ext hS.2.2.2.2.2)).mono ?_
     rintro e w5 ⟨rfl,he5⟩
     have hk:=hK.out (.agg (nmc (bQ (a:Int) sq L))) _ (he5) (rfl)
     try simp only [aO] at hk
     exact hk
    case mm3_5 =>
     refine zm [(4,some 78)] (fun env W hE hS hD K hK=>?_)
     have h4:(fun v V=>v=.agg (nmc (bQ (a:Int) sq L))) (env 4) W:=hD (4,some 78) (by simp)
     clear hD
     try simp only [aO] at hK ⊢
     generalize env 4=x4 at h4 hK ⊢
     subst h4
     go_simp
     go_at_call 55
     refine (oE s4 (bQ (a:Int) sq L) _ (HP9.out.own.ok.ext (((Ext.refl _).drew').trans hE)) HB4.out).mono ?_
     rintro e w5 ⟨s5,rfl,ho5,hv5,he5⟩
     have hk:=hK.out (.agg (ssA s5)) _ (he5) (⟨s5,rfl,bJ ho5 hS.2.2.2.2.2.size,hv5⟩)
     try simp only [aO] at hk
     exact hk
    case mm3_8 =>
     refine zm [] (fun env W hE hS hD K hK=>?_)
     clear hD
     try simp only [aO]
     go_simp
     go_at_call 13
     refine (qG (a:Int) sq (some ⟨b,o,none⟩) n c L _ (HS.out.ext hS.2.2.2.2.2)).mono ?_
     rintro e w5 ⟨A5,n5,c5,rfl,ho5,hw5,he5⟩
     have hk:=hK.out (.slice A5 n5 c5) _ (he5) (⟨A5,n5,c5,rfl,bB ho5 hS.2.2.2.2.2.size,hw5⟩)
     try simp only [aO] at hk
     exact hk
    case mm3_11 =>
     refine zm [] (fun env W hE hS hD K hK=>?_)
     clear hD
     try simp only [aO]
     go_simp
     go_at_call 16
     refine (nV (a:Int) sq (some ⟨b,o,none⟩) n c L _ (HS.out.ext hS.2.2.2.2.2)).mono ?_
     rintro e w5 ⟨rfl,he5⟩
     have hk:=hK.out (.int .i64 (kU (a:Int) sq L)) _ (he5) (rfl)
     try simp only [aO] at hk
     exact hk
   case hr3 =>
    intro env W hE hS hV
    have h4:(fun v V=>v=.agg (nmc (bQ (a:Int) sq L))) (env 4) W:=hV (4,some 78) (by simp)
    have h5:(fun v V=>∃ s5,v=.agg (ssA s5)∧OwnS V w.heap.size s5∧s5.V=⟨s4.C,s4.Q,s4.K,cM s4.P (bQ (a:Int) sq L),s4.G⟩) (env 5) W:=hV (5,some 79) (by simp)
    have h8:(fun v V=>∃ A5 n5 c5,v=.slice A5 n5 c5∧V.ownsRow w.heap.size 34 11 (.slice A5 n5 c5) n5 (gcs (oR (a:Int) sq L))∧(∀ d ∈ oR (a:Int) sq L,deW d)) (env 8) W:=hV (8,some 82) (by simp)
    have h11:(fun v V=>v=.int .i64 (kU (a:Int) sq L)) (env 11) W:=hV (11,some 85) (by simp)
    clear hV
    try simp only [aO]
    generalize env 4=x4 at h4 ⊢
    generalize env 5=x5 at h5 ⊢
    generalize env 8=x8 at h8 ⊢
    generalize env 11=x11 at h11 ⊢
    subst h4
    subst h11
    obtain ⟨s5,rfl,ho5,hv5⟩:=h5
    obtain ⟨A5,n5,c5,rfl,ho8,hw8⟩:=h8
    have aA:=hS
    refine zu 18 (v:=.agg (rcA (⟨0,A5,n5,c5,kU (a:Int) sq L,bits .andNot .i64 s4.G s0.G⟩:RcR))) aA ?_ (hy:=by exact aCC (by rfl) (yI (vx:=.int .i64 0) (vy:=.slice A5 n5 c5) (vz:=.int .i64 (kU (a:Int) sq L)) (vu:=.int .i64 (bits .andNot .i64 s4.G s0.G)) (.const (.int .i64 0)) (.tmp 82) (.tmp 85) (.tmp 91) (by rfl) (by rfl) (by rfl) (by rfl) (by rfl) (aDa (⟨0,A5,n5,c5,kU (a:Int) sq L,bits .andNot .i64 s4.G s0.G⟩:RcR))))
    refine za 19 (fun K hK=>?_)
    (obtain ⟨z6,hz6⟩:=aA.2.2.2.1;refine bC rfl (.tmp 8) (.tmp 79) (by rfl) (w.heap.size+3) (.agg (ssA s5)) s5 rfl (by rfl) (by rfl) hz6 ?_;intro W6 h6)
    refine hK.out _ _ (⟨aA.1.grown (by rw [← h6.out.1];exact aC _ _ _ _) (fun e=>by injection e;omega),aA.2.1.grown (by rw [← h6.out.1];exact aC _ _ _ _) (fun e=>by injection e;omega),aA.2.2.1.grown (by rw [← h6.out.1];exact aC _ _ _ _) (fun e=>by injection e;omega),⟨_,h6.out.2⟩,(by obtain ⟨z,hz⟩:=aA.2.2.2.2.1;exact ⟨z,hz.grown (by rw [← h6.out.1];exact aC _ _ _ _) (fun e=>by injection e;omega)⟩),by rw [← h6.out.1];exact Below.setCells' aA.2.2.2.2.2 (by omega) _ _⟩) (fun aA=>?_)
    clear hK K
    try simp only [aS]
    refine za 20 (fun K hK=>?_)
    (obtain ⟨z7,hQ6⟩:=aA.2.2.2.2.1;refine pF rcP rfl (.tmp 9) (.tmp 92) (by rfl) (w.heap.size+4) 0 (by rfl) (⟨0,A5,n5,c5,kU (a:Int) sq L,bits .andNot .i64 s4.G s0.G⟩:RcR) (.agg (rcA (⟨0,A5,n5,c5,kU (a:Int) sq L,bits .andNot .i64 s4.G s0.G⟩:RcR))) rfl (by rfl) (aT hQ6) ?_;intro W8 hW8;have hX8:Ext w W8:=by rw [← hW8.out];exact Below.setCells' aA.2.2.2.2.2 (by omega) _ _)
    refine hK.out _ _ (⟨aA.1.grown (by rw [← hW8.out];exact aC _ _ _ _) (fun e=>by injection e;omega),aA.2.1.grown (by rw [← hW8.out];exact aC _ _ _ _) (fun e=>by injection e;omega),aA.2.2.1.grown (by rw [← hW8.out];exact aC _ _ _ _) (fun e=>by injection e;omega),(by obtain ⟨z,hz⟩:=aA.2.2.2.1;exact ⟨z,hz.grown (by rw [← hW8.out];exact aC _ _ _ _) (fun e=>by injection e;omega)⟩),⟨_,by rw [← hW8.out];exact aR (ds:=rcA (⟨0,A5,n5,c5,kU (a:Int) sq L,bits .andNot .i64 s4.G s0.G⟩:RcR)) hQ6 rfl⟩,hX8⟩) (fun aA=>?_)
    clear hK K
    try simp only [aS]
    refine wpAnyH_done (by kernel_rfl) ?_ _
    have hst:Blk W8 (w.heap.size+3) 44 (ssA s5):=by rw [← hW8.out];exact h6.out.2.grown (aC _ _ _ _) (fun e=>by injection e;omega)
    have hst2:Blk W8 (w.heap.size+4) 52 (rcA (⟨0,A5,n5,c5,kU (a:Int) sq L,bits .andNot .i64 s4.G s0.G⟩:RcR)):=by rw [← hW8.out];exact aR (ds:=rcA (⟨0,A5,n5,c5,kU (a:Int) sq L,bits .andNot .i64 s4.G s0.G⟩:RcR)) hQ6 rfl
    have hG:s4.G=(xC chk okG m2 sg s0.V (a:Int) sq L).G:=by rw [← HV4.out]
    have HOW5:=zh (show OwnS W8 w.heap.size s5 from by
     rw [← hW8.out]
     refine OwnS.kept ?_ (aC _ _ _ _) hQ6 (by decide) (by decide) (by decide) (by decide)
     rw [← h6.out.1]
     exact ho5.kept (aC _ _ _ _) hz6 (by decide) (by decide) (by decide) (by decide))
    have HOE:=zh (show W8.ownsRow w.heap.size 34 11 (.slice A5 n5 c5) n5 (gcs (oR (a:Int) sq L)) from by
     have h1:W6.ownsRow w.heap.size 34 11 (.slice A5 n5 c5) n5 (gcs (oR (a:Int) sq L)):=by
      rw [← h6.out.1]
      exact ho8.kept (aC _ _ _ _) (.inr (Ne.symm (aI ho8 hz6 (by decide))))
     rw [← hW8.out]
     exact h1.kept (aC _ _ _ _) (.inr (Ne.symm (aI h1 hQ6 (by decide)))))
    have HV5:=zh hv5
    have HXE:=zh hX8
    have HG:=zh hG
    clear h6 hW8 ho5 hv5 ho8 hE hS aA hQ6 hz6 hX8 hG
    go_wp2_with fail
    exact bodyPost_ret (v:=.tuple #[.agg (ssA s5),.agg (rcA (⟨0,A5,n5,c5,kU (a:Int) sq L,bits .andNot .i64 s4.G s0.G⟩:RcR))]) (aGC rfl _ _ (w.heap.size+3) (w.heap.size+4) _ _ rfl rfl (run_loadVar_row _ _ _ _ _ (0,0) _ hst Tryz.underlying44 rfl (by kernel_rfl)) (run_loadVar_row _ _ _ _ _ (0,0) _ hst2 Tryz.underlying52 rfl (by kernel_rfl))) rfl ⟨s5,A5,n5,c5,by rw [HG.out,HFZ.out];rfl,HOW5.out,by rw [HV5.out,HV4.out],by rw [HFZ.out];exact OwnG.sl (e:=34) HOE.out hw8,HXE.out⟩
 have HZ:=zh (aIx (chk:=chk) (by rw [hz];exact h0)|>.trans hz)
 have HV:=zh (show xC chk okG m2 sg s0.V ac sq L=s0.V from if_neg (by rw [HZ.out];exact h0))
 have h1:(z != 0)=true:=bne_iff_ne.2 h0
 have HZ0:=zh h0
 clear hz h0
 go_enter Tryz.func20,Tryz.ntmps20
 go_wp2_with fail
 refine (HBG.out _ HE.out).mono ?_
 rintro e w5 ⟨rfl,he5⟩
 have HX5:=zh (HE.out.trans he5)
 have HB5:=zh (HB.out.ext he5)
 have HR5:=zh (HR.out.ext he5)
 have HQ5:=zh (HR2.out.ext he5)
 clear he5 g0 g1 g2 g3 g4 t0 t1 t2 t3 q0 q1 q2 q3 q4 HG HB HT HR HR2 HE HBG hW
 obtain ⟨q0,q1,q2,q3,q4⟩:=aE HB5.out
 go_wp2_with fail
 refine (cR s0 _ (HS0.out.ext HX5.out) (by have:=HN.out;omega)).mono ?_
 rintro e w7 ⟨s5,rfl,ho5,hv5,he5⟩
 have HR7:=zh (HR5.out.ext he5)
 have HQ7:=zh (HQ5.out.ext he5)
 have HO5:=zh ho5
 have HV5:=zh hv5
 have HX7:=zh (HX5.out.trans he5)
 have HSZ:=zh HX5.out.size
 clear ho5 hv5 he5 q0 q1 q2 q3 q4
 go_wp2_with (first | ((with_reducible refine aK rfl (.tmp 8) (.tmp 22) rfl (w.heap.size+3) s5 rfl rfl HR7.out ?_);intro W9 h9;have HQ9:=zh (show Blk W9 (w.heap.size+4) 52 (rcA rc0) from by rw [← h9.out];exact HQ7.out.grown (aC _ _ _ _) (fun e=>by injection e;omega));have HT9:=zh (show W9.there (w.heap.size+4) 0 (RowT.sz RcR) from aT HQ9.out)) | ((with_reducible refine mE rcP rfl (.tmp 9) (.tmp 24) rfl (w.heap.size+4) 0 rfl ⟨z,none,0,0,0,0⟩ _ rfl rfl HT9.out ?_);intro W8 hW8))
 have hst9:Blk W9 (w.heap.size+3) 44 (ssA s5):=by rw [← h9.out];exact aR (ds:=ssA s5) HR7.out rfl
 have hst:Blk W8 (w.heap.size+3) 44 (ssA s5):=by rw [← hW8.out];exact hst9.grown (aC _ _ _ _) (fun e=>by injection e;omega)
 have hst2:Blk W8 (w.heap.size+4) 52 (rcA ⟨z,none,0,0,0,0⟩):=by rw [← hW8.out];exact aR (ds:=rcA ⟨z,none,0,0,0,0⟩) HQ9.out rfl
 have HOW:=zh (show OwnS W8 w.heap.size s5 from by
  rw [← hW8.out]
  refine OwnS.kept ?_ (aC _ _ _ _) HQ9.out (by decide) (by decide) (by decide) (by decide)
  rw [← h9.out]
  exact (HO5.out.kept (aC _ _ _ _) HR7.out (by decide) (by decide) (by decide) (by decide)).mono HSZ.out)
 have HXE:=zh (show Ext w W8 from by rw [← hW8.out];refine Below.setCells' ?_ (by omega) _ _;rw [← h9.out];exact Below.setCells' HX7.out (by omega) _ _)
 clear h9 hW8 hst9
 exact bodyPost_ret (v:=.tuple #[.agg (ssA s5),.agg (rcA ⟨z,none,0,0,0,0⟩)]) (aGC rfl _ _ (w.heap.size+3) (w.heap.size+4) _ _ rfl rfl (run_loadVar_row _ _ _ _ _ (0,0) _ hst Tryz.underlying44 rfl (by kernel_rfl)) (run_loadVar_row _ _ _ _ _ (0,0) _ hst2 Tryz.underlying52 rfl (by kernel_rfl))) rfl ⟨s5,none,0,0,by (first | rw [HZ.out] | skip);unfold rcO rcG;rw [if_neg HZ0.out,if_neg HZ0.out],HOW.out,by rw [HV5.out,HV.out],by (first | rw [HZ.out] | skip);unfold rcE;rw [if_neg HZ0.out];exact SlG.nil _,HXE.out⟩
end
end Go.Proofs.YtohmmcahpakokaaGreat
