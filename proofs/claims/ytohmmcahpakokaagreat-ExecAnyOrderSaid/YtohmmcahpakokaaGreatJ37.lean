/- exec.Replay. -/
import Derived.Test.YtohmmcahpakokaaGreatJ33
import Derived.Test.YtohmmcahpakokaaGreatJ36
set_option maxRecDepth 100000
set_option maxHeartbeats 8000000
set_option linter.unusedVariables false
set_option linter.unusedSimpArgs false
namespace Go.Proofs.YtohmmcahpakokaaGreat
section
open Go.RowKit
attribute [local go_sem ↓] Go.wp_at_zero Go.wp_at_succ
theorem aCA (S:StV) (l:List DeR):(nO S l).C.length≤S.C.length+l.length:=qP l S.C
theorem aFl (K:List LkR) (d:LkR):(lV K d).length≤K.length+1:=by
 have hi:∀ (p:LkR→Bool) (x:LkR) (L:List LkR),(eB p x L).length=L.length+1:=fun p x L=>by
  induction L with
  | nil=>rfl
  | cons y r ih=>unfold eB;split <;> simp [ih]
 unfold lV
 split
 ·rw [hi];exact Nat.le_refl _
 exact Nat.le_succ _
theorem vS (n:UInt64):∀ (K:List LkR),(fU n K).length≤K.length
 | []=>Nat.le_refl _
 | d :: r=>by
  have:=vS n r
  unfold fU;split <;> simp only [List.length_cons] <;> omega
theorem aIM (ac sq:Int) (L:List OpR) (S:StV) (i:Nat):(kM ac sq L S i).C.length≤S.C.length+20∧(kM ac sq L S i).K.length≤S.K.length+1:=by
 unfold kM
 split
 ·exact ⟨Nat.le_add_right _ _,aFl _ _⟩
 split
 ·exact ⟨Nat.le_add_right _ _,Nat.le_trans (vS _ _) (Nat.le_succ _)⟩
 split
 ·refine ⟨aEt _ _ 10, ?_⟩
  unfold aFH
  rw [aJt];exact Nat.le_succ _
 exact ⟨Nat.le_add_right _ _,Nat.le_succ _⟩
theorem aAB (ac sq:Int) (L:List OpR) (S:StV) (k:Nat):(doN ac sq L S k).C.length≤S.C.length+22 * k∧(doN ac sq L S k).K.length≤S.K.length+k:=by
 induction k with
 | zero=>exact ⟨Nat.le_refl _,Nat.le_refl _⟩
 | succ k ih =>
  rw [mU]
  unfold doO
  have h1:=aIM ac sq L (nO (doN ac sq L S k) (dL ac sq L k)) k
  have h2:=aCA (doN ac sq L S k) (dL ac sq L k)
  have h3:=lA ac sq L k
  have h4:(nO (doN ac sq L S k) (dL ac sq L k)).K=(doN ac sq L S k).K:=rfl
  rw [h4] at h1
  omega
theorem aHE {w w':World} {base base':Nat} {s s2:StR} {ac sq:Int} {L:List OpR} {k:Nat} (h2:OwnS w base s2) (hv:s2.V=nO s.V (dL ac sq L k)) (h:OwnS w' base' s) (hb:s.n1≤500000∧s.n2≤500000∧s.n3≤500000∧s.n4≤500000):s2.n1≤900000∧s2.n2≤1000000∧s2.n3≤1000000∧s2.n4≤1000000:=by
 have e1:s2.C=_:=congrArg StV.C hv
 have e2:s2.Q=s.Q:=congrArg StV.Q hv
 have e3:s2.K=s.K:=congrArg StV.K hv
 have e4:s2.P=s.P:=congrArg StV.P hv
 have m1:=h2.l1
 have m2:=h2.l2
 have m3:=h2.l3
 have m4:=h2.l4
 have l1:=h.l1
 have l2:=h.l2
 have l3:=h.l3
 have l4:=h.l4
 rw [e1] at m1;rw [e2] at m2;rw [e3] at m3;rw [e4] at m4
 have h3:=lA ac sq L k
 have h5:=aCA s.V (dL ac sq L k)
 have e6:s.V.C=s.C:=rfl
 rw [e6] at h5
 omega
theorem tU {w:World} {base:Nat} {s:StR} (h:OwnS w base s) {bb a:Nat} (hA:s.A2=some ⟨bb,0,none⟩) (ha:a < s.n2):w.cell? ⟨bb,a,none⟩=some (.int .i64 (nthG s.Q a)):=by
 obtain ⟨b3,hA3,-,hr3⟩:=cF h.o2 (by omega)
 have h5:w.rangeAt b3 (0+a * 1) (RowT.enc (nthG s.Q a)):=cG hr3 (by rw [h.l2];exact ha)
 rw [hA] at hA3
 obtain rfl:bb=b3:=by injection hA3 with h6;injection h6
 have h7:=h5 0 _ rfl
 rwa [show 0+a * 1+0=a from by omega] at h7
theorem tT {w:World} {base:Nat} {s:StR} (h:OwnS w base s) {bb:Nat} (hA:s.A2=some ⟨bb,0,none⟩) (a:Nat):w.frozen? ⟨bb,a,none⟩=false:=by
 have h5:w.ownsRow base 3 1 (.slice (some ⟨bb,0,none⟩) s.n2 s.c2) s.n2 (gcs s.Q):=by have:=h.o2;rwa [hA] at this
 exact h5.frozenAt _
theorem aKa {Q:List Int} {a:Nat} {sq:Int} (h:a < Q.length):jO Q (a:Int) sq=Q.set a (if nthG Q a < sq+1 then sq+1 else nthG Q a):=by
 unfold jO
 rw [if_pos (by omega)]
 have e:Q.getD (a:Int).toNat 0=nthG Q a:=rfl
 rw [e,Int.toNat_natCast]
 congr 1
 split <;> omega
theorem aIf {Q:List Int} {a:Nat} {sq:Int} (h:¬ a < Q.length):jO Q (a:Int) sq=Q:=by
 unfold jO;rw [if_neg (by omega)]
structure RepS (w wr:World) (ac sq:Int) (A:Option Addr) (n c:Nat) (L:List OpR) (S0:StV) (k:Nat) (s:StR):Prop where
 st:StB w wr w.heap.size s
 tx:Blk wr (w.heap.size+1) 24 (txA ac sq A n c)
 res:∃ z,Blk wr (w.heap.size+2) 44 (ssA z)
 v:s.V=doN ac sq L S0 k
theorem RepS.ext {w wr w':World} {ac sq:Int} {A:Option Addr} {n c:Nat} {L:List OpR} {S0:StV} {k:Nat} {s:StR} (h:RepS w wr ac sq A n c L S0 k s) (e:Ext wr w'):RepS w w' ac sq A n c L S0 k s:=⟨h.st.ext e,h.tx.ext e,(by obtain ⟨z,hz⟩:=h.res;exact ⟨z,hz.ext e⟩),h.v⟩
theorem RepS.bd {w wr:World} {ac sq:Int} {A:Option Addr} {n c:Nat} {L:List OpR} {s0:StR} {k:Nat} {s:StR} {w':World} (h:RepS w wr ac sq A n c L s0.V k s) (h0:s0.ok w') (hk:k≤4) (hn:s0.n1≤200000∧s0.n2≤200000∧s0.n3≤200000∧s0.n4≤200000):s.n1≤500000∧s.n2≤500000∧s.n3≤500000∧s.n4≤500000:=by
 have e1:s.C=_:=congrArg StV.C h.v
 have e2:s.Q=s0.Q:=(congrArg StV.Q h.v).trans (oS ..).1
 have e3:s.K=_:=congrArg StV.K h.v
 have e4:s.P=s0.P:=(congrArg StV.P h.v).trans (oS ..).2
 have m1:=h.st.own.l1
 have m2:=h.st.own.l2
 have m3:=h.st.own.l3
 have m4:=h.st.own.l4
 have l1:=h0.s1.len
 have l2:=h0.s2.len
 have l3:=h0.s3.len
 have l4:=h0.s4.len
 rw [e1] at m1;rw [e2] at m2;rw [e3] at m3;rw [e4] at m4
 have h5:=aAB ac sq L s0.V k
 have e6:s0.V.C=s0.C:=rfl
 have e7:s0.V.K=s0.K:=rfl
 rw [e6,e7] at h5
 omega
theorem oH (s0:StR) (ac sq:Int) (A:Option Addr) (n c:Nat) (L:List OpR) (w:World) (h:s0.ok w) (hS:SlO w A n c L) (hn:s0.n1≤200000∧s0.n2≤200000∧s0.n3≤200000∧s0.n4≤200000) :
  Calls Tryz.prog 24 #[.agg (ssA s0),.agg (txA ac sq A n c)] w (lZ w (gQ s0.V ac sq L)):=by
 have HS0:=zh h
 have HN:=zh hn
 have HS:=zh hS
 have hle:=hS.le
 have hcap:=hS.cap
 have HLEN:=zh hS.len
 obtain ⟨W,hW⟩:∃ W,((w.alloc (.cells (ssA s0) 44)).alloc (.cells (txA ac sq A n c) 24)).alloc (.cells #[.slice none 0 0,.slice none 0 0,.slice none 0 0,.slice none 0 0,.int .i64 0] 44)=W:=⟨_,rfl⟩
 have HB:=zh (show Blk W w.heap.size 44 (ssA s0) from by rw [← hW];exact ((Blk.new w 44 (ssA s0)).alloc _).alloc _)
 have HT:=zh (show Blk W (w.heap.size+1) 24 (txA ac sq A n c) from by rw [← hW];exact Blk.alloc (Blk.newAt _ _ _ _ (by simp)) _)
 have HR:=zh (show Blk W (w.heap.size+2) 44 (ssA ss0) from by rw [← hW];exact Blk.newAt _ _ _ _ (by simp))
 have HE:=zh (show Ext w W from by rw [← hW];exact (((Ext.refl w).alloc' _).alloc' _).alloc' _)
 have HVAL:=zh (fun (V:World) (e:Ext w V)=>eH ac sq A n c L V (HS.out.ext e))
 clear h hn hS
 cases hv:vTx ac sq L with
 | false =>
  have HREP:=zh (show gQ s0.V ac sq L=s0.V from by unfold gQ;rw [if_pos (.inl hv)])
  rw [hv] at HVAL
  have HVAL:=zh (show ∀ (V:World),Ext w V→Calls Tryz.prog 44 #[.agg (txA ac sq A n c)] V (fun e w'=>e=.returned (.int .i64 1)∧Ext V w') from HVAL.out)
  clear hv
  go_enter Tryz.func24,Tryz.ntmps24
  go_upto_region 1 with (fail)
  clear hW
  refine wp_region_held_drew (S:=fun V=>Blk V w.heap.size 44 (ssA s0)∧Blk V (w.heap.size+1) 24 (txA ac sq A n c)∧(∃ z,Blk V (w.heap.size+2) 44 (ssA z))∧Ext w V) (by kernel_rfl) (⟨HB.out.drew,HT.out.drew,⟨_,HR.out.drew⟩,HE.out.trans ((Ext.refl _).drew')⟩) (fun aA=>?_)
  refine zz0 [0] ?_;repeat first | refine zz1 ?_ (hy:=by intro W aM;obtain ⟨q0,q1,q2,q3,q4⟩:=aE aM.1;have t0:=aM.2.1.cell 0;have t1:=aM.2.1.cell 1;have t2:=aM.2.1.cell 2;go_simp <;> with_reducible rfl) | refine zz2 ?_ | refine zz9 ?_
  refine zzj (VE 1 (.int .i64 1) VN) [(1,some 7)] 7 (fun V V' h e=>⟨h.1.ext e,h.2.1.ext e,(by obtain ⟨z,hz⟩:=h.2.2.1;exact ⟨z,hz.ext e⟩),h.2.2.2.trans e⟩) (ve VN.ext) (zzc ?_ zzn) ?_
  ·refine zzp fun W hE hS K hK => ?_
   go_simp
   go_at_call 44
   refine (HVAL.out _ hS.2.2.2).mono ?_
   rintro e w5 ⟨rfl,he5⟩
   exact zzK (hK.out (.int .i64 1) _ (he5) (rfl))
  intro env W hE hS hV
  obtain ⟨h1,-⟩:=zzV hV
  clear hV
  simp only [aO,h1]
  clear h1
  have aA:=hS
  refine zzr [2,3] ?_
  (refine zs 4 aA ?_)
  (refine zs 5 aA ?_)
  (refine zs 6 aA ?_)
  (refine zs 7 aA ?_)
  refine zt 8 aA ?_
  refine wpAnyH_done (by kernel_rfl) ?_ _
  have HX5:=zh aA.2.2.2
  obtain ⟨q0,q1,q2,q3,q4⟩:=aE aA.1
  obtain ⟨z6,hz6⟩:=aA.2.2.1
  have HR6:=zh hz6
  clear hE hS aA hz6
  go_wp2_with fail
  refine (cR s0 _ (HS0.out.ext HX5.out) (by have:=HN.out;omega)).mono ?_
  rintro e w7 ⟨s5,rfl,ho5,hv5,he5⟩
  have HR7:=zh (HR6.out.ext he5)
  have HO5:=zh ho5
  have HV5:=zh hv5
  have HX7:=zh (HX5.out.trans he5)
  have HSZ:=zh HX5.out.size
  clear ho5 hv5 he5 q0 q1 q2 q3 q4
  go_wp2_with ((with_reducible refine aK rfl (.tmp 4) (.tmp 16) rfl (w.heap.size+2) s5 rfl rfl HR7.out ?_);intro W9 h9)
  have hst:Blk W9 (w.heap.size+2) 44 (ssA s5):=by rw [← h9.out];exact aR (ds:=ssA s5) HR7.out rfl
  have HOW:=zh (show OwnS W9 w.heap.size s5 from by
   rw [← h9.out]
   exact (HO5.out.kept (aC _ _ _ _) HR7.out (by decide) (by decide) (by decide) (by decide)).mono HSZ.out)
  have HXE:=zh (show Ext w W9 from by rw [← h9.out];exact Below.setCells' HX7.out (by omega) _ _)
  clear h9
  exact bodyPost_ret (v:=.agg (ssA s5)) (gB rfl _ _ (w.heap.size+2) _ rfl (run_loadVar_row _ _ _ _ _ (0,0) _ hst Tryz.underlying44 rfl (by kernel_rfl))) rfl ⟨s5,rfl,HOW.out,by rw [HV5.out,HREP.out],HXE.out⟩
 | true =>
  rw [hv] at HVAL
  have HVAL:=zh (show ∀ (V:World),Ext w V→Calls Tryz.prog 44 #[.agg (txA ac sq A n c)] V (fun e w'=>e=.returned (.int .i64 0)∧Ext V w') from HVAL.out)
  obtain ⟨⟨a1,a2,a3,a4,a5,a6⟩,-⟩:=eO hv
  obtain ⟨a,rfl⟩:∃ a:Nat,ac=(a:Int):=⟨ac.toNat,by omega⟩
  have HVT:=zh hv
  have hn4:n≤4:=by have:=HLEN.out;omega
  have HN4:=zh hn4
  clear hv
  by_cases hm:(bQ (a:Int) sq L) ∈ s0.P
  ·have HREP := zh (show gQ s0.V (a : Int) sq L = s0.V from by unfold gQ; rw [if_pos (.inr hm)])
   have HAPP:=zh (fun (V:World) (e:Ext w V)=>fM s0 (bQ (a:Int) sq L) V (HS0.out.ext e))
   rw [decide_eq_true hm] at HAPP
   clear hm
   go_enter Tryz.func24,Tryz.ntmps24
   go_upto_region 1 with (fail)
   clear hW
   refine wp_region_held_drew (S:=fun V=>Blk V w.heap.size 44 (ssA s0)∧Blk V (w.heap.size+1) 24 (txA (a:Int) sq A n c)∧(∃ z,Blk V (w.heap.size+2) 44 (ssA z))∧Ext w V) (by kernel_rfl) (⟨HB.out.drew,HT.out.drew,⟨_,HR.out.drew⟩,HE.out.trans ((Ext.refl _).drew')⟩) (fun aA=>?_)
   refine zz0 [0] ?_;repeat first | refine zz1 ?_ (hy:=by intro W aM;obtain ⟨q0,q1,q2,q3,q4⟩:=aE aM.1;have t0:=aM.2.1.cell 0;have t1:=aM.2.1.cell 1;have t2:=aM.2.1.cell 2;go_simp <;> with_reducible rfl) | refine zz2 ?_ | refine zz9 ?_
   refine zzj (VE 1 (.int .i64 0) VN) [(1,some 7)] 7 (fun V V' h e=>⟨h.1.ext e,h.2.1.ext e,(by obtain ⟨z,hz⟩:=h.2.2.1;exact ⟨z,hz.ext e⟩),h.2.2.2.trans e⟩) (ve VN.ext) (zzc ?_ zzn) ?_
   ·refine zzp fun W hE hS K hK => ?_
    go_simp
    go_at_call 44
    refine (HVAL.out _ hS.2.2.2).mono ?_
    rintro e w5 ⟨rfl,he5⟩
    exact zzK (hK.out (.int .i64 0) _ (he5) (rfl))
   intro env W hE hS hV
   obtain ⟨h1,-⟩:=zzV hV
   clear hV
   simp only [aO,h1]
   clear h1
   have aA:=hS
   refine zz0 [2,3,4,5] ?_;repeat first | refine zz1 ?_ (hy:=by intro W aM;obtain ⟨q0,q1,q2,q3,q4⟩:=aE aM.1;have t0:=aM.2.1.cell 0;have t1:=aM.2.1.cell 1;have t2:=aM.2.1.cell 2;go_simp <;> with_reducible rfl) | refine zz2 ?_ | refine zz9 ?_
   refine za 6 (fun K hK=>?_)
   (go_simp;go_at_call 56;refine (eS (a:Int) sq A n c L _ (HS.out.ext aA.2.2.2)).mono ?_;rintro e w8 ⟨rfl,he8⟩)
   refine hK.out _ _ (⟨aA.1.ext he8,aA.2.1.ext he8,(by obtain ⟨z,hz⟩:=aA.2.2.1;exact ⟨z,hz.ext he8⟩),aA.2.2.2.trans he8⟩) (fun aA=>?_)
   clear hK K
   try simp only [aS]
   refine za 7 (fun K hK=>?_)
   (go_simp;go_at_call 63;refine (HAPP.out _ aA.2.2.2).mono ?_;rintro e w8 ⟨rfl,he8⟩)
   refine hK.out _ _ (⟨aA.1.ext he8,aA.2.1.ext he8,(by obtain ⟨z,hz⟩:=aA.2.2.1;exact ⟨z,hz.ext he8⟩),aA.2.2.2.trans he8⟩) (fun aA=>?_)
   clear hK K
   try simp only [aS]
   refine zt 8 aA ?_
   refine wpAnyH_done (by kernel_rfl) ?_ _
   have HX5:=zh aA.2.2.2
   obtain ⟨q0,q1,q2,q3,q4⟩:=aE aA.1
   obtain ⟨z6,hz6⟩:=aA.2.2.1
   have HR6:=zh hz6
   clear hE hS aA hz6
   go_wp2_with fail
   refine (cR s0 _ (HS0.out.ext HX5.out) (by have:=HN.out;omega)).mono ?_
   rintro e w7 ⟨s5,rfl,ho5,hv5,he5⟩
   have HR7:=zh (HR6.out.ext he5)
   have HO5:=zh ho5
   have HV5:=zh hv5
   have HX7:=zh (HX5.out.trans he5)
   have HSZ:=zh HX5.out.size
   clear ho5 hv5 he5 q0 q1 q2 q3 q4
   go_wp2_with ((with_reducible refine aK rfl (.tmp 4) (.tmp 16) rfl (w.heap.size+2) s5 rfl rfl HR7.out ?_);intro W9 h9)
   have hst:Blk W9 (w.heap.size+2) 44 (ssA s5):=by rw [← h9.out];exact aR (ds:=ssA s5) HR7.out rfl
   have HOW:=zh (show OwnS W9 w.heap.size s5 from by
    rw [← h9.out]
    exact (HO5.out.kept (aC _ _ _ _) HR7.out (by decide) (by decide) (by decide) (by decide)).mono HSZ.out)
   have HXE:=zh (show Ext w W9 from by rw [← h9.out];exact Below.setCells' HX7.out (by omega) _ _)
   clear h9
   exact bodyPost_ret (v:=.agg (ssA s5)) (gB rfl _ _ (w.heap.size+2) _ rfl (run_loadVar_row _ _ _ _ _ (0,0) _ hst Tryz.underlying44 rfl (by kernel_rfl))) rfl ⟨s5,rfl,HOW.out,by rw [HV5.out,HREP.out],HXE.out⟩
  have HREP:=zh (show gQ s0.V (a:Int) sq L=⟨(doN (a:Int) sq L s0.V L.length).C,jO (doN (a:Int) sq L s0.V L.length).Q (a:Int) sq,(doN (a:Int) sq L s0.V L.length).K,cM (doN (a:Int) sq L s0.V L.length).P (bQ (a:Int) sq L),(doN (a:Int) sq L s0.V L.length).G⟩ from by
   unfold gQ
   rw [if_neg (fun h=>h.elim (fun h=>by rw [HVT.out] at h;cases h) hm)])
  have HAPP:=zh (fun (V:World) (e:Ext w V)=>fM s0 (bQ (a:Int) sq L) V (HS0.out.ext e))
  rw [decide_eq_false hm] at HAPP
  clear hm
  go_enter Tryz.func24,Tryz.ntmps24
  go_upto_region 1 with (fail)
  clear hW
  refine wp_region_held_drew (S:=fun V=>Blk V w.heap.size 44 (ssA s0)∧Blk V (w.heap.size+1) 24 (txA (a:Int) sq A n c)∧(∃ z,Blk V (w.heap.size+2) 44 (ssA z))∧Ext w V) (by kernel_rfl) (⟨HB.out.drew,HT.out.drew,⟨_,HR.out.drew⟩,HE.out.trans ((Ext.refl _).drew')⟩) (fun aA=>?_)
  refine zz0 [0] ?_;repeat first | refine zz1 ?_ (hy:=by intro W aM;obtain ⟨q0,q1,q2,q3,q4⟩:=aE aM.1;have t0:=aM.2.1.cell 0;have t1:=aM.2.1.cell 1;have t2:=aM.2.1.cell 2;go_simp <;> with_reducible rfl) | refine zz2 ?_ | refine zz9 ?_
  refine zzj (VE 1 (.int .i64 0) VN) [(1,some 7)] 7 (fun V V' h e=>⟨h.1.ext e,h.2.1.ext e,(by obtain ⟨z,hz⟩:=h.2.2.1;exact ⟨z,hz.ext e⟩),h.2.2.2.trans e⟩) (ve VN.ext) (zzc ?_ zzn) ?_
  ·refine zzp fun W hE hS K hK => ?_
   go_simp
   go_at_call 44
   refine (HVAL.out _ hS.2.2.2).mono ?_
   rintro e w5 ⟨rfl,he5⟩
   exact zzK (hK.out (.int .i64 0) _ (he5) (rfl))
  intro env W hE hS hV
  obtain ⟨h1,-⟩:=zzV hV
  clear hV
  simp only [aO,h1]
  clear h1
  have aA:=hS
  refine zz0 [2,3,4,5] ?_;repeat first | refine zz1 ?_ (hy:=by intro W aM;obtain ⟨q0,q1,q2,q3,q4⟩:=aE aM.1;have t0:=aM.2.1.cell 0;have t1:=aM.2.1.cell 1;have t2:=aM.2.1.cell 2;go_simp <;> with_reducible rfl) | refine zz2 ?_ | refine zz9 ?_
  refine za 6 (fun K hK=>?_)
  (go_simp;go_at_call 56;refine (eS (a:Int) sq A n c L _ (HS.out.ext aA.2.2.2)).mono ?_;rintro e w8 ⟨rfl,he8⟩)
  refine hK.out _ _ (⟨aA.1.ext he8,aA.2.1.ext he8,(by obtain ⟨z,hz⟩:=aA.2.2.1;exact ⟨z,hz.ext he8⟩),aA.2.2.2.trans he8⟩) (fun aA=>?_)
  clear hK K
  try simp only [aS]
  refine za 7 (fun K hK=>?_)
  (go_simp;go_at_call 63;refine (HAPP.out _ aA.2.2.2).mono ?_;rintro e w8 ⟨rfl,he8⟩)
  refine hK.out _ _ (⟨aA.1.ext he8,aA.2.1.ext he8,(by obtain ⟨z,hz⟩:=aA.2.2.1;exact ⟨z,hz.ext he8⟩),aA.2.2.2.trans he8⟩) (fun aA=>?_)
  clear hK K
  try simp only [aS]
  refine zt 8 aA ?_
  refine wpAnyH_done (by kernel_rfl) ?_ _
  have HX5:=zh aA.2.2.2
  have HB5:=zh aA.1
  have HT5:=zh aA.2.1
  have HR5:=zh aA.2.2.1
  obtain ⟨q0,q1,q2,q3,q4⟩:=aE aA.1
  clear hE hS aA
  go_upto_region 4 with (first | (go_at_call 51;refine (cR s0 _ (HS0.out.ext HX5.out) (by have:=HN.out;omega)).mono ?_;rintro e w5 ⟨s1,rfl,ho1,hv1,he1⟩;have HB6:=zh (HB5.out.ext he1);have HT6:=zh (HT5.out.ext he1);have HR6:=zh (show ∃ z,Blk w5 (w.heap.size+2) 44 (ssA z) from (by obtain ⟨z,hz⟩:=HR5.out;exact ⟨z,hz.ext he1⟩));have HO1:=zh (bJ ho1 HX5.out.size);have HV1:=zh hv1;have HX6:=zh (HX5.out.trans he1);clear ho1 hv1 he1) | ((with_reducible refine aK rfl (.tmp 2) (.tmp 18) rfl w.heap.size s1 rfl rfl HB6.out ?_);intro W2 h2))
  have HA0:=zh (show RepS w W2 (a:Int) sq A n c L s0.V 0 s1 from by
   rw [← h2.out]
   exact ⟨StB.start HO1.out HB6.out HX6.out (Nat.le_refl _),HT6.out.grown (aC _ _ _ _) (fun e=>by injection e;omega),(by obtain ⟨z,hz⟩:=HR6.out;exact ⟨z,hz.grown (aC _ _ _ _) (fun e=>by injection e;omega)⟩),HV1.out⟩)
  clear h2 HB5 HT5 HR5 HB6 HT6 HR6 HO1 HV1 HX5 HX6 HB HT HR HE HAPP HVAL q0 q1 q2 q3 q4
  have t0:=HA0.out.tx.cell 0
  have t1:=HA0.out.tx.cell 1
  have t2:=HA0.out.tx.cell 2
  go_wp2_with fail
  clear t0 t1 t2
  go_loopw [22] (fun vi wr=>∃ (k:Nat) (s:StR),vi=.int .i64 (k:Int)∧k≤n∧Hid (RepS w wr (a:Int) sq A n c L s0.V k s)) (fun i _=>n - (intOf i).toNat)
  case atStart=>exact ⟨0,s1,rfl,Nat.zero_le _,HA0⟩
  case round =>
   clear HA0
   obtain ⟨k,s,rfl,hk,HA⟩:=hrel
   have HBD:=zh (HA.out.bd HS0.out (by omega) HN.out)
   by_cases hlt:k < n
   ·have i0 : (0 : Int) ≤ (k : Int) := by omega
    have i1:(k:Int) < (n:Int):=by omega
    have HKN:=zh hlt
    go_upto_region 7 with fail
    have HAW:=zh (HA.out.ext ((Ext.refl wr).drew'))
    refine wp_region_held_drew (S:=fun _=>True) (by kernel_rfl) (trivial) (fun aA=>?_)
    refine zzr [2,6] ?_
    refine cJ (VV 0 (fun v V=>v=.agg (ssA s)) (VV 1 (fun v V=>v=.agg (txA (a:Int) sq A n c)) (VV 3 (fun v V=>∃ A5 n5 c5,v=.slice A5 n5 c5∧SlG V A5 n5 c5 (dL (a:Int) sq L k)) (VV 4 (fun v V=>∃ s2,v=.agg (ssA s2)∧OwnS V w.heap.size s2∧s2.V=nO s.V (dL (a:Int) sq L k)) (VV 5 (fun v V=>v=.agg (txA (a:Int) sq A n c)) (VV 7 (fun v V=>∃ s2,v=.agg (ssA s2)∧OwnS V w.heap.size s2∧s2.V=doO (a:Int) sq L s.V k) (VN))))))) [(0,some 25),(1,some 26),(3,some 28),(4,some 29),(5,some 30),(7,some 32)] (fuel:=1) (by kernel_rfl) (by kernel_rfl) (fun _ _ h _=>h) (VV.ext (fun v w w' h e=>h) (VV.ext (fun v w w' h e=>h) (VV.ext (fun v w w' ⟨A,n,c,h1,h2⟩ e=>⟨A,n,c,h1,h2.ext e⟩) (VV.ext (fun v w w' ⟨s2,h1,h2,h3⟩ e=>⟨s2,h1,h2.ext e,h3⟩) (VV.ext (fun v w w' h e=>h) (VV.ext (fun v w w' ⟨s2,h1,h2,h3⟩ e=>⟨s2,h1,h2.ext e,h3⟩) (VN.ext))))))) aA ?hm1 rfl ?hr1
    case hm1 =>
     refine Members.cons ?mm1_0 (Members.cons ?mm1_1 (Members.cons ?mm1_3 (Members.cons ?mm1_4 (Members.cons ?mm1_5 (Members.cons ?mm1_7 (Members.nil _))))))
     case mm1_0 =>
      refine zm [] (fun env W5 hE hS hD K hK=>?_)
      clear hD
      try simp only [aO]
      obtain ⟨q0,q1,q2,q3,q4⟩:=aE (HAW.out.st.blk.ext hE)
      go_simp
      have hk:=hK.out (.agg (ssA s)) _ (Ext.refl _) (rfl)
      try simp only [aO] at hk
      exact hk
     case mm1_1 =>
      refine zm [] (fun env W5 hE hS hD K hK=>?_)
      clear hD
      try simp only [aO]
      have t0:=(HAW.out.tx.ext hE).cell 0
      have t1:=(HAW.out.tx.ext hE).cell 1
      have t2:=(HAW.out.tx.ext hE).cell 2
      go_simp
      have hk:=hK.out (.agg (txA (a:Int) sq A n c)) _ (Ext.refl _) (rfl)
      try simp only [aO] at hk
      exact hk
     case mm1_3 =>
      refine zm [(1,some 26)] (fun env W5 hE hS hD K hK=>?_)
      have h1:(fun v V=>v=.agg (txA (a:Int) sq A n c)) (env 1) W5:=hD (1,some 26) (by simp)
      clear hD
      try simp only [aO] at hK ⊢
      generalize env 1=x1 at h1 hK ⊢
      subst h1
      go_simp
      go_at_call 45
      refine (oQ (a:Int) sq A n c L k _ (HS.out.ext (HAW.out.st.low.trans hE)) HKN.out HVT.out).mono ?_
      rintro e w5 ⟨A5,n5,c5,rfl,hs5,he5⟩
      have hk:=hK.out (.slice A5 n5 c5) _ (he5) (⟨A5,n5,c5,rfl,hs5⟩)
      try simp only [aO] at hk
      exact hk
     case mm1_4 =>
      refine zm [(0,some 25),(3,some 28)] (fun env W5 hE hS hD K hK=>?_)
      have h0:(fun v V=>v=.agg (ssA s)) (env 0) W5:=hD (0,some 25) (by simp)
      have h3:(fun v V=>∃ A5 n5 c5,v=.slice A5 n5 c5∧SlG V A5 n5 c5 (dL (a:Int) sq L k)) (env 3) W5:=hD (3,some 28) (by simp)
      clear hD
      try simp only [aO] at hK ⊢
      generalize env 0=x0 at h0 hK ⊢
      generalize env 3=x3 at h3 hK ⊢
      subst h0
      obtain ⟨A8,n8,c8,rfl,hs8⟩:=h3
      go_simp
      go_at_call 54
      refine (kS s A8 n8 c8 (dL (a:Int) sq L k) _ (HAW.out.st.own.ok.ext hE) hs8 ⟨by have h7:=lA (a:Int) sq L k;rw [hs8.len] at h7;omega,by have:=HBD.out;omega⟩).mono ?_
      rintro e w5 ⟨s2,rfl,ho2,hv2,he5⟩
      have hk:=hK.out (.agg (ssA s2)) _ (he5) (⟨s2,rfl,bJ ho2 (Nat.le_trans HAW.out.st.low.size hE.size),hv2⟩)
      try simp only [aO] at hk
      exact hk
     case mm1_5 =>
      refine zm [] (fun env W5 hE hS hD K hK=>?_)
      clear hD
      try simp only [aO]
      have t0:=(HAW.out.tx.ext hE).cell 0
      have t1:=(HAW.out.tx.ext hE).cell 1
      have t2:=(HAW.out.tx.ext hE).cell 2
      go_simp
      have hk:=hK.out (.agg (txA (a:Int) sq A n c)) _ (Ext.refl _) (rfl)
      try simp only [aO] at hk
      exact hk
     case mm1_7 =>
      refine zm [(4,some 29),(5,some 30)] (fun env W5 hE hS hD K hK=>?_)
      have h4:(fun v V=>∃ s2,v=.agg (ssA s2)∧OwnS V w.heap.size s2∧s2.V=nO s.V (dL (a:Int) sq L k)) (env 4) W5:=hD (4,some 29) (by simp)
      have h5:(fun v V=>v=.agg (txA (a:Int) sq A n c)) (env 5) W5:=hD (5,some 30) (by simp)
      clear hD
      try simp only [aO] at hK ⊢
      generalize env 4=x4 at h4 hK ⊢
      generalize env 5=x5 at h5 hK ⊢
      obtain ⟨s2,rfl,ho2,hv2⟩:=h4
      subst h5
      go_simp
      go_at_call 53
      refine (vU s2 (a:Int) sq A n c L k w.heap.size _ ho2 (Nat.le_trans HAW.out.st.low.size hE.size) (HS.out.ext (HAW.out.st.low.trans hE)) HKN.out HVT.out (aHE ho2 hv2 HAW.out.st.own HBD.out)).mono ?_
      rintro e w5 ⟨s3,rfl,ho3,hv3,he5⟩
      have hk:=hK.out (.agg (ssA s3)) _ (he5) (⟨s3,rfl,ho3,by rw [hv3,hv2];rfl⟩)
      try simp only [aO] at hk
      exact hk
    case hr1 =>
     intro env W5 hE hS hV
     have h0:(fun v V=>v=.agg (ssA s)) (env 0) W5:=hV (0,some 25) (by simp)
     have h1:(fun v V=>v=.agg (txA (a:Int) sq A n c)) (env 1) W5:=hV (1,some 26) (by simp)
     have h3:(fun v V=>∃ A5 n5 c5,v=.slice A5 n5 c5∧SlG V A5 n5 c5 (dL (a:Int) sq L k)) (env 3) W5:=hV (3,some 28) (by simp)
     have h4:(fun v V=>∃ s2,v=.agg (ssA s2)∧OwnS V w.heap.size s2∧s2.V=nO s.V (dL (a:Int) sq L k)) (env 4) W5:=hV (4,some 29) (by simp)
     have h5:(fun v V=>v=.agg (txA (a:Int) sq A n c)) (env 5) W5:=hV (5,some 30) (by simp)
     have h7:(fun v V=>∃ s2,v=.agg (ssA s2)∧OwnS V w.heap.size s2∧s2.V=doO (a:Int) sq L s.V k) (env 7) W5:=hV (7,some 32) (by simp)
     clear hV
     try simp only [aO]
     generalize env 0=x0 at h0 ⊢
     generalize env 1=x1 at h1 ⊢
     generalize env 3=x3 at h3 ⊢
     generalize env 4=x4 at h4 ⊢
     generalize env 5=x5 at h5 ⊢
     generalize env 7=x7 at h7 ⊢
     subst h0
     subst h1
     subst h5
     obtain ⟨A8,n8,c8,rfl,hs8⟩:=h3
     obtain ⟨s2,rfl,-,-⟩:=h4
     obtain ⟨s3,rfl,ho3,hv3⟩:=h7
     clear hs8
     have aA:=hS
     refine za 8 (fun K hK=>?_)
     (refine bC rfl (.tmp 2) (.tmp 32) (by rfl) w.heap.size (.agg (ssA s3)) s3 rfl (by rfl) (by rfl) (HAW.out.st.blk.ext hE) ?_;intro W6 h6)
     refine hK.out _ _ (trivial) (fun aA=>?_)
     clear hK K
     try simp only [aS]
     refine wpAnyH_done (by kernel_rfl) ?_ _
     have HF:=zh (show RepS w W6 (a:Int) sq A n c L s0.V (k+1) s3 from by
      rw [← h6.out.1]
      exact ⟨StB.start ho3 (HAW.out.st.blk.ext hE) (HAW.out.st.low.trans hE) (Nat.le_refl _),(HAW.out.tx.ext hE).grown (aC _ _ _ _) (fun e=>by injection e;omega),(by obtain ⟨z,hz⟩:=HAW.out.res;exact ⟨z,(hz.ext hE).grown (aC _ _ _ _) (fun e=>by injection e;omega)⟩),by rw [hv3,mU,← HA.out.v]⟩)
     clear h6 ho3 hv3 hE hS aA HAW
     go_wp2_with fail
     go_roundw
     case rel=>exact ⟨k+1,s3,by go_num,hlt,HF⟩
     case measure=>simp [intOf];omega
   obtain rfl:n=k:=by omega
   have i1:¬ (n:Int) < (n:Int):=by omega
   obtain ⟨q0,q1,q2,q3,q4⟩:=aE HA.out.st.blk
   have t0:=HA.out.tx.cell 0
   have t1:=HA.out.tx.cell 1
   have t2:=HA.out.tx.cell 2
   have HQL:=zh (show s.Q.length=s.n2 from HA.out.st.own.l2)
   by_cases haq:a < s.n2
   ·have i2 : (a : Int) < (s.n2 : Int) := by omega
    have i3:(0:Int)≤(a:Int):=by omega
    obtain ⟨bb,hA2,-,-⟩:=cF HA.out.st.own.o2 (by omega)
    have HBB:=zh hA2
    have HAN:=zh haq
    have hb5:wr.ownsRow w.heap.size 3 1 (.slice (some ⟨bb,0,none⟩) s.n2 s.c2) s.n2 (gcs s.Q):=by have:=HA.out.st.own.o2;rwa [hA2] at this
    have HN1:=zh (show w.heap.size ≠ bb from fun e=>aI hb5 HA.out.st.blk (by decide) (by rw [e];rfl))
    have HN2:=zh (show w.heap.size+1 ≠ bb from fun e=>aI hb5 HA.out.tx (by decide) (by rw [e];rfl))
    have HN3:=zh (show w.heap.size+2 ≠ bb from fun e=>aI hb5 HA.out.res.choose_spec (by decide) (by rw [e];rfl))
    have HN4:=zh (show w.heap.size≤bb from (World.ownsRow.lt hb5 bb rfl).1)
    clear hA2 hb5
    go_upto_region 10 with fail
    clear q0 q1 q2 q3 q4 t0 t1 t2
    refine wp_region_held_drew (S:=fun V=>Blk V w.heap.size 44 (ssA s)∧Blk V (w.heap.size+1) 24 (txA (a:Int) sq A n c)∧(∃ z,Blk V (w.heap.size+2) 44 (ssA z))∧Ext w V) (by kernel_rfl) (⟨HA.out.st.blk.drew,HA.out.tx.drew,⟨_,HA.out.res.choose_spec.drew⟩,HA.out.st.low.trans ((Ext.refl _).drew')⟩) (fun aA=>?_)
    refine zz0 [0,1,2,3,4,5,6,7,8,10,11] ?_;repeat first | refine zz1 ?_ (hy:=by intro W aM;have q1:W.cell? ⟨w.heap.size,1,none⟩=some (.slice (some ⟨bb,0,none⟩) s.n2 s.c2):=(by rw [← HBB.out];exact aM.1.cell 1);have t0:=aM.2.1.cell 0;have t1:=aM.2.1.cell 1;have t2:=aM.2.1.cell 2;go_simp <;> with_reducible rfl) | refine zz2 ?_ | refine zz9 ?_
    refine zu 12 (v:=.int .i64 (sq+1)) aA ?_ (hy:=by refine .inl ⟨by rfl,fun V _=>?_⟩;go_simp;exact gT ⟨by omega,by omega⟩)
    refine cJ (VV 9 (fun v V=>v=.int .i64 (nthG s.Q a)) (VN)) [(9,some 49)] (fuel:=3) (by kernel_rfl) (by kernel_rfl) (fun V V' h e=>⟨h.1.ext e,h.2.1.ext e,(by obtain ⟨z,hz⟩:=h.2.2.1;exact ⟨z,hz.ext e⟩),h.2.2.2.trans e⟩) (VV.ext (fun v w w' h e=>h) (VN.ext)) aA ?hm2 rfl ?hr2
    case hm2 =>
     refine Members.cons ?mm2_9 (Members.nil _)
     case mm2_9 =>
      refine zm [] (fun env W hE hS hD K hK=>?_)
      clear hD
      try simp only [aO]
      have c9:=tU (HA.out.st.own.ext (((Ext.refl _).drew').trans hE)) HBB.out HAN.out
      go_simp
      have hk:=hK.out (.int .i64 (nthG s.Q a)) _ (Ext.refl _) (rfl)
      try simp only [aO] at hk
      exact hk
    case hr2 =>
     intro env W hE hS hV
     have h9:(fun v V=>v=.int .i64 (nthG s.Q a)) (env 9) W:=hV (9,some 49) (by simp)
     clear hV
     try simp only [aO]
     generalize env 9=x9 at h9 ⊢
     subst h9
     have aA:=hS
     refine zz0 [13,14] ?_;repeat first | refine zz1 ?_ (hy:=by intro W aM;have q1:W.cell? ⟨w.heap.size,1,none⟩=some (.slice (some ⟨bb,0,none⟩) s.n2 s.c2):=(by rw [← HBB.out];exact aM.1.cell 1);have t0:=aM.2.1.cell 0;have t1:=aM.2.1.cell 1;have t2:=aM.2.1.cell 2;go_simp <;> with_reducible rfl) | refine zz2 ?_ | refine zz9 ?_
     refine za 15 (fun K hK=>?_)
     (have c9:=tU (HA.out.st.own.ext (((Ext.refl _).drew').trans hE)) HBB.out HAN.out;have f9:=tT (HA.out.st.own.ext (((Ext.refl _).drew').trans hE)) HBB.out a;go_simp)
     refine hK.out _ _ (⟨aA.1.far (p:=⟨bb,a,none⟩) HN1.out _,aA.2.1.far (p:=⟨bb,a,none⟩) HN2.out _,(by obtain ⟨z,hz⟩:=aA.2.2.1;exact ⟨z,hz.far (p:=⟨bb,a,none⟩) HN3.out _⟩),Below.setCell aA.2.2.2 (p:=⟨bb,a,none⟩) HN4.out _⟩) (fun aA=>?_)
     clear hK K
     try simp only [aS]
     refine wpAnyH_done (by kernel_rfl) ?_ _
     obtain ⟨zq,hzq⟩:∃ zq:Int,(if nthG s.Q a < sq+1 then sq+1 else nthG s.Q a)=zq:=⟨_,rfl⟩
     have hmx:max (nthG s.Q a) (sq+1)=zq:=by rw [← hzq];split <;> omega
     first | rw [hzq] at aA ⊢ | rw [hmx] at aA ⊢
     clear hmx
     have hzw:wfI zq:=by
      rw [← hzq]
      split
      ·exact fH.2 ⟨by omega,by omega⟩
      exact HA.out.st.own.k2 _ (gE (by rw [HQL.out];exact HAN.out))
     have HS4:=zh ((HA.out.st.ext (((Ext.refl _).drew').trans hE)).cell2 HBB.out a zq hzw HAN.out)
     obtain ⟨W9,hW9⟩:∃ W9,W.setCell ⟨bb,a,none⟩ (.int .i64 zq)=W9:=⟨_,rfl⟩
     rw [hW9] at aA HS4 ⊢
     have HT9:=zh aA.2.1
     have HR9:=zh aA.2.2.1
     have HX9:=zh aA.2.2.2
     obtain ⟨s4,hs4⟩:∃ s4:StR,{ s with Q:=s.Q.set a zq }=s4:=⟨_,rfl⟩
     have HV4:=zh (show (⟨s4.C,s4.Q,s4.K,cM s4.P (bQ (a:Int) sq L),s4.G⟩:StV)=gQ s0.V (a:Int) sq L from by
      rw [HREP.out,HLEN.out,← HA.out.v,← hs4]
      show _=(⟨s.C,jO s.Q (a:Int) sq,s.K,cM s.P (bQ (a:Int) sq L),s.G⟩:StV)
      rw [aKa (by rw [HQL.out];exact HAN.out),hzq])
     have HB4:=zh (show s4.n1≤1000000∧s4.n2≤1000000∧s4.n3≤1000000∧s4.n4≤1000000 from by
      rw [← hs4]
      have:=HBD.out
      show s.n1≤1000000∧s.n2≤1000000∧s.n3≤1000000∧s.n4≤1000000
      omega)
     rw [hs4] at HS4
     have HB9:=zh HS4.out.blk
     have HO4:=zh HS4.out.own
     obtain ⟨q0,q1,q2,q3,q4⟩:=aE HS4.out.blk
     have t0:=HT9.out.cell 0
     have t1:=HT9.out.cell 1
     have t2:=HT9.out.cell 2
     clear hs4 hW9 hzq hzw aA hE hS HS4
     go_upto_region 11 with fail
     refine wp_region_held_drew (S:=fun V=>Blk V w.heap.size 44 (ssA s4)∧Blk V (w.heap.size+1) 24 (txA (a:Int) sq A n c)∧(∃ z,Blk V (w.heap.size+2) 44 (ssA z))∧Ext w V) (by kernel_rfl) (⟨HB9.out.drew,HT9.out.drew,⟨_,HR9.out.choose_spec.drew⟩,HX9.out.trans ((Ext.refl _).drew')⟩) (fun aA=>?_)
     refine zz0 [0,1] ?_;repeat first | refine zz1 ?_ (hy:=by intro W aM;obtain ⟨q0,q1,q2,q3,q4⟩:=aE aM.1;have t0:=aM.2.1.cell 0;have t1:=aM.2.1.cell 1;have t2:=aM.2.1.cell 2;go_simp <;> with_reducible rfl) | refine zz2 ?_ | refine zz9 ?_
     refine cJ (VV 2 (fun v V=>v=.agg (nmc (bQ (a:Int) sq L))) (VV 3 (fun v V=>∃ s5,v=.agg (ssA s5)∧OwnS V w.heap.size s5∧s5.V=⟨s4.C,s4.Q,s4.K,cM s4.P (bQ (a:Int) sq L),s4.G⟩) (VN))) [(2,some 57),(3,some 58)] (fuel:=1) (by kernel_rfl) (by kernel_rfl) (fun V V' h e=>⟨h.1.ext e,h.2.1.ext e,(by obtain ⟨z,hz⟩:=h.2.2.1;exact ⟨z,hz.ext e⟩),h.2.2.2.trans e⟩) (VV.ext (fun v w w' h e=>h) (VV.ext (fun v w w' ⟨s2,h1,h2,h3⟩ e=>⟨s2,h1,h2.ext e,h3⟩) (VN.ext))) aA ?hm6 rfl ?hr6
     case hm6 =>
      refine Members.cons ?mm6_2 (Members.cons ?mm6_3 (Members.nil _))
      case mm6_2 =>
       refine zm [] (fun env W hE hS hD K hK=>?_)
       clear hD
       try simp only [aO]
       go_simp
       go_at_call 56
       refine (eS (a:Int) sq A n c L _ (HS.out.ext hS.2.2.2)).mono ?_
       rintro e w5 ⟨rfl,he5⟩
       have hk:=hK.out (.agg (nmc (bQ (a:Int) sq L))) _ (he5) (rfl)
       try simp only [aO] at hk
       exact hk
      case mm6_3 =>
       refine zm [(2,some 57)] (fun env W hE hS hD K hK=>?_)
       have h2:(fun v V=>v=.agg (nmc (bQ (a:Int) sq L))) (env 2) W:=hD (2,some 57) (by simp)
       clear hD
       try simp only [aO] at hK ⊢
       generalize env 2=x2 at h2 hK ⊢
       subst h2
       go_simp
       go_at_call 55
       refine (oE s4 (bQ (a:Int) sq L) _ (HO4.out.ok.ext (((Ext.refl _).drew').trans hE)) HB4.out).mono ?_
       rintro e w5 ⟨s5,rfl,ho5,hv5,he5⟩
       have hk:=hK.out (.agg (ssA s5)) _ (he5) (⟨s5,rfl,bJ ho5 hS.2.2.2.size,hv5⟩)
       try simp only [aO] at hk
       exact hk
     case hr6 =>
      intro env W hE hS hV
      have h2:(fun v V=>v=.agg (nmc (bQ (a:Int) sq L))) (env 2) W:=hV (2,some 57) (by simp)
      have h3:(fun v V=>∃ s5,v=.agg (ssA s5)∧OwnS V w.heap.size s5∧s5.V=⟨s4.C,s4.Q,s4.K,cM s4.P (bQ (a:Int) sq L),s4.G⟩) (env 3) W:=hV (3,some 58) (by simp)
      clear hV
      try simp only [aO]
      generalize env 2=x2 at h2 ⊢
      generalize env 3=x3 at h3 ⊢
      subst h2
      obtain ⟨s5,rfl,ho5,hv5⟩:=h3
      have aA:=hS
      refine za 4 (fun K hK=>?_)
      (obtain ⟨z6,hz6⟩:=aA.2.2.1;refine bC rfl (.tmp 4) (.tmp 58) (by rfl) (w.heap.size+2) (.agg (ssA s5)) s5 rfl (by rfl) (by rfl) hz6 ?_;intro W6 h6)
      refine hK.out _ _ (⟨aA.1.grown (by rw [← h6.out.1];exact aC _ _ _ _) (fun e=>by injection e;omega),aA.2.1.grown (by rw [← h6.out.1];exact aC _ _ _ _) (fun e=>by injection e;omega),⟨_,h6.out.2⟩,by rw [← h6.out.1];exact Below.setCells' aA.2.2.2 (by omega) _ _⟩) (fun aA=>?_)
      clear hK K
      try simp only [aS]
      refine wpAnyH_done (by kernel_rfl) ?_ _
      have HOW:=zh (show OwnS W6 w.heap.size s5 from by
       rw [← h6.out.1]
       exact ho5.kept (aC _ _ _ _) hz6 (by decide) (by decide) (by decide) (by decide))
      have HV5:=zh hv5
      have HXE:=zh aA.2.2.2
      have hst:=h6.out.2
      clear h6 ho5 hv5 hE hS aA hz6
      go_wp2_with fail
      exact bodyPost_ret (v:=.agg (ssA s5)) (gB rfl _ _ (w.heap.size+2) _ rfl (run_loadVar_row _ _ _ _ _ (0,0) _ hst Tryz.underlying44 rfl (by kernel_rfl))) rfl ⟨s5,rfl,HOW.out,by rw [HV5.out,HV4.out],HXE.out⟩
   have i2:¬ (a:Int) < (s.n2:Int):=by omega
   have HV4:=zh (show (⟨s.C,s.Q,s.K,cM s.P (bQ (a:Int) sq L),s.G⟩:StV)=gQ s0.V (a:Int) sq L from by
    rw [HREP.out,HLEN.out,← HA.out.v]
    show _=(⟨s.C,jO s.Q (a:Int) sq,s.K,cM s.P (bQ (a:Int) sq L),s.G⟩:StV)
    rw [aIf (by rw [HQL.out];exact haq)])
   have HB4:=zh (show s.n1≤1000000∧s.n2≤1000000∧s.n3≤1000000∧s.n4≤1000000 from by have:=HBD.out;omega)
   go_upto_region 11 with fail
   obtain ⟨s4,hs4⟩:∃ s4,s=s4:=⟨_,rfl⟩
   subst hs4
   have HB9:=zh HA.out.st.blk
   have HT9:=zh HA.out.tx
   have HR9:=zh HA.out.res
   have HX9:=zh HA.out.st.low
   have HO4:=zh HA.out.st.own
   refine wp_region_held_drew (S:=fun V=>Blk V w.heap.size 44 (ssA s)∧Blk V (w.heap.size+1) 24 (txA (a:Int) sq A n c)∧(∃ z,Blk V (w.heap.size+2) 44 (ssA z))∧Ext w V) (by kernel_rfl) (⟨HB9.out.drew,HT9.out.drew,⟨_,HR9.out.choose_spec.drew⟩,HX9.out.trans ((Ext.refl _).drew')⟩) (fun aA=>?_)
   refine zz0 [0,1] ?_;repeat first | refine zz1 ?_ (hy:=by intro W aM;obtain ⟨q0,q1,q2,q3,q4⟩:=aE aM.1;have t0:=aM.2.1.cell 0;have t1:=aM.2.1.cell 1;have t2:=aM.2.1.cell 2;go_simp <;> with_reducible rfl) | refine zz2 ?_ | refine zz9 ?_
   refine cJ (VV 2 (fun v V=>v=.agg (nmc (bQ (a:Int) sq L))) (VV 3 (fun v V=>∃ s5,v=.agg (ssA s5)∧OwnS V w.heap.size s5∧s5.V=⟨s.C,s.Q,s.K,cM s.P (bQ (a:Int) sq L),s.G⟩) (VN))) [(2,some 57),(3,some 58)] (fuel:=1) (by kernel_rfl) (by kernel_rfl) (fun V V' h e=>⟨h.1.ext e,h.2.1.ext e,(by obtain ⟨z,hz⟩:=h.2.2.1;exact ⟨z,hz.ext e⟩),h.2.2.2.trans e⟩) (VV.ext (fun v w w' h e=>h) (VV.ext (fun v w w' ⟨s2,h1,h2,h3⟩ e=>⟨s2,h1,h2.ext e,h3⟩) (VN.ext))) aA ?hm7 rfl ?hr7
   case hm7 =>
    refine Members.cons ?mm7_2 (Members.cons ?mm7_3 (Members.nil _))
    case mm7_2 =>
     refine zm [] (fun env W hE hS hD K hK=>?_)
     clear hD
     try simp only [aO]
     go_simp
     go_at_call 56
     refine (eS (a:Int) sq A n c L _ (HS.out.ext hS.2.2.2)).mono ?_
     rintro e w5 ⟨rfl,he5⟩
     have hk:=hK.out (.agg (nmc (bQ (a:Int) sq L))) _ (he5) (rfl)
     try simp only [aO] at hk
     exact hk
    case mm7_3 =>
     refine zm [(2,some 57)] (fun env W hE hS hD K hK=>?_)
     have h2:(fun v V=>v=.agg (nmc (bQ (a:Int) sq L))) (env 2) W:=hD (2,some 57) (by simp)
     clear hD
     try simp only [aO] at hK ⊢
     generalize env 2=x2 at h2 hK ⊢
     subst h2
     go_simp
     go_at_call 55
     refine (oE s (bQ (a:Int) sq L) _ (HO4.out.ok.ext (((Ext.refl _).drew').trans hE)) HB4.out).mono ?_
     rintro e w5 ⟨s5,rfl,ho5,hv5,he5⟩
     have hk:=hK.out (.agg (ssA s5)) _ (he5) (⟨s5,rfl,bJ ho5 hS.2.2.2.size,hv5⟩)
     try simp only [aO] at hk
     exact hk
   case hr7 =>
    intro env W hE hS hV
    have h2:(fun v V=>v=.agg (nmc (bQ (a:Int) sq L))) (env 2) W:=hV (2,some 57) (by simp)
    have h3:(fun v V=>∃ s5,v=.agg (ssA s5)∧OwnS V w.heap.size s5∧s5.V=⟨s.C,s.Q,s.K,cM s.P (bQ (a:Int) sq L),s.G⟩) (env 3) W:=hV (3,some 58) (by simp)
    clear hV
    try simp only [aO]
    generalize env 2=x2 at h2 ⊢
    generalize env 3=x3 at h3 ⊢
    subst h2
    obtain ⟨s5,rfl,ho5,hv5⟩:=h3
    have aA:=hS
    refine za 4 (fun K hK=>?_)
    (obtain ⟨z6,hz6⟩:=aA.2.2.1;refine bC rfl (.tmp 4) (.tmp 58) (by rfl) (w.heap.size+2) (.agg (ssA s5)) s5 rfl (by rfl) (by rfl) hz6 ?_;intro W6 h6)
    refine hK.out _ _ (⟨aA.1.grown (by rw [← h6.out.1];exact aC _ _ _ _) (fun e=>by injection e;omega),aA.2.1.grown (by rw [← h6.out.1];exact aC _ _ _ _) (fun e=>by injection e;omega),⟨_,h6.out.2⟩,by rw [← h6.out.1];exact Below.setCells' aA.2.2.2 (by omega) _ _⟩) (fun aA=>?_)
    clear hK K
    try simp only [aS]
    refine wpAnyH_done (by kernel_rfl) ?_ _
    have HOW:=zh (show OwnS W6 w.heap.size s5 from by
     rw [← h6.out.1]
     exact ho5.kept (aC _ _ _ _) hz6 (by decide) (by decide) (by decide) (by decide))
    have HV5:=zh hv5
    have HXE:=zh aA.2.2.2
    have hst:=h6.out.2
    clear h6 ho5 hv5 hE hS aA hz6
    go_wp2_with fail
    exact bodyPost_ret (v:=.agg (ssA s5)) (gB rfl _ _ (w.heap.size+2) _ rfl (run_loadVar_row _ _ _ _ _ (0,0) _ hst Tryz.underlying44 rfl (by kernel_rfl))) rfl ⟨s5,rfl,HOW.out,by rw [HV5.out,HV4.out],HXE.out⟩
end
end Go.Proofs.YtohmmcahpakokaaGreat
