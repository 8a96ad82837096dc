import Derived.Test.YtgmnmjeccfnmbaaGreatE18
set_option maxRecDepth 100000
set_option maxHeartbeats 8000000
set_option linter.unusedVariables false
set_option linter.unusedSimpArgs false
namespace Go.Proofs.YtgmnmjeccfnmbaaGreat
open Go.Proofs.Tryz
section
open Go.RowKit
attribute [local go_sem ↓] Go.wp_at_zero Go.wp_at_succ
theorem aEi (S:StV) (l:List DeR):(mV S l).C.length≤S.C.length+l.length:=mW l S.C
theorem aHd (K:List LkR) (d:LkR):(fL K d).length≤K.length+1:=by
 have hi:∀ (p:LkR→Bool) (x:LkR) (L:List LkR),(gW p x L).length=L.length+1:=fun p x L=>by
  induction L with
  | nil=>rfl
  | cons y r ih=>unfold gW;split <;> simp [ih]
 unfold fL
 split
 ·rw [hi];exact Nat.le_refl _
 exact Nat.le_succ _
theorem yN (n:UInt64):∀ (K:List LkR),(fC n K).length≤K.length
 | []=>Nat.le_refl _
 | d :: r=>by
  have:=yN n r
  unfold fC;split <;> simp only [List.length_cons] <;> omega
theorem aKK (ac sq:Int) (L:List OpR) (S:StV) (i:Nat):(gY ac sq L S i).C.length≤S.C.length+20∧(gY ac sq L S i).K.length≤S.K.length+1:=by
 unfold gY
 split
 ·exact ⟨Nat.le_add_right _ _,aHd _ _⟩
 split
 ·exact ⟨Nat.le_add_right _ _,Nat.le_trans (yN _ _) (Nat.le_succ _)⟩
 split
 ·refine ⟨aBO _ _ 10, ?_⟩
  unfold yE
  rw [aJm];exact Nat.le_succ _
 exact ⟨Nat.le_add_right _ _,Nat.le_succ _⟩
theorem aBY (ac sq:Int) (L:List OpR) (S:StV) (k:Nat):(doN ac sq L S k).C.length≤S.C.length+22 * k∧(doN ac sq L S k).K.length≤S.K.length+k:=by
 induction k with
 | zero=>exact ⟨Nat.le_refl _,Nat.le_refl _⟩
 | succ k ih =>
  rw [oW]
  unfold doO
  have h1:=aKK ac sq L (mV (doN ac sq L S k) (cP ac sq L k)) k
  have h2:=aEi (doN ac sq L S k) (cP ac sq L k)
  have h3:=kE ac sq L k
  have h4:(mV (doN ac sq L S k) (cP ac sq L k)).K=(doN ac sq L S k).K:=rfl
  rw [h4] at h1
  omega
theorem aJG {w w':World} {base base':Nat} {s s2:StR} {ac sq:Int} {L:List OpR} {k:Nat} (h2:OwnS w base s2) (hv:s2.V=mV s.V (cP ac sq L k)) (h:OwnS w' base' s) (hb:s.n1≤500000∧s.n2≤500000∧s.n3≤500000∧s.n4≤500000):s2.n1≤900000∧s2.n2≤1000000∧s2.n3≤1000000∧s2.n4≤1000000:=by
 have e1:s2.C=_:=congrArg StV.C hv
 have e2:s2.Q=s.Q:=congrArg StV.Q hv
 have e3:s2.K=s.K:=congrArg StV.K hv
 have e4:s2.P=s.P:=congrArg StV.P hv
 have m1:=h2.l1
 have m2:=h2.l2
 have m3:=h2.l3
 have m4:=h2.l4
 have l1:=h.l1
 have l2:=h.l2
 have l3:=h.l3
 have l4:=h.l4
 rw [e1] at m1;rw [e2] at m2;rw [e3] at m3;rw [e4] at m4
 have h3:=kE ac sq L k
 have h5:=aEi s.V (cP ac sq L k)
 have e6:s.V.C=s.C:=rfl
 rw [e6] at h5
 omega
theorem rN {w:World} {base:Nat} {s:StR} (h:OwnS w base s) {bb a:Nat} (hA:s.A2=some ⟨bb,0,none⟩) (ha:a < s.n2):w.cell? ⟨bb,a,none⟩=some (.int .i64 (aS s.Q a)):=by
 obtain ⟨b3,hA3,-,hr3⟩:=cM h.o2 aa
 have h5:w.rangeAt b3 (0+a * 1) (RowT.enc (aS s.Q a)):=cN hr3 (by rw [h.l2];exact ha)
 rw [hA] at hA3
 obtain rfl:bb=b3:=td
 have h7:=h5 0 _ rfl
 rwa [show 0+a * 1+0=a from aa] at h7
theorem qH {w:World} {base:Nat} {s:StR} (h:OwnS w base s) {bb:Nat} (hA:s.A2=some ⟨bb,0,none⟩) (a:Nat):w.frozen? ⟨bb,a,none⟩=false:=by
 have h5:w.ownsRow base 3 1 (.slice (some ⟨bb,0,none⟩) s.n2 s.c2) s.n2 (gcs s.Q):=by have:=h.o2;rwa [hA] at this
 exact h5.frozenAt _
theorem aMd {Q:List Int} {a:Nat} {sq:Int} (h:a < Q.length):aDl Q (a:Int) sq=Q.set a (if aS Q a < sq+1 then sq+1 else aS Q a):=by
 unfold aDl
 rw [if_pos aa]
 have e:Q.getD (a:Int).toNat 0=aS Q a:=rfl
 rw [e,Int.toNat_natCast]
 congr 1
 split <;> omega
theorem aKj {Q:List Int} {a:Nat} {sq:Int} (h:¬ a < Q.length):aDl Q (a:Int) sq=Q:=by
 unfold aDl;rw [if_neg aa]
structure RepS (w wr:World) (ac sq:Int) (A:Option Addr) (n c:Nat) (L:List OpR) (S0:StV) (k:Nat) (s:StR):Prop where
 st:StB w wr w.heap.size s
 tx:Blk wr (w.heap.size+1) 33 (txA ac sq A n c)
 res:∃ z,Blk wr (w.heap.size+2) 30 (ssA z)
 v:s.V=doN ac sq L S0 k
theorem RepS.ext {w wr w':World} {ac sq:Int} {A:Option Addr} {n c:Nat} {L:List OpR} {S0:StV} {k:Nat} {s:StR} (h:RepS w wr ac sq A n c L S0 k s) (e:Ext wr w'):RepS w w' ac sq A n c L S0 k s:=⟨h.st.ext e,h.tx.ext e,(by obtain ⟨z,hz⟩:=h.res;exact ⟨z,hz.ext e⟩),h.v⟩
theorem RepS.bd {w wr:World} {ac sq:Int} {A:Option Addr} {n c:Nat} {L:List OpR} {s0:StR} {k:Nat} {s:StR} {w':World} (h:RepS w wr ac sq A n c L s0.V k s) (h0:s0.ok w') (hk:k≤4) (hn:s0.n1≤200000∧s0.n2≤200000∧s0.n3≤200000∧s0.n4≤200000):s.n1≤500000∧s.n2≤500000∧s.n3≤500000∧s.n4≤500000:=by
 have e1:s.C=_:=congrArg StV.C h.v
 have e2:s.Q=s0.Q:=(congrArg StV.Q h.v).trans (oX ..).1
 have e3:s.K=_:=congrArg StV.K h.v
 have e4:s.P=s0.P:=(congrArg StV.P h.v).trans (oX ..).2
 have m1:=h.st.own.l1
 have m2:=h.st.own.l2
 have m3:=h.st.own.l3
 have m4:=h.st.own.l4
 have l1:=h0.s1.len
 have l2:=h0.s2.len
 have l3:=h0.s3.len
 have l4:=h0.s4.len
 rw [e1] at m1;rw [e2] at m2;rw [e3] at m3;rw [e4] at m4
 have h5:=aBY ac sq L s0.V k
 have e6:s0.V.C=s0.C:=rfl
 have e7:s0.V.K=s0.K:=rfl
 rw [e6,e7] at h5
 omega
theorem aEL (s0:StR) (ac sq:Int) (A:Option Addr) (n c:Nat) (L:List OpR) (w:World) (h:s0.ok w) (hS:SlO w A n c L) (hn:s0.n1≤200000∧s0.n2≤200000∧s0.n3≤200000∧s0.n4≤200000) :
  Calls prog 15 #[.agg (ssA s0),.agg (txA ac sq A n c)] w (jB w (pL s0.V ac sq L)):=by
 have HS0:=zh h
 have HN:=zh hn
 have HS:=zh hS
 have hle:=hS.le
 have hcap:=hS.cap
 have HLEN:=zh hS.len
 obtain ⟨W,hW⟩:=gx (((w.alloc (.cells (ssA s0) 30)).alloc (.cells (txA ac sq A n c) 33)).alloc (.cells #[.slice none 0 0,.slice none 0 0,.slice none 0 0,.slice none 0 0,.int .i64 0] 30))
 have HB:=zh (show Blk W w.heap.size 30 (ssA s0) from cf)
 have HT:=zh (show Blk W (w.heap.size+1) 33 (txA ac sq A n c) from aw)
 have HR:=zh (show Blk W (w.heap.size+2) 30 (ssA ss0) from ag)
 have HE:=zh (show Ext w W from bc)
 have HVAL:=zh (fun (V:World) (e:Ext w V)=>fI ac sq A n c L V (HS.out.ext e))
 clear h hn hS
 cases hv:vTx ac sq L with
 | false =>
  have HREP:=zh (show pL s0.V ac sq L=s0.V from by unfold pL;rw [if_pos (.inl hv)])
  rw [hv] at HVAL
  have HVAL:=zh (show ∀ (V:World),Ext w V→Calls prog 49 #[.agg (txA ac sq A n c)] V (fun e w'=>e=.returned (.int .i64 1)∧Ext V w') from HVAL.out)
  clear hv
  go_enter func15,ntmps15
  go_upto_region 1 with (fail)
  clear hW
  refine wp_region_held_drew (S:=fun V=>Blk V w.heap.size 30 (ssA s0)∧Blk V (w.heap.size+1) 33 (txA ac sq A n c)∧(∃ z,Blk V (w.heap.size+2) 30 (ssA z))∧Ext w V) ab (⟨HB.out.drew,HT.out.drew,⟨_,HR.out.drew⟩,HE.out.trans ((Ext.refl _).drew')⟩) (fun aA=>?_)
  refine zz0 [0] ?_;repeat first | refine zz1 ?_ (hy:=an) | refine zz2 ?_ | refine zz9 ?_
  refine zzj (VE 1 (.int .i64 1) VN) [(1,some 7)] 7 (fun V V' h e=>⟨h.1.ext e,h.2.1.ext e,cv,h.2.2.2.trans e⟩) (ve VN.ext) (zzc ?_ zzn) ?_
  ·refine zzp fun W hE hS K hK => ?_
   go_simp
   go_at_call 49
   refine zcl (HVAL.out _ hS.2.2.2) fun w5 he5=>?_
   exact zzK (hK.out (.int .i64 1) _ (he5) (rfl))
  intro env W hE hS hV
  obtain ⟨h1,-⟩:=zzV hV
  clear hV
  simp only [aR,h1]
  clear h1
  have aA:=hS
  refine zzr [2,3] ?_
  (refine zs 4 aA ?_)
  (refine zs 5 aA ?_)
  (refine zs 6 aA ?_)
  (refine zs 7 aA ?_)
  exact uc
 | true =>
  rw [hv] at HVAL
  have HVAL:=zh (show ∀ (V:World),Ext w V→Calls prog 49 #[.agg (txA ac sq A n c)] V (fun e w'=>e=.returned (.int .i64 0)∧Ext V w') from HVAL.out)
  obtain ⟨⟨a1,a2,a3,a4,a5,a6⟩,-⟩:=dX hv
  obtain ⟨a,rfl⟩:∃ a:Nat,ac=(a:Int):=⟨ac.toNat,aa⟩
  have HVT:=zh hv
  have hn4:n≤4:=fj
  have HN4:=zh hn4
  clear hv
  by_cases hm:(cG (a:Int) sq L) ∈ s0.P
  ·have HREP := zh (show pL s0.V (a : Int) sq L = s0.V from by unfold pL; rw [if_pos (.inr hm)])
   have HAPP:=zh (fun (V:World) (e:Ext w V)=>gU s0 (cG (a:Int) sq L) V (HS0.out.ext e))
   rw [decide_eq_true hm] at HAPP
   clear hm
   go_enter func15,ntmps15
   go_upto_region 1 with (fail)
   clear hW
   refine wp_region_held_drew (S:=fun V=>Blk V w.heap.size 30 (ssA s0)∧Blk V (w.heap.size+1) 33 (txA (a:Int) sq A n c)∧(∃ z,Blk V (w.heap.size+2) 30 (ssA z))∧Ext w V) ab (⟨HB.out.drew,HT.out.drew,⟨_,HR.out.drew⟩,HE.out.trans ((Ext.refl _).drew')⟩) (fun aA=>?_)
   refine zz0 [0] ?_;repeat first | refine zz1 ?_ (hy:=an) | refine zz2 ?_ | refine zz9 ?_
   refine zzj (VE 1 (.int .i64 0) VN) [(1,some 7)] 7 (fun V V' h e=>⟨h.1.ext e,h.2.1.ext e,cv,h.2.2.2.trans e⟩) (ve VN.ext) (zzc ?_ zzn) ?_
   ·exact CC
   intro env W hE hS hV
   obtain ⟨h1,-⟩:=zzV hV
   clear hV
   simp only [aR,h1]
   clear h1
   have aA:=hS
   refine zz0 [2,3,4,5] ?_;repeat first | refine zz1 ?_ (hy:=an) | refine zz2 ?_ | refine zz9 ?_
   refine za 6 (fun K hK=>?_)
   (go_simp;go_at_call 31;refine (fV (a:Int) sq A n c L _ (HS.out.ext aA.2.2.2)).mono ?_;rintro e w8 ⟨rfl,he8⟩)
   refine hK.out _ _ (⟨aA.1.ext he8,aA.2.1.ext he8,ep,aA.2.2.2.trans he8⟩) (fun aA=>?_)
   clear hK K
   try simp only [bB]
   refine za 7 (fun K hK=>?_)
   (go_simp;go_at_call 50;refine (HAPP.out _ aA.2.2.2).mono ?_;rintro e w8 ⟨rfl,he8⟩)
   refine hK.out _ _ (⟨aA.1.ext he8,aA.2.1.ext he8,ep,aA.2.2.2.trans he8⟩) (fun aA=>?_)
   clear hK K
   try simp only [bB]
   exact uc
  have HREP:=zh (show pL s0.V (a:Int) sq L=⟨(doN (a:Int) sq L s0.V L.length).C,aDl (doN (a:Int) sq L s0.V L.length).Q (a:Int) sq,(doN (a:Int) sq L s0.V L.length).K,dW (doN (a:Int) sq L s0.V L.length).P (cG (a:Int) sq L),(doN (a:Int) sq L s0.V L.length).G⟩ from by
   unfold pL
   rw [if_neg (fun h=>h.elim (fun h=>by rw [HVT.out] at h;cases h) hm)])
  have HAPP:=zh (fun (V:World) (e:Ext w V)=>gU s0 (cG (a:Int) sq L) V (HS0.out.ext e))
  rw [decide_eq_false hm] at HAPP
  clear hm
  go_enter func15,ntmps15
  go_upto_region 1 with (fail)
  clear hW
  refine wp_region_held_drew (S:=fun V=>Blk V w.heap.size 30 (ssA s0)∧Blk V (w.heap.size+1) 33 (txA (a:Int) sq A n c)∧(∃ z,Blk V (w.heap.size+2) 30 (ssA z))∧Ext w V) ab (⟨HB.out.drew,HT.out.drew,⟨_,HR.out.drew⟩,HE.out.trans ((Ext.refl _).drew')⟩) (fun aA=>?_)
  refine zz0 [0] ?_;repeat first | refine zz1 ?_ (hy:=an) | refine zz2 ?_ | refine zz9 ?_
  refine zzj (VE 1 (.int .i64 0) VN) [(1,some 7)] 7 (fun V V' h e=>⟨h.1.ext e,h.2.1.ext e,cv,h.2.2.2.trans e⟩) (ve VN.ext) (zzc ?_ zzn) ?_
  ·exact CC
  intro env W hE hS hV
  obtain ⟨h1,-⟩:=zzV hV
  clear hV
  simp only [aR,h1]
  clear h1
  have aA:=hS
  refine zz0 [2,3,4,5] ?_;repeat first | refine zz1 ?_ (hy:=an) | refine zz2 ?_ | refine zz9 ?_
  refine za 6 (fun K hK=>?_)
  (go_simp;go_at_call 31;refine (fV (a:Int) sq A n c L _ (HS.out.ext aA.2.2.2)).mono ?_;rintro e w8 ⟨rfl,he8⟩)
  refine hK.out _ _ (⟨aA.1.ext he8,aA.2.1.ext he8,ep,aA.2.2.2.trans he8⟩) (fun aA=>?_)
  clear hK K
  try simp only [bB]
  refine za 7 (fun K hK=>?_)
  (go_simp;go_at_call 50;refine (HAPP.out _ aA.2.2.2).mono ?_;rintro e w8 ⟨rfl,he8⟩)
  refine hK.out _ _ (⟨aA.1.ext he8,aA.2.1.ext he8,ep,aA.2.2.2.trans he8⟩) (fun aA=>?_)
  clear hK K
  try simp only [bB]
  refine zt 8 aA ?_
  refine wpd ?_
  have HX5:=zh aA.2.2.2
  have HB5:=zh aA.1
  have HT5:=zh aA.2.1
  have HR5:=zh aA.2.2.1
  obtain ⟨q0,q1,q2,q3,q4⟩:=aE aA.1
  clear hE hS aA
  go_upto_region 4 with (first | (go_at_call 25;refine (dH s0 _ (HS0.out.ext HX5.out) du).mono ?_;rintro e w5 ⟨s1,rfl,ho1,hv1,he1⟩;have HB6:=zh (HB5.out.ext he1);have HT6:=zh (HT5.out.ext he1);have HR6:=zh (show ∃ z,Blk w5 (w.heap.size+2) 30 (ssA z) from (by obtain ⟨z,hz⟩:=HR5.out;exact ⟨z,hz.ext he1⟩));have HO1:=zh (bO ho1 HX5.out.size);have HV1:=zh hv1;have HX6:=zh (HX5.out.trans he1);clear ho1 hv1 he1) | ((with_reducible refine aH rfl (.tmp 2) (.tmp 18) rfl w.heap.size s1 rfl rfl HB6.out ?_);intro W2 h2))
  have HA0:=zh (show RepS w W2 (a:Int) sq A n c L s0.V 0 s1 from by
   rw [← h2.out]
   exact ⟨StB.start HO1.out HB6.out HX6.out (Nat.le_refl _),HT6.out.grown (aB _ _ _ _) (fun e=>dq),(by obtain ⟨z,hz⟩:=HR6.out;exact ⟨z,hz.grown (aB _ _ _ _) (fun e=>dq)⟩),HV1.out⟩)
  clear h2 HB5 HT5 HR5 HB6 HT6 HR6 HO1 HV1 HX5 HX6 HB HT HR HE HAPP HVAL q0 q1 q2 q3 q4
  have t0:=HA0.out.tx.cell 0
  have t1:=HA0.out.tx.cell 1
  have t2:=HA0.out.tx.cell 2
  go_wp2_with fail
  clear t0 t1 t2
  go_loopw [22] (fun vi wr=>∃ (k:Nat) (s:StR),vi=.int .i64 (k:Int)∧k≤n∧Hid (RepS w wr (a:Int) sq A n c L s0.V k s)) (fun i _=>n - (intOf i).toNat)
  case atStart=>exact ⟨0,s1,rfl,Nat.zero_le _,HA0⟩
  case round =>
   clear HA0
   obtain ⟨k,s,rfl,hk,HA⟩:=hrel
   have HBD:=zh (HA.out.bd HS0.out aa HN.out)
   by_cases hlt:k < n
   ·have i0 : (0 : Int) ≤ (k : Int) := aa
    have i1:(k:Int) < (n:Int):=aa
    have HKN:=zh hlt
    go_upto_region 7 with fail
    have HAW:=zh (HA.out.ext ((Ext.refl wr).drew'))
    refine wp_region_held_drew (S:=fun _=>True) ab (trivial) (fun aA=>?_)
    refine zzr [2,6] ?_
    refine cC (VV 0 (fun v V=>v=.agg (ssA s)) (VV 1 (fun v V=>v=.agg (txA (a:Int) sq A n c)) (VV 3 (fun v V=>∃ A5 n5 c5,v=.slice A5 n5 c5∧SlG V A5 n5 c5 (cP (a:Int) sq L k)) (VV 4 (fun v V=>∃ s2,v=.agg (ssA s2)∧OwnS V w.heap.size s2∧s2.V=mV s.V (cP (a:Int) sq L k)) (VV 5 (fun v V=>v=.agg (txA (a:Int) sq A n c)) (VV 7 (fun v V=>∃ s2,v=.agg (ssA s2)∧OwnS V w.heap.size s2∧s2.V=doO (a:Int) sq L s.V k) (VN))))))) [(0,some 25),(1,some 26),(3,some 28),(4,some 29),(5,some 30),(7,some 32)] (fuel:=1) ab ab (fun _ _ h _=>h) (VV.ext (fun v w w' h e=>h) (VV.ext (fun v w w' h e=>h) (VV.ext (fun v w w' ⟨A,n,c,h1,h2⟩ e=>⟨A,n,c,h1,h2.ext e⟩) (VV.ext (fun v w w' ⟨s2,h1,h2,h3⟩ e=>⟨s2,h1,h2.ext e,h3⟩) (VV.ext (fun v w w' h e=>h) (VV.ext (fun v w w' ⟨s2,h1,h2,h3⟩ e=>⟨s2,h1,h2.ext e,h3⟩) (VN.ext))))))) aA ?hm1 rfl ?hr1
    case hm1 =>
     refine Members.cons ?mm1_0 (Members.cons ?mm1_1 (Members.cons ?mm1_3 (Members.cons ?mm1_4 (Members.cons ?mm1_5 (Members.cons ?mm1_7 (Members.nil _))))))
     case mm1_0 =>
      refine zm [] (fun env W5 hE hS hD K hK=>?_)
      clear hD
      try simp only [aR]
      obtain ⟨q0,q1,q2,q3,q4⟩:=aE (HAW.out.st.blk.ext hE)
      exact CU
     case mm1_1 =>
      exact Br
     case mm1_3 =>
      refine zm [(1,some 26)] (fun env W5 hE hS hD K hK=>?_)
      have h1:(fun v V=>v=.agg (txA (a:Int) sq A n c)) (env 1) W5:=hD (1,some 26) dr
      clear hD
      try simp only [aR] at hK ⊢
      generalize env 1=x1 at h1 hK ⊢
      subst h1
      go_simp
      go_at_call 29
      refine (qS (a:Int) sq A n c L k _ (HS.out.ext (HAW.out.st.low.trans hE)) HKN.out HVT.out).mono ?_
      rintro e w5 ⟨A5,n5,c5,rfl,hs5,he5⟩
      exact CR
     case mm1_4 =>
      refine zm [(0,some 25),(3,some 28)] (fun env W5 hE hS hD K hK=>?_)
      have h0:(fun v V=>v=.agg (ssA s)) (env 0) W5:=hD (0,some 25) dr
      have h3:(fun v V=>∃ A5 n5 c5,v=.slice A5 n5 c5∧SlG V A5 n5 c5 (cP (a:Int) sq L k)) (env 3) W5:=hD (3,some 28) dr
      clear hD
      try simp only [aR] at hK ⊢
      generalize env 0=x0 at h0 hK ⊢
      generalize env 3=x3 at h3 hK ⊢
      subst h0
      obtain ⟨A8,n8,c8,rfl,hs8⟩:=h3
      exact BX
     case mm1_5 =>
      exact Br
     case mm1_7 =>
      refine zm [(4,some 29),(5,some 30)] (fun env W5 hE hS hD K hK=>?_)
      have h4:(fun v V=>∃ s2,v=.agg (ssA s2)∧OwnS V w.heap.size s2∧s2.V=mV s.V (cP (a:Int) sq L k)) (env 4) W5:=hD (4,some 29) dr
      have h5:(fun v V=>v=.agg (txA (a:Int) sq A n c)) (env 5) W5:=hD (5,some 30) dr
      clear hD
      try simp only [aR] at hK ⊢
      generalize env 4=x4 at h4 hK ⊢
      generalize env 5=x5 at h5 hK ⊢
      obtain ⟨s2,rfl,ho2,hv2⟩:=h4
      subst h5
      go_simp
      go_at_call 27
      refine (yO s2 (a:Int) sq A n c L k w.heap.size _ ho2 (Nat.le_trans HAW.out.st.low.size hE.size) (HS.out.ext (HAW.out.st.low.trans hE)) HKN.out HVT.out (aJG ho2 hv2 HAW.out.st.own HBD.out)).mono ?_
      exact CQ
    case hr1 =>
     intro env W5 hE hS hV
     have h0:(fun v V=>v=.agg (ssA s)) (env 0) W5:=hV (0,some 25) dr
     have h1:(fun v V=>v=.agg (txA (a:Int) sq A n c)) (env 1) W5:=hV (1,some 26) dr
     have h3:(fun v V=>∃ A5 n5 c5,v=.slice A5 n5 c5∧SlG V A5 n5 c5 (cP (a:Int) sq L k)) (env 3) W5:=hV (3,some 28) dr
     have h4:(fun v V=>∃ s2,v=.agg (ssA s2)∧OwnS V w.heap.size s2∧s2.V=mV s.V (cP (a:Int) sq L k)) (env 4) W5:=hV (4,some 29) dr
     have h5:(fun v V=>v=.agg (txA (a:Int) sq A n c)) (env 5) W5:=hV (5,some 30) dr
     have h7:(fun v V=>∃ s2,v=.agg (ssA s2)∧OwnS V w.heap.size s2∧s2.V=doO (a:Int) sq L s.V k) (env 7) W5:=hV (7,some 32) dr
     clear hV
     try simp only [aR]
     generalize env 0=x0 at h0 ⊢
     generalize env 1=x1 at h1 ⊢
     generalize env 3=x3 at h3 ⊢
     generalize env 4=x4 at h4 ⊢
     generalize env 5=x5 at h5 ⊢
     generalize env 7=x7 at h7 ⊢
     subst h0
     subst h1
     subst h5
     obtain ⟨A8,n8,c8,rfl,hs8⟩:=h3
     obtain ⟨s2,rfl,-,-⟩:=h4
     obtain ⟨s3,rfl,ho3,hv3⟩:=h7
     clear hs8
     have aA:=hS
     refine za 8 (fun K hK=>?_)
     (refine bQ rfl (.tmp 2) (.tmp 32) dp w.heap.size (.agg (ssA s3)) s3 rfl dp dp (HAW.out.st.blk.ext hE) ?_;intro W6 h6)
     refine hK.out _ _ (trivial) (fun aA=>?_)
     clear hK K
     try simp only [bB]
     refine wpd ?_
     have HF:=zh (show RepS w W6 (a:Int) sq A n c L s0.V (k+1) s3 from by
      rw [← h6.out.1]
      exact ⟨StB.start ho3 (HAW.out.st.blk.ext hE) (HAW.out.st.low.trans hE) (Nat.le_refl _),(HAW.out.tx.ext hE).grown (aB _ _ _ _) (fun e=>dq),(by obtain ⟨z,hz⟩:=HAW.out.res;exact ⟨z,(hz.ext hE).grown (aB _ _ _ _) (fun e=>dq)⟩),by rw [hv3,oW,← HA.out.v]⟩)
     clear h6 ho3 hv3 hE hS aA HAW
     exact CT
   obtain rfl:n=k:=aa
   have i1:¬ (n:Int) < (n:Int):=aa
   obtain ⟨q0,q1,q2,q3,q4⟩:=aE HA.out.st.blk
   have t0:=HA.out.tx.cell 0
   have t1:=HA.out.tx.cell 1
   have t2:=HA.out.tx.cell 2
   have HQL:=zh (show s.Q.length=s.n2 from HA.out.st.own.l2)
   by_cases haq:a < s.n2
   ·have i2 : (a : Int) < (s.n2 : Int) := aa
    have i3:(0:Int)≤(a:Int):=aa
    obtain ⟨bb,hA2,-,-⟩:=cM HA.out.st.own.o2 aa
    have HBB:=zh hA2
    have HAN:=zh haq
    have hb5:wr.ownsRow w.heap.size 3 1 (.slice (some ⟨bb,0,none⟩) s.n2 s.c2) s.n2 (gcs s.Q):=by have:=HA.out.st.own.o2;rwa [hA2] at this
    have HN1:=zh (show w.heap.size ≠ bb from fun e=>aL hb5 HA.out.st.blk ae gp)
    have HN2:=zh (show w.heap.size+1 ≠ bb from fun e=>aL hb5 HA.out.tx ae gp)
    have HN3:=zh (show w.heap.size+2 ≠ bb from fun e=>aL hb5 HA.out.res.choose_spec ae gp)
    have HN4:=zh (show w.heap.size≤bb from (World.ownsRow.lt hb5 bb rfl).1)
    clear hA2 hb5
    go_upto_region 10 with fail
    clear q0 q1 q2 q3 q4 t0 t1 t2
    refine wp_region_held_drew (S:=fun V=>Blk V w.heap.size 30 (ssA s)∧Blk V (w.heap.size+1) 33 (txA (a:Int) sq A n c)∧(∃ z,Blk V (w.heap.size+2) 30 (ssA z))∧Ext w V) ab (⟨HA.out.st.blk.drew,HA.out.tx.drew,⟨_,HA.out.res.choose_spec.drew⟩,HA.out.st.low.trans ((Ext.refl _).drew')⟩) (fun aA=>?_)
    refine zz0 [0,1,2,3,4,5,6,7,8,10,11] ?_;repeat first | refine zz1 ?_ (hy:=cx) | refine zz2 ?_ | refine zz9 ?_
    refine zu 12 (v:=.int .i64 (sq+1)) aA ?_ (hy:=by refine .inl ⟨dp,fun V _=>?_⟩;go_simp;exact kT ⟨aa,aa⟩)
    refine cC (VV 9 (fun v V=>v=.int .i64 (aS s.Q a)) (VN)) [(9,some 49)] (fuel:=3) ab ab (fun V V' h e=>⟨h.1.ext e,h.2.1.ext e,cv,h.2.2.2.trans e⟩) (VV.ext (fun v w w' h e=>h) (VN.ext)) aA ?hm2 rfl ?hr2
    case hm2 =>
     refine Members.cons ?mm2_9 (Members.nil _)
     case mm2_9 =>
      refine zm [] (fun env W hE hS hD K hK=>?_)
      clear hD
      try simp only [aR]
      have c9:=rN (HA.out.st.own.ext (((Ext.refl _).drew').trans hE)) HBB.out HAN.out
      go_simp
      have hk:=hK.out (.int .i64 (aS s.Q a)) _ (Ext.refl _) (rfl)
      try simp only [aR] at hk
      exact hk
    case hr2 =>
     intro env W hE hS hV
     have h9:(fun v V=>v=.int .i64 (aS s.Q a)) (env 9) W:=hV (9,some 49) dr
     clear hV
     try simp only [aR]
     generalize env 9=x9 at h9 ⊢
     subst h9
     have aA:=hS
     refine zz0 [13,14] ?_;repeat first | refine zz1 ?_ (hy:=cx) | refine zz2 ?_ | refine zz9 ?_
     refine za 15 (fun K hK=>?_)
     (have c9:=rN (HA.out.st.own.ext (((Ext.refl _).drew').trans hE)) HBB.out HAN.out;have f9:=qH (HA.out.st.own.ext (((Ext.refl _).drew').trans hE)) HBB.out a;go_simp)
     refine hK.out _ _ (⟨aA.1.far (p:=⟨bb,a,none⟩) HN1.out _,aA.2.1.far (p:=⟨bb,a,none⟩) HN2.out _,(by obtain ⟨z,hz⟩:=aA.2.2.1;exact ⟨z,hz.far (p:=⟨bb,a,none⟩) HN3.out _⟩),Below.setCell aA.2.2.2 (p:=⟨bb,a,none⟩) HN4.out _⟩) (fun aA=>?_)
     clear hK K
     try simp only [bB]
     refine wpd ?_
     obtain ⟨zq,hzq⟩:∃ zq:Int,(if aS s.Q a < sq+1 then sq+1 else aS s.Q a)=zq:=⟨_,rfl⟩
     have hmx:max (aS s.Q a) (sq+1)=zq:=by rw [← hzq];split <;> omega
     first | rw [hzq] at aA ⊢ | rw [hmx] at aA ⊢
     clear hmx
     have hzw:wfI zq:=by
      rw [← hzq]
      split
      ·exact fU.2 ⟨aa,aa⟩
      exact HA.out.st.own.k2 _ (lF (by rw [HQL.out];exact HAN.out))
     have HS4:=zh ((HA.out.st.ext (((Ext.refl _).drew').trans hE)).cell2 HBB.out a zq hzw HAN.out)
     obtain ⟨W9,hW9⟩:=gx (W.setCell ⟨bb,a,none⟩ (.int .i64 zq))
     rw [hW9] at aA HS4 ⊢
     have HT9:=zh aA.2.1
     have HR9:=zh aA.2.2.1
     have HX9:=zh aA.2.2.2
     obtain ⟨s4,hs4⟩:∃ s4:StR,{ s with Q:=s.Q.set a zq }=s4:=⟨_,rfl⟩
     have HV4:=zh (show (⟨s4.C,s4.Q,s4.K,dW s4.P (cG (a:Int) sq L),s4.G⟩:StV)=pL s0.V (a:Int) sq L from by
      rw [HREP.out,HLEN.out,← HA.out.v,← hs4]
      show _=(⟨s.C,aDl s.Q (a:Int) sq,s.K,dW s.P (cG (a:Int) sq L),s.G⟩:StV)
      rw [aMd (by rw [HQL.out];exact HAN.out),hzq])
     have HB4:=zh (show s4.n1≤1000000∧s4.n2≤1000000∧s4.n3≤1000000∧s4.n4≤1000000 from by
      exact CW)
     rw [hs4] at HS4
     have HB9:=zh HS4.out.blk
     have HO4:=zh HS4.out.own
     obtain ⟨q0,q1,q2,q3,q4⟩:=aE HS4.out.blk
     have t0:=HT9.out.cell 0
     have t1:=HT9.out.cell 1
     have t2:=HT9.out.cell 2
     clear hs4 hW9 hzq hzw aA hE hS HS4
     go_upto_region 11 with fail
     refine wp_region_held_drew (S:=fun V=>Blk V w.heap.size 30 (ssA s4)∧Blk V (w.heap.size+1) 33 (txA (a:Int) sq A n c)∧(∃ z,Blk V (w.heap.size+2) 30 (ssA z))∧Ext w V) ab (⟨HB9.out.drew,HT9.out.drew,⟨_,HR9.out.choose_spec.drew⟩,HX9.out.trans ((Ext.refl _).drew')⟩) (fun aA=>?_)
     refine zz0 [0,1] ?_;repeat first | refine zz1 ?_ (hy:=an) | refine zz2 ?_ | refine zz9 ?_
     refine cC (VV 2 (fun v V=>v=.agg (nmc (cG (a:Int) sq L))) (VV 3 (fun v V=>∃ s5,v=.agg (ssA s5)∧OwnS V w.heap.size s5∧s5.V=⟨s4.C,s4.Q,s4.K,dW s4.P (cG (a:Int) sq L),s4.G⟩) (VN))) [(2,some 57),(3,some 58)] (fuel:=1) ab ab (fun V V' h e=>⟨h.1.ext e,h.2.1.ext e,cv,h.2.2.2.trans e⟩) (VV.ext (fun v w w' h e=>h) (VV.ext (fun v w w' ⟨s2,h1,h2,h3⟩ e=>⟨s2,h1,h2.ext e,h3⟩) (VN.ext))) aA ?hm6 rfl ?hr6
     case hm6 =>
      refine Members.cons ?mm6_2 (Members.cons ?mm6_3 (Members.nil _))
      case mm6_2 =>
       exact Cn
      case mm6_3 =>
       refine zm [(2,some 57)] (fun env W hE hS hD K hK=>?_)
       have h2:(fun v V=>v=.agg (nmc (cG (a:Int) sq L))) (env 2) W:=hD (2,some 57) dr
       clear hD
       try simp only [aR] at hK ⊢
       generalize env 2=x2 at h2 hK ⊢
       subst h2
       go_simp
       go_at_call 30
       refine (qF s4 (cG (a:Int) sq L) _ (HO4.out.ok.ext (((Ext.refl _).drew').trans hE)) HB4.out).mono ?_
       exact CM
     case hr6 =>
      intro env W hE hS hV
      have h2:(fun v V=>v=.agg (nmc (cG (a:Int) sq L))) (env 2) W:=hV (2,some 57) dr
      have h3:(fun v V=>∃ s5,v=.agg (ssA s5)∧OwnS V w.heap.size s5∧s5.V=⟨s4.C,s4.Q,s4.K,dW s4.P (cG (a:Int) sq L),s4.G⟩) (env 3) W:=hV (3,some 58) dr
      exact Ai
   have i2:¬ (a:Int) < (s.n2:Int):=aa
   have HV4:=zh (show (⟨s.C,s.Q,s.K,dW s.P (cG (a:Int) sq L),s.G⟩:StV)=pL s0.V (a:Int) sq L from by
    rw [HREP.out,HLEN.out,← HA.out.v]
    show _=(⟨s.C,aDl s.Q (a:Int) sq,s.K,dW s.P (cG (a:Int) sq L),s.G⟩:StV)
    rw [aKj (by rw [HQL.out];exact haq)])
   have HB4:=zh (show s.n1≤1000000∧s.n2≤1000000∧s.n3≤1000000∧s.n4≤1000000 from fs)
   go_upto_region 11 with fail
   obtain ⟨s4,hs4⟩:=gx (s)
   subst hs4
   have HB9:=zh HA.out.st.blk
   have HT9:=zh HA.out.tx
   have HR9:=zh HA.out.res
   have HX9:=zh HA.out.st.low
   have HO4:=zh HA.out.st.own
   refine wp_region_held_drew (S:=fun V=>Blk V w.heap.size 30 (ssA s)∧Blk V (w.heap.size+1) 33 (txA (a:Int) sq A n c)∧(∃ z,Blk V (w.heap.size+2) 30 (ssA z))∧Ext w V) ab (⟨HB9.out.drew,HT9.out.drew,⟨_,HR9.out.choose_spec.drew⟩,HX9.out.trans ((Ext.refl _).drew')⟩) (fun aA=>?_)
   refine zz0 [0,1] ?_;repeat first | refine zz1 ?_ (hy:=an) | refine zz2 ?_ | refine zz9 ?_
   refine cC (VV 2 (fun v V=>v=.agg (nmc (cG (a:Int) sq L))) (VV 3 (fun v V=>∃ s5,v=.agg (ssA s5)∧OwnS V w.heap.size s5∧s5.V=⟨s.C,s.Q,s.K,dW s.P (cG (a:Int) sq L),s.G⟩) (VN))) [(2,some 57),(3,some 58)] (fuel:=1) ab ab (fun V V' h e=>⟨h.1.ext e,h.2.1.ext e,cv,h.2.2.2.trans e⟩) (VV.ext (fun v w w' h e=>h) (VV.ext (fun v w w' ⟨s2,h1,h2,h3⟩ e=>⟨s2,h1,h2.ext e,h3⟩) (VN.ext))) aA ?hm7 rfl ?hr7
   case hm7 =>
    refine Members.cons ?mm7_2 (Members.cons ?mm7_3 (Members.nil _))
    case mm7_2 =>
     exact Cn
    case mm7_3 =>
     refine zm [(2,some 57)] (fun env W hE hS hD K hK=>?_)
     have h2:(fun v V=>v=.agg (nmc (cG (a:Int) sq L))) (env 2) W:=hD (2,some 57) dr
     clear hD
     try simp only [aR] at hK ⊢
     generalize env 2=x2 at h2 hK ⊢
     subst h2
     go_simp
     go_at_call 30
     refine (qF s (cG (a:Int) sq L) _ (HO4.out.ok.ext (((Ext.refl _).drew').trans hE)) HB4.out).mono ?_
     exact CM
   case hr7 =>
    intro env W hE hS hV
    have h2:(fun v V=>v=.agg (nmc (cG (a:Int) sq L))) (env 2) W:=hV (2,some 57) dr
    have h3:(fun v V=>∃ s5,v=.agg (ssA s5)∧OwnS V w.heap.size s5∧s5.V=⟨s.C,s.Q,s.K,dW s.P (cG (a:Int) sq L),s.G⟩) (env 3) W:=hV (3,some 58) dr
    exact Ai
structure ExeS (w wr:World) (P:Nat) (x:StpR) (S:Option Addr) (m d:Nat) (L:List OpR) (chk:OpR→StV→Int) (k:Nat) (s:StR):Prop where
 st:StpB w wr P { x with s:=s }
 old:Blk wr (w.heap.size+1) 30 (ssA x.s)
 tx:Blk wr (w.heap.size+2) 36 (stA x.ac x.sq x.A x.n x.c S m d)
 r1:∃ z,Blk wr (w.heap.size+3) 30 (ssA z)
 r2:Blk wr (w.heap.size+4) 43 (rcA rc0)
 far:w.heap.size+4 < P
 v:s.V=doN x.ac x.sq L x.s.V k
 er:errN chk x.ac x.sq L x.s.V k=0
section
variable {w wr w':World} {P:Nat} {x:StpR} {S:Option Addr} {m d:Nat} {L:List OpR} {chk:OpR→StV→Int} {k:Nat} {s:StR}
theorem ExeS.ext (h:ExeS w wr P x S m d L chk k s) (e:Ext wr w'):ExeS w w' P x S m d L chk k s:=⟨h.st.ext e,h.old.ext e,h.tx.ext e,(by obtain ⟨z,hz⟩:=h.r1;exact ⟨z,hz.ext e⟩),h.r2.ext e,h.far,h.v,h.er⟩
theorem ExeS.bd (h:ExeS w wr P x S m d L chk k s) (h0:x.s.ok w') (hk:k≤4) (hn:x.s.n1≤200000∧x.s.n2≤200000∧x.s.n3≤200000∧x.s.n4≤200000):s.n1≤500000∧s.n2≤500000∧s.n3≤500000∧s.n4≤500000:=by
 have e1:s.C=_:=congrArg StV.C h.v
 have e2:s.Q=x.s.Q:=(congrArg StV.Q h.v).trans (oX ..).1
 have e3:s.K=_:=congrArg StV.K h.v
 have e4:s.P=x.s.P:=(congrArg StV.P h.v).trans (oX ..).2
 have m1:s.C.length=s.n1:=h.st.own.l1
 have m2:s.Q.length=s.n2:=h.st.own.l2
 have m3:s.K.length=s.n3:=h.st.own.l3
 have m4:s.P.length=s.n4:=h.st.own.l4
 exact wt
end
theorem aGp {chk:OpR→StV→Int} {okG:Bool} {na:Nat} {sg:Bool} {V:StV} {ac sq:Int} {L:List OpR} {k:Nat} (hb:lM okG na sg V ac sq L=0) (hk:k < L.length) (he:errN chk ac sq L V k=0) (h:chk (bR L k) (doN ac sq L V k) ≠ 0) :
  iX chk okG na sg V ac sq L=chk (bR L k) (doN ac sq L V k):=by
 have h1:errN chk ac sq L V (k+1)=chk (bR L k) (doN ac sq L V k):=if_neg (by rw [he];simp)
 unfold iX
 rw [if_neg (by rw [hb];simp),aHB (by rw [h1];exact h) L.length aa,h1]
theorem aBP {chk:OpR→StV→Int} {okG:Bool} {na:Nat} {sg:Bool} {V:StV} {ac sq:Int} {L:List OpR} (h:lM okG na sg V ac sq L ≠ 0):iX chk okG na sg V ac sq L=lM okG na sg V ac sq L:=if_pos h
theorem aGo {chk:OpR→StV→Int} {okG:Bool} {na:Nat} {sg:Bool} {V:StV} {ac sq:Int} {L:List OpR} (hb:lM okG na sg V ac sq L=0) (he:errN chk ac sq L V L.length=0):iX chk okG na sg V ac sq L=0:=by
 unfold iX
 rw [if_neg (by rw [hb];simp),he]
theorem uT (x:StpR) (S:Option Addr) (m d:Nat) (L:List OpR) (sig:List UInt8) (PN:List UInt64) (BL:List Int) (ev:OpR→Bool) (okG sg:Bool) (chk:OpR→StV→Int) (w:World) (hs:x.s.ok w) (hT:(⟨x.ac,x.sq,x.A,x.n,x.c,S,m,d,L,sig⟩:TxR).ok w) (hN:SlG w x.B2 x.m2 x.d2 PN) (hB:SlZ w x.B3 x.m3 x.d3 BL) (hm1:x.m1≤9223372036854775807) (hn:x.s.n1≤200000∧x.s.n2≤200000∧x.s.n3≤200000∧x.s.n4≤200000) (hpn:∀ R ∈ L,R.n1≤140737488355328)
  (hok:eP x.gN x.gZ x.m1 x.m2 x.m3 BL=okG) (hsg:vSg (aS PN x.ac.toNat) ⟨x.ac,x.sq,x.A,x.n,x.c,S,m,d,L,sig⟩=sg) (hck:dG x.m2 x.m1 x.ht cL ev x.ac=chk)
  (hbl:∀ R ∈ L,R.k=6→vOp R=true→∀ (V:World) (s:StR),Ext w V→s.ok V→Calls prog 68 #[.agg (stpA { x with s:=s }),.agg (opA R)] V fun e w'=>e=.returned (.int .i64 (chk R s.V))∧Ext V w') :
  Calls prog 8 #[.agg (genC x.gN x.gZ x.B1 x.m1 x.d1 x.B2 x.m2 x.d2 x.B3 x.m3 x.d3),.agg (ssA x.s),.agg (stA x.ac x.sq x.A x.n x.c S m d),.int .i64 x.ht] w
   (aJJ w (nX chk okG x.m2 sg x.s.V x.ac x.sq L) (iX chk okG x.m2 sg x.s.V x.ac x.sq L) (rcE (iX chk okG x.m2 sg x.s.V x.ac x.sq L) x.ac x.sq L) (rcO (iX chk okG x.m2 sg x.s.V x.ac x.sq L) x.ac x.sq L) (rcG (iX chk okG x.m2 sg x.s.V x.ac x.sq L) x.s.V (nX chk okG x.m2 sg x.s.V x.ac x.sq L))):=by
 obtain ⟨gN,gZ,B1,m1,d1,B2,m2,d2,B3,m3,d3,s0,ac,sq,A,n,c,ht⟩:=x
 simp only at hs hT hN hB hm1 hn hok hsg hck hbl ⊢
 have HS0:=zh hs
 have HN:=zh hn
 have HS:=zh (show SlO w A n c L from hT.ops)
 have HBL:=zh hbl
 have HPN:=zh hpn
 have HCK:=zh hck
 have hle:n≤c:=hT.ops.le
 have hcap:c≤9223372036854775807:=hT.ops.cap
 have HLEN:=zh (show L.length=n from hT.ops.len)
 have HBG:=zh (fun (V:World) (e:Ext w V)=>aHM gN gZ B1 m1 d1 B2 m2 d2 B3 m3 d3 PN BL s0 ⟨ac,sq,A,n,c,S,m,d,L,sig⟩ V (hs.ext e) (hT.ext e) (hN.ext e) (hB.ext e) hm1)
 rw [hok,hsg] at HBG
 obtain ⟨z,hz⟩:=gx (lM okG m2 sg s0.V ac sq L)
 have HBG:=zh (show ∀ (V:World),Ext w V→Calls prog 24 #[.agg (genC gN gZ B1 m1 d1 B2 m2 d2 B3 m3 d3),.agg (ssA s0),.agg (stA ac sq A n c S m d)] V fun e w'=>e=.returned (.int .i64 z)∧Ext V w' from by rw [← hz];exact HBG.out)
 obtain ⟨W,hW⟩:=gx (((((w.alloc (.cells (genC gN gZ B1 m1 d1 B2 m2 d2 B3 m3 d3) 25)).alloc (.cells (ssA s0) 30)).alloc (.cells (stA ac sq A n c S m d) 36)).alloc (.cells #[.slice none 0 0,.slice none 0 0,.slice none 0 0,.slice none 0 0,.int .i64 0] 30)).alloc (.cells #[.int .i64 0,.slice none 0 0,.int .i64 0,.int .i64 0] 43))
 have HG:=zh (show Blk W w.heap.size 25 (genC gN gZ B1 m1 d1 B2 m2 d2 B3 m3 d3) from by rw [← hW];exact ((((Blk.new w 25 (genC gN gZ B1 m1 d1 B2 m2 d2 B3 m3 d3)).alloc _).alloc _).alloc _).alloc _)
 have HB:=zh (show Blk W (w.heap.size+1) 30 (ssA s0) from lp)
 have HT:=zh (show Blk W (w.heap.size+2) 36 (stA ac sq A n c S m d) from mu)
 have HR:=zh (show Blk W (w.heap.size+3) 30 (ssA ss0) from aw)
 have HR2:=zh (show Blk W (w.heap.size+4) 43 (rcA rc0) from ag)
 have HE:=zh (show Ext w W from kl)
 have HWS:=zh (show w.heap.size+5≤W.heap.size from kf)
 have g0:=HG.out.cell 0
 have g1:=HG.out.cell 1
 have g2:=HG.out.cell 2
 have g3:=HG.out.cell 3
 have g4:=HG.out.cell 4
 have t0:=HT.out.cell 0
 have t1:=HT.out.cell 1
 have t2:=HT.out.cell 2
 have t3:=HT.out.cell 3
 obtain ⟨q0,q1,q2,q3,q4⟩:=aE HB.out
 clear hs hT hN hB hn hok hsg hck hbl hpn
 by_cases h0:z=0
 ·subst h0
  have HZ:=zh hz
  obtain ⟨a1,a2,a3,a4,a5,a6,a7⟩:=aKY hz
  obtain ⟨⟨v1,v2,v3,v4,v5,v6⟩,-⟩:=dX a1
  obtain ⟨a,rfl⟩:∃ a:Nat,ac=(a:Int):=⟨ac.toNat,aa⟩
  have HVT:=zh a1
  obtain ⟨b,o,hA,-,-⟩:=HS.out.g.at fj
  subst hA
  have hn4:n≤4:=fj
  have HN4:=zh hn4
  have HAC:=zh (show wfI (a:Int) from wfS ⟨aa,aa⟩)
  have HQL:=zh (show a < s0.Q.length from by have:=show s0.Q.length=m2 from a4;omega)
  have HSQ:=zh (show wfI (sq+1) from wfS ⟨aa,aa⟩)
  clear hz a1 a2 a3 a4 a5 a6 a7
  go_enter func8,ntmps8
  go_wp2_with fail
  refine zcl (HBG.out _ HE.out) fun w5 he5=>?_
  have HX5:=zh (HE.out.trans he5)
  have HG5:=zh (HG.out.ext he5)
  have HB5:=zh (HB.out.ext he5)
  have HT5:=zh (HT.out.ext he5)
  have HR5:=zh (HR.out.ext he5)
  have HQ5:=zh (HR2.out.ext he5)
  have HZ5:=zh (Nat.le_trans HWS.out he5.size)
  clear he5 g0 g1 g2 g3 g4 t0 t1 t2 t3 q0 q1 q2 q3 q4 HG HB HT HR HR2 HE HWS HBG hW
  go_upto_region 4 with fail
  refine wp_region_held_drew (S:=fun V=>Blk V w.heap.size 25 (genC gN gZ B1 m1 d1 B2 m2 d2 B3 m3 d3)∧Blk V (w.heap.size+1) 30 (ssA s0)∧Blk V (w.heap.size+2) 36 (stA (a:Int) sq (some ⟨b,o,none⟩) n c S m d)∧Blk V (w.heap.size+3) 30 (ssA ss0)∧Blk V (w.heap.size+4) 43 (rcA rc0)∧Ext w V) ab (⟨HG5.out.drew,HB5.out.drew,HT5.out.drew,HR5.out.drew,HQ5.out.drew,HX5.out.trans ((Ext.refl _).drew')⟩) (fun aA=>?_)
  refine zz0 [0,1,3,4,5] ?_;repeat first | refine zz1 ?_ (hy:=by intro W aP;obtain ⟨q0,q1,q2,q3,q4⟩:=aE aP.2.1;have g0:=aP.1.cell 0;have g1:=aP.1.cell 1;have g2:=aP.1.cell 2;have g3:=aP.1.cell 3;have g4:=aP.1.cell 4;have t0:=aP.2.2.1.cell 0;have t1:=aP.2.2.1.cell 1;have t2:=aP.2.2.1.cell 2;go_simp <;> with_reducible rfl) | refine zz2 ?_ | refine zz9 ?_
  refine zzj (VV 2 (fun v V=>∃ s1,v=.agg (ssA s1)∧OwnS V w.heap.size s1∧s1.V=s0.V) (VV 6 (fun v V=>∃ s1,v=.agg (stpA (⟨gN,gZ,B1,m1,d1,B2,m2,d2,B3,m3,d3,s1,(a:Int),sq,(some ⟨b,o,none⟩),n,c,ht⟩:StpR))∧OwnS V w.heap.size s1∧s1.V=s0.V) (VV 7 (fun v V=>∃ P,v=.pointer (some ⟨P,0,none⟩)∧Blk V P 70 (stpA RowT.z)∧w.heap.size+5≤P) VN))) [(2,some 27),(6,some 31),(7,some 11)] 1 (fun V V' h e=>⟨h.1.ext e,h.2.1.ext e,h.2.2.1.ext e,h.2.2.2.1.ext e,h.2.2.2.2.1.ext e,h.2.2.2.2.2.trans e⟩) (VV.ext (fun v w w' ⟨s1,h1,h2,h3⟩ e=>⟨s1,h1,h2.ext e,h3⟩) (VV.ext (fun v w w' ⟨s1,h1,h2,h3⟩ e=>⟨s1,h1,h2.ext e,h3⟩) (VV.ext (fun v w w' ⟨P,h1,h2,h3⟩ e=>⟨P,h1,h2.ext e,h3⟩) VN.ext))) (zzc ?_ (zzc ?_ (zzc ?_ zzn))) ?_
  ·refine zzp fun W hE hS K hK => ?_
   go_simp
   go_at_call 25
   refine (dH s0 _ (HS0.out.ext hS.2.2.2.2.2) du).mono ?_
   rintro e w6 ⟨s1,rfl,ho1,hv1,he1⟩
   exact zzK (hK.out (.agg (ssA s1)) _ (he1) (⟨s1,rfl,bO ho1 hS.2.2.2.2.2.size,hv1⟩))
  ·refine zm [(2, some 27)] fun env W hE hS hD K hK => ?_
   obtain ⟨h2,-⟩:=zzV hD
   clear hD
   simp only [aR] at hK ⊢
   generalize env 2=x2 at h2 hK ⊢
   obtain ⟨s1,rfl,ho1,hv1⟩:=h2
   refine jF (aAP (vx:=.agg (genC gN gZ B1 m1 d1 B2 m2 d2 B3 m3 d3)) (vy:=.agg (ssA s1)) (vz:=.agg (txA (a:Int) sq (some ⟨b,o,none⟩) n c)) (vu:=.int .i64 ht) (.tmp 25) (.tmp 27) (.tmp 29) (.tmp 30) dp dp dp dp dp (aEH (⟨gN,gZ,B1,m1,d1,B2,m2,d2,B3,m3,d3,s1,(a:Int),sq,(some ⟨b,o,none⟩),n,c,ht⟩:StpR))) ?_
   exact zzK (hK.out (.agg (stpA (⟨gN,gZ,B1,m1,d1,B2,m2,d2,B3,m3,d3,s1,(a:Int),sq,(some ⟨b,o,none⟩),n,c,ht⟩:StpR))) _ (Ext.refl _) (⟨s1,rfl,ho1,hv1⟩))
  ·refine zzp fun W hE hS K hK => ?_
   refine aCl rfl ?_
   intro g W2 h2
   exact zzK (hK.out (.pointer (some ⟨g,0,none⟩)) _ (h2.out.2.1) (⟨g,rfl,h2.out.1,Nat.le_trans (Nat.le_trans HZ5.out hE.size) h2.out.2.2⟩))
  intro env W hE hS hV
  obtain ⟨h2,h6,h7,-⟩:=zzV hV
  clear hV
  simp only [aR]
  generalize env 2=x2 at h2 ⊢
  generalize env 6=x6 at h6 ⊢
  generalize env 7=x7 at h7 ⊢
  obtain ⟨s9,rfl,-,-⟩:=h2
  obtain ⟨s1,rfl,ho1,hv1⟩:=h6
  obtain ⟨P,rfl,hp,hpl⟩:=h7
  have aA:=hS
  refine za 8 (fun K hK=>?_)
  (refine mZ iQ rfl (.tmp 11) (.tmp 31) dp P 0 dp (⟨gN,gZ,B1,m1,d1,B2,m2,d2,B3,m3,d3,s1,(a:Int),sq,(some ⟨b,o,none⟩),n,c,ht⟩:StpR) (.agg (stpA (⟨gN,gZ,B1,m1,d1,B2,m2,d2,B3,m3,d3,s1,(a:Int),sq,(some ⟨b,o,none⟩),n,c,ht⟩:StpR))) rfl dp (aI hp) ?_;intro W6 hW6)
  refine hK.out _ _ (⟨aA.1.grown fd (fun e=>dq),aA.2.1.grown fd (fun e=>dq),aA.2.2.1.grown fd (fun e=>dq),aA.2.2.2.1.grown fd (fun e=>dq),aA.2.2.2.2.1.grown fd (fun e=>dq),by rw [← hW6.out];exact Below.setCells' aA.2.2.2.2.2 aa _ _⟩) (fun aA=>?_)
  clear hK K
  try simp only [bB]
  refine wpd ?_
  have hA0:ExeS w W6 P (⟨gN,gZ,B1,m1,d1,B2,m2,d2,B3,m3,d3,s0,(a:Int),sq,(some ⟨b,o,none⟩),n,c,ht⟩:StpR) S m d L chk 0 s1:=⟨⟨by rw [← hW6.out];exact aN (ds:=stpA (⟨gN,gZ,B1,m1,d1,B2,m2,d2,B3,m3,d3,s1,(a:Int),sq,(some ⟨b,o,none⟩),n,c,ht⟩:StpR)) hp rfl,by rw [← hW6.out];exact ho1.kept (aB _ _ _ _) hp ae ae ae ae,aA.2.2.2.2.2,aa⟩,aA.2.1,aA.2.2.1,⟨_,aA.2.2.2.1⟩,aA.2.2.2.2.1,aa,hv1,rfl⟩
  clear hW6 hp ho1 hv1 hpl
  have HA0:=zh hA0
  clear hA0 hE hS aA
  have t0:=HA0.out.tx.cell 0
  have t1:=HA0.out.tx.cell 1
  have t2:=HA0.out.tx.cell 2
  go_wp2_with fail
  clear t0 t1 t2
  go_loopw [36] (fun vi wr=>∃ (k:Nat) (s:StR),vi=.int .i64 (k:Int)∧k≤n∧Hid (ExeS w wr P (⟨gN,gZ,B1,m1,d1,B2,m2,d2,B3,m3,d3,s0,(a:Int),sq,(some ⟨b,o,none⟩),n,c,ht⟩:StpR) S m d L chk k s)) (fun i _=>n - (intOf i).toNat)
  case atStart=>exact ⟨0,s1,rfl,Nat.zero_le _,HA0⟩
  case round =>
   clear HA0 HG5 HB5 HT5 HR5 HQ5 HX5 HZ5
   obtain ⟨k,s,rfl,hk,HA⟩:=hrel
   have HBD:=zh (HA.out.bd (w':=w) HS0.out (by have:=HN4.out;omega) HN.out)
   by_cases hlt:k < n
   ·have i0 : (0 : Int) ≤ (k : Int) := aa
    have i1:(k:Int) < (n:Int):=aa
    have HKN:=zh hlt
    obtain ⟨R,hR⟩:=gx (bR L k)
    have hr:wr.rangeAt b (o+k * 23) (RowT.enc R):=by
     rw [← hR,mC]
     obtain ⟨b2,o2,e2,hr2,-⟩:=(HS.out.ext HA.out.st.low).g.at aa
     exact CS
    have HRR:=zh hR
    obtain ⟨vo,hvo⟩:=gx (Value.agg (opA R))
    obtain ⟨vx,hvx⟩:=gx (Value.agg (stpA (⟨gN,gZ,B1,m1,d1,B2,m2,d2,B3,m3,d3,s,(a:Int),sq,(some ⟨b,o,none⟩),n,c,ht⟩:StpR)))
    have HVO:=zh hvo
    have HVX:=zh hvx
    obtain ⟨X,hX⟩:=gx (wr.heap.size)
    have HXS:=zh hX
    clear hR hvo hvx hX
    go_upto_region 8 with (first | (with_reducible refine aD opP rfl (.tmp 39) rfl b (o+k * 23) rfl R vo HVO.out hr ?_) | ((with_reducible refine aU opP rfl (.tmp 13) (.tmp 40) rfl jX rfl R vo HVO.out rfl rfl ?_);intro W4 h4))
    have HX4:=zh (show Ext wr W4 from eh)
    have HD:=zh (show Blk W4 X 52 (opA R) from fv)
    have HA4:=zh (HA.out.ext HX4.out)
    have ro:W4.rangeAt X 0 (RowT.enc R):=aC HD.out
    have rx:W4.rangeAt P 0 (RowT.enc (⟨gN,gZ,B1,m1,d1,B2,m2,d2,B3,m3,d3,s,(a:Int),sq,(some ⟨b,o,none⟩),n,c,ht⟩:StpR)):=aC HA4.out.st.blk
    clear h4 hr
    rw [HXS.out]
    have HCH:=zh (show Calls prog 26 #[vx,vo] W4 fun e w'=>e=.returned (.int .i64 (chk R s.V))∧Ext W4 w' from by
     have hm:R ∈ L:=by rw [← HRR.out];exact oR ak
     have hvp:vOp R=true:=by rw [← HRR.out];exact (dX HVT.out).2 k ak
     have hro:R.ok W4:=by rw [← HRR.out,mC];exact (HS.out.ext HA4.out.st.low).g.nth hlt
     rw [← HVX.out,← HVO.out,← HCK.out]
     exact aHI (⟨gN,gZ,B1,m1,d1,B2,m2,d2,B3,m3,d3,s,(a:Int),sq,(some ⟨b,o,none⟩),n,c,ht⟩:StpR) R ev W4 HA4.out.st.own.ok hro (HPN.out R hm) hvp HAC.out (fun hk V e=>by rw [HCK.out];exact HBL.out R hm hk hvp V s (HA4.out.st.low.trans e) (HA4.out.st.own.ok.ext e)))
    obtain ⟨y,hy⟩:=gx (chk R s.V)
    rw [hy] at HCH
    have HY:=zh (show chk (bR L k) (doN (a:Int) sq L s0.V k)=y from by rw [HRR.out,← HA.out.v];exact hy)
    clear hy
    go_wp2_with (first | (with_reducible refine aD iQ rfl (.tmp 11) rfl P 0 rfl (⟨gN,gZ,B1,m1,d1,B2,m2,d2,B3,m3,d3,s,(a:Int),sq,(some ⟨b,o,none⟩),n,c,ht⟩:StpR) vx HVX.out rx ?_) | (with_reducible refine aD opP rfl (.tmp 13) rfl X 0 rfl R vo HVO.out ro ?_))
    refine zcl HCH.out fun w6 he6=>?_
    have HA6:=zh (HA4.out.ext he6)
    clear he6 ro rx HCH HX4 HD HA4
    by_cases hy0:y=0
    ·subst hy0
     have HE1:=zh (show errN chk (a:Int) sq L s0.V (k+1)=0 from by
      show (if _ then _ else _)=_
      rw [if_neg (by rw [show errN chk (a:Int) sq L s0.V k=0 from HA6.out.er];simp)];exact HY.out)
     go_upto_region 11 with fail
     have HAW:=zh (HA6.out.ext ((Ext.refl w6).drew'))
     refine wp_region_held_drew (S:=fun _=>True) ab (trivial) (fun aA=>?_)
     refine zzr [0,2,4,7,9] ?_
     refine cC (VV 1 (fun v V=>v=.agg (ssA s)) (VV 3 (fun v V=>v=.agg (txA (a:Int) sq (some ⟨b,o,none⟩) n c)) (VV 5 (fun v V=>∃ A5 n5 c5,v=.slice A5 n5 c5∧SlG V A5 n5 c5 (cP (a:Int) sq L k)) (VV 6 (fun v V=>∃ s2,v=.agg (ssA s2)∧OwnS V w.heap.size s2∧s2.V=mV s.V (cP (a:Int) sq L k)) (VV 8 (fun v V=>v=.agg (txA (a:Int) sq (some ⟨b,o,none⟩) n c)) (VV 10 (fun v V=>∃ s2,v=.agg (ssA s2)∧OwnS V w.heap.size s2∧s2.V=doO (a:Int) sq L s.V k) (VN))))))) [(1,some 51),(3,some 53),(5,some 55),(6,some 56),(8,some 58),(10,some 60)] (fuel:=2) ab ab (fun _ _ h _=>h) (VV.ext (fun v w w' h e=>h) (VV.ext (fun v w w' h e=>h) (VV.ext (fun v w w' ⟨A,n,c,h1,h2⟩ e=>⟨A,n,c,h1,h2.ext e⟩) (VV.ext (fun v w w' ⟨s2,h1,h2,h3⟩ e=>⟨s2,h1,h2.ext e,h3⟩) (VV.ext (fun v w w' h e=>h) (VV.ext (fun v w w' ⟨s2,h1,h2,h3⟩ e=>⟨s2,h1,h2.ext e,h3⟩) (VN.ext))))))) aA ?hm2 rfl ?hr2
     case hm2 =>
      refine Members.cons ?mm2_1 (Members.cons ?mm2_3 (Members.cons ?mm2_5 (Members.cons ?mm2_6 (Members.cons ?mm2_8 (Members.cons ?mm2_10 (Members.nil _))))))
      case mm2_1 =>
       refine zm [] (fun env W5 hE hS hD K hK=>?_)
       clear hD
       try simp only [aR]
       have q5:W5.cell? ⟨P,5,none⟩=some (.slice s.A1 s.n1 s.c1):=(HAW.out.st.blk.ext hE).cell 5
       have q6:W5.cell? ⟨P,6,none⟩=some (.slice s.A2 s.n2 s.c2):=(HAW.out.st.blk.ext hE).cell 6
       have q7:W5.cell? ⟨P,7,none⟩=some (.slice s.A3 s.n3 s.c3):=(HAW.out.st.blk.ext hE).cell 7
       have q8:W5.cell? ⟨P,8,none⟩=some (.slice s.A4 s.n4 s.c4):=(HAW.out.st.blk.ext hE).cell 8
       have q9:W5.cell? ⟨P,9,none⟩=some (.int .i64 s.G):=(HAW.out.st.blk.ext hE).cell 9
       exact CH
      case mm2_3 =>
       exact we
      case mm2_5 =>
       refine zm [(3,some 53)] (fun env W5 hE hS hD K hK=>?_)
       have h3:(fun v V=>v=.agg (txA (a:Int) sq (some ⟨b,o,none⟩) n c)) (env 3) W5:=hD (3,some 53) dr
       clear hD
       try simp only [aR] at hK ⊢
       generalize env 3=x3 at h3 hK ⊢
       subst h3
       go_simp
       go_at_call 29
       refine (qS (a:Int) sq (some ⟨b,o,none⟩) n c L k _ (HS.out.ext (HAW.out.st.low.trans hE)) HKN.out HVT.out).mono ?_
       rintro e w5 ⟨A5,n5,c5,rfl,hs5,he5⟩
       exact BS
      case mm2_6 =>
       refine zm [(1,some 51),(5,some 55)] (fun env W5 hE hS hD K hK=>?_)
       have h1:(fun v V=>v=.agg (ssA s)) (env 1) W5:=hD (1,some 51) dr
       have h5:(fun v V=>∃ A5 n5 c5,v=.slice A5 n5 c5∧SlG V A5 n5 c5 (cP (a:Int) sq L k)) (env 5) W5:=hD (5,some 55) dr
       clear hD
       try simp only [aR] at hK ⊢
       generalize env 1=x1 at h1 hK ⊢
       generalize env 5=x5 at h5 hK ⊢
       subst h1
       obtain ⟨A8,n8,c8,rfl,hs8⟩:=h5
       exact BX
      case mm2_8 =>
       exact we
      case mm2_10 =>
       refine zm [(6,some 56),(8,some 58)] (fun env W5 hE hS hD K hK=>?_)
       have h6:(fun v V=>∃ s2,v=.agg (ssA s2)∧OwnS V w.heap.size s2∧s2.V=mV s.V (cP (a:Int) sq L k)) (env 6) W5:=hD (6,some 56) dr
       have h8:(fun v V=>v=.agg (txA (a:Int) sq (some ⟨b,o,none⟩) n c)) (env 8) W5:=hD (8,some 58) dr
       clear hD
       try simp only [aR] at hK ⊢
       generalize env 6=x6 at h6 hK ⊢
       generalize env 8=x8 at h8 hK ⊢
       obtain ⟨s2,rfl,ho2,hv2⟩:=h6
       subst h8
       go_simp
       go_at_call 27
       refine (yO s2 (a:Int) sq (some ⟨b,o,none⟩) n c L k w.heap.size _ ho2 (Nat.le_trans HAW.out.st.low.size hE.size) (HS.out.ext (HAW.out.st.low.trans hE)) HKN.out HVT.out (aJG ho2 hv2 HAW.out.st.own HBD.out)).mono ?_
       exact CQ
     case hr2 =>
      intro env W5 hE hS hV
      have h1:(fun v V=>v=.agg (ssA s)) (env 1) W5:=hV (1,some 51) dr
      have h3:(fun v V=>v=.agg (txA (a:Int) sq (some ⟨b,o,none⟩) n c)) (env 3) W5:=hV (3,some 53) dr
      have h5:(fun v V=>∃ A5 n5 c5,v=.slice A5 n5 c5∧SlG V A5 n5 c5 (cP (a:Int) sq L k)) (env 5) W5:=hV (5,some 55) dr
      have h6:(fun v V=>∃ s2,v=.agg (ssA s2)∧OwnS V w.heap.size s2∧s2.V=mV s.V (cP (a:Int) sq L k)) (env 6) W5:=hV (6,some 56) dr
      have h8:(fun v V=>v=.agg (txA (a:Int) sq (some ⟨b,o,none⟩) n c)) (env 8) W5:=hV (8,some 58) dr
      have h10:(fun v V=>∃ s2,v=.agg (ssA s2)∧OwnS V w.heap.size s2∧s2.V=doO (a:Int) sq L s.V k) (env 10) W5:=hV (10,some 60) dr
      clear hV
      try simp only [aR]
      generalize env 1=x1 at h1 ⊢
      generalize env 3=x3 at h3 ⊢
      generalize env 5=x5 at h5 ⊢
      generalize env 6=x6 at h6 ⊢
      generalize env 8=x8 at h8 ⊢
      generalize env 10=x10 at h10 ⊢
      subst h1
      subst h3
      subst h8
      obtain ⟨A8,n8,c8,rfl,hs8⟩:=h5
      obtain ⟨s2,rfl,-,-⟩:=h6
      obtain ⟨s3,rfl,ho3,hv3⟩:=h10
      clear hs8
      have aA:=hS
      refine zt 11 aA ?_
      refine za 12 (fun K hK=>?_)
      (refine aBc rfl (.tmp 61) (.tmp 60) dp P (.agg (ssA s3)) s3 rfl dp dp (HAW.out.st.blk.ext hE) ?_;intro W6 h6)
      refine hK.out _ _ (trivial) (fun aA=>?_)
      clear hK K
      try simp only [bB]
      refine wpd ?_
      have HF:=zh (show ExeS w W6 P (⟨gN,gZ,B1,m1,d1,B2,m2,d2,B3,m3,d3,s0,(a:Int),sq,(some ⟨b,o,none⟩),n,c,ht⟩:StpR) S m d L chk (k+1) s3 from by
       rw [← h6.out]
       have hX:Ext w6.drew W5:=hE
       have hfar:w.heap.size+4 < P:=HAW.out.far
       refine ⟨(HAW.out.st.ext hE).put ho3,(HAW.out.old.ext hE).grown (aB _ _ _ _) (fun e=>dq),(HAW.out.tx.ext hE).grown (aB _ _ _ _) (fun e=>dq),?_,(HAW.out.r2.ext hE).grown (aB _ _ _ _) (fun e=>dq),hfar,?_,HE1.out⟩
       ·obtain ⟨z, hz⟩ := HAW.out.r1
        exact ⟨z,(hz.ext hE).grown (aB _ _ _ _) (fun e=>dq)⟩
       rw [hv3]
       show _=doN (a:Int) sq L s0.V (k+1)
       rw [oW,show s.V=doN (a:Int) sq L s0.V k from HAW.out.v])
      clear h6 ho3 hv3 hE hS aA HAW HA6
      exact CT
    have HZ9:=zh HZ.out
    clear HZ
    have HZ:=zh (show iX chk okG m2 sg s0.V (a:Int) sq L=y from by
     rw [aGp HZ9.out ak HA6.out.er (by have h9:=HY.out;exact fun h=>hy0 (h9.symm.trans h))];exact HY.out)
    have HV:=zh (show nX chk okG m2 sg s0.V (a:Int) sq L=s0.V from if_neg (by rw [HZ.out];exact hy0))
    have h1:(y != 0)=true:=bne_iff_ne.2 hy0
    have HY0:=zh hy0
    clear hy0
    have HB5:=zh (show Blk w6 (w.heap.size+1) 30 (ssA s0) from HA6.out.old)
    have HQ5:=zh (show Blk w6 (w.heap.size+4) 43 (rcA rc0) from HA6.out.r2)
    obtain ⟨z5,hz5⟩:=HA6.out.r1
    have HR5:=zh hz5
    have HX5:=zh (show Ext w w6 from HA6.out.st.low)
    clear hz5
    obtain ⟨q0,q1,q2,q3,q4⟩:=aE HB5.out
    go_wp2_with fail
    refine (dH s0 _ (HS0.out.ext HX5.out) du).mono ?_
    rintro e w7 ⟨s5,rfl,ho5,hv5,he5⟩
    have HR7:=zh (HR5.out.ext he5)
    have HQ7:=zh (HQ5.out.ext he5)
    have HO5:=zh ho5
    have HV5:=zh hv5
    have HX7:=zh (HX5.out.trans he5)
    have HSZ:=zh HX5.out.size
    clear ho5 hv5 he5 q0 q1 q2 q3 q4
    go_wp2_with (first | ((with_reducible refine aH rfl (.tmp 8) (.tmp 47) rfl (w.heap.size+3) s5 rfl rfl HR7.out ?_);intro W9 h9;have HQ9:=zh (show Blk W9 (w.heap.size+4) 43 (rcA rc0) from mz);have HT9:=zh (show W9.there (w.heap.size+4) 0 (RowT.sz RcR) from aI HQ9.out)) | ((with_reducible refine bH rcP rfl (.tmp 9) (.tmp 49) rfl (w.heap.size+4) 0 rfl ⟨y,none,0,0,0,0⟩ _ rfl rfl HT9.out ?_);intro W8 hW8))
    have hst9:Blk W9 (w.heap.size+3) 30 (ssA s5):=ik
    have hst:Blk W8 (w.heap.size+3) 30 (ssA s5):=nf
    have hst2:Blk W8 (w.heap.size+4) 43 (rcA ⟨y,none,0,0,0,0⟩):=by rw [← hW8.out];exact aN (ds:=rcA ⟨y,none,0,0,0,0⟩) HQ9.out rfl
    have HOW:=zh (show OwnS W8 w.heap.size s5 from by
     exact AN)
    have HXE:=zh (show Ext w W8 from jr)
    clear h9 hW8 hst9
    exact bodyPost_ret (v:=.tuple #[.agg (ssA s5),.agg (rcA ⟨y,none,0,0,0,0⟩)]) (aCU rfl _ _ (w.heap.size+3) (w.heap.size+4) _ _ rfl rfl (run_loadVar_row _ _ _ _ _ (0,0) _ hst underlying30 rfl ab) (run_loadVar_row _ _ _ _ _ (0,0) _ hst2 underlying43 rfl ab)) rfl ⟨s5,none,0,0,by (first | rw [HZ.out] | skip);unfold rcO rcG;rw [if_neg HY0.out,if_neg HY0.out],HOW.out,by rw [HV5.out,HV.out],by (first | rw [HZ.out] | skip);unfold rcE;rw [if_neg HY0.out];exact SlG.nil _,HXE.out⟩
   obtain rfl:n=k:=aa
   have i1:¬ (n:Int) < (n:Int):=aa
   have HFZ:=zh (show iX chk okG m2 sg s0.V (a:Int) sq L=0 from aGo HZ.out (by rw [HLEN.out];exact HA.out.er))
   have HFS:=zh (show nX chk okG m2 sg s0.V (a:Int) sq L=aJo s0.V (a:Int) sq L from if_pos HFZ.out)
   have hq:s.Q=s0.Q:=(congrArg StV.Q HA.out.v).trans (oX ..).1
   have HQN:=zh (show a < s.n2 from by have h1:s.Q.length=s.n2:=HA.out.st.own.l2;have:=HQL.out;rw [hq] at h1;omega)
   clear hq
   have i2:(a:Int) < (s.n2:Int):=nb
   have i3:(0:Int)≤(a:Int):=aa
   have hown:OwnS wr w.heap.size s:=HA.out.st.own
   obtain ⟨bb,hA2,-,-⟩:=cM hown.o2 nb
   have HBB:=zh hA2
   have HOW:=zh hown
   have hb5:wr.ownsRow w.heap.size 3 1 (.slice (some ⟨bb,0,none⟩) s.n2 s.c2) s.n2 (gcs s.Q):=by have:=hown.o2;rwa [hA2] at this
   have HN1:=zh (show P ≠ bb from fun e=>aL hb5 HA.out.st.blk ae gp)
   have HN2:=zh (show w.heap.size+1 ≠ bb from fun e=>aL hb5 HA.out.old ae gp)
   have HN3:=zh (show w.heap.size+2 ≠ bb from fun e=>aL hb5 HA.out.tx ae gp)
   have HN5:=zh (show w.heap.size+3 ≠ bb from fun e=>aL hb5 HA.out.r1.choose_spec ae gp)
   have HN6:=zh (show w.heap.size+4 ≠ bb from fun e=>aL hb5 HA.out.r2 ae gp)
   have p6:wr.cell? ⟨P,6,none⟩=some (.slice (some ⟨bb,0,none⟩) s.n2 s.c2):=by rw [← hA2];exact HA.out.st.blk.cell 6
   have t0:wr.cell? ⟨w.heap.size+2,0,none⟩=some (.int .i64 (a:Int)):=HA.out.tx.cell 0
   have t1:wr.cell? ⟨w.heap.size+2,1,none⟩=some (.int .i64 sq):=HA.out.tx.cell 1
   have c9:=rN hown hA2 HQN.out
   have f9:=qH hown hA2 a
   have hw9:wrap64 (sq+1)=sq+1:=by rw [← rB];exact kT ⟨aa,aa⟩
   clear hA2 hb5 hown
   go_upto_region 14 with fail
   clear p6 t0 t1 c9 f9
   obtain ⟨W9,hW9⟩:=gx (wr.setCell ⟨bb,a,none⟩ (.int .i64 (sq+1)))
   rw [hW9]
   obtain ⟨s4,hs4⟩:∃ s4:StR,{ s with Q:=s.Q.set a (sq+1) }=s4:=⟨_,rfl⟩
   have HP9:=zh (show StpB w W9 P (⟨gN,gZ,B1,m1,d1,B2,m2,d2,B3,m3,d3,s4,(a:Int),sq,(some ⟨b,o,none⟩),n,c,ht⟩:StpR) from by rw [← hW9,← hs4];exact HA.out.st.cell2 HBB.out a (sq+1) HSQ.out)
   have HB9:=zh (show Blk W9 (w.heap.size+1) 30 (ssA s0) from by rw [← hW9];exact HA.out.old.far (p:=⟨bb,a,none⟩) HN2.out _)
   have HT9:=zh (show Blk W9 (w.heap.size+2) 36 (stA (a:Int) sq (some ⟨b,o,none⟩) n c S m d) from by rw [← hW9];exact HA.out.tx.far (p:=⟨bb,a,none⟩) HN3.out _)
   have HR9:=zh (show ∃ z,Blk W9 (w.heap.size+3) 30 (ssA z) from by rw [← hW9];obtain ⟨z,hz⟩:=HA.out.r1;exact ⟨z,hz.far (p:=⟨bb,a,none⟩) HN5.out _⟩)
   have HQ9:=zh (show Blk W9 (w.heap.size+4) 43 (rcA rc0) from by rw [← hW9];exact HA.out.r2.far (p:=⟨bb,a,none⟩) HN6.out _)
   have hfar:w.heap.size+4 < P:=HA.out.far
   have HV4:=zh (show (⟨s4.C,s4.Q,s4.K,dW s4.P (cG (a:Int) sq L),s4.G⟩:StV)=nX chk okG m2 sg s0.V (a:Int) sq L from by
    rw [HFS.out,← hs4]
    unfold aJo
    rw [Int.toNat_natCast,HLEN.out,← show s.V=doN (a:Int) sq L s0.V n from HA.out.v]
    rfl)
   have HB4:=zh (show s4.n1≤1000000∧s4.n2≤1000000∧s4.n3≤1000000∧s4.n4≤1000000 from by
    exact CN)
   clear hs4 hW9 HA
   refine wp_region_held_drew (S:=fun V=>Blk V P 70 (stpA (⟨gN,gZ,B1,m1,d1,B2,m2,d2,B3,m3,d3,s4,(a:Int),sq,(some ⟨b,o,none⟩),n,c,ht⟩:StpR))∧Blk V (w.heap.size+1) 30 (ssA s0)∧Blk V (w.heap.size+2) 36 (stA (a:Int) sq (some ⟨b,o,none⟩) n c S m d)∧(∃ z,Blk V (w.heap.size+3) 30 (ssA z))∧(∃ z,Blk V (w.heap.size+4) 43 (rcA z))∧Ext w V) ab (⟨HP9.out.blk.drew,HB9.out.drew,HT9.out.drew,⟨_,HR9.out.choose_spec.drew⟩,⟨_,HQ9.out.drew⟩,HP9.out.low.trans ((Ext.refl _).drew')⟩) (fun aA=>?_)
   refine zz0 [0,1,2,3,6,7,9,10,12,13,14,15,16,17] ?_;repeat first | refine zz1 ?_ (hy:=by intro W aP;have q5:W.cell? ⟨P,5,none⟩=some (.slice s4.A1 s4.n1 s4.c1):=aP.1.cell 5;have q6:W.cell? ⟨P,6,none⟩=some (.slice s4.A2 s4.n2 s4.c2):=aP.1.cell 6;have q7:W.cell? ⟨P,7,none⟩=some (.slice s4.A3 s4.n3 s4.c3):=aP.1.cell 7;have q8:W.cell? ⟨P,8,none⟩=some (.slice s4.A4 s4.n4 s4.c4):=aP.1.cell 8;have q9:W.cell? ⟨P,9,none⟩=some (.int .i64 s4.G):=aP.1.cell 9;have o4:W.cell? ⟨w.heap.size+1,4,none⟩=some (.int .i64 s0.G):=aP.2.1.cell 4;have t0:=aP.2.2.1.cell 0;have t1:=aP.2.2.1.cell 1;have t2:=aP.2.2.1.cell 2;go_simp <;> with_reducible rfl) | refine zz2 ?_ | refine zz9 ?_
   refine cC (VV 4 (fun v V=>v=.agg (nmc (cG (a:Int) sq L))) (VV 5 (fun v V=>∃ s5,v=.agg (ssA s5)∧OwnS V w.heap.size s5∧s5.V=⟨s4.C,s4.Q,s4.K,dW s4.P (cG (a:Int) sq L),s4.G⟩) (VV 8 (fun v V=>∃ A5 n5 c5,v=.slice A5 n5 c5∧V.ownsRow w.heap.size 92 11 (.slice A5 n5 c5) n5 (gcs (iO (a:Int) sq L))∧(∀ d ∈ iO (a:Int) sq L,deW d)) (VV 11 (fun v V=>v=.int .i64 (gH (a:Int) sq L)) (VN))))) [(4,some 78),(5,some 79),(8,some 82),(11,some 85)] (fuel:=3) ab ab (fun V V' h e=>⟨h.1.ext e,h.2.1.ext e,h.2.2.1.ext e,cq,om,h.2.2.2.2.2.trans e⟩) (VV.ext (fun v w w' h e=>h) (VV.ext (fun v w w' ⟨s2,h1,h2,h3⟩ e=>⟨s2,h1,h2.ext e,h3⟩) (VV.ext (fun v w w' ⟨A,n,c,h1,h2,h3⟩ e=>⟨A,n,c,h1,bC h2 e,h3⟩) (VV.ext (fun v w w' h e=>h) (VN.ext))))) aA ?hm3 rfl ?hr3
   case hm3 =>
    refine Members.cons ?mm3_4 (Members.cons ?mm3_5 (Members.cons ?mm3_8 (Members.cons ?mm3_11 (Members.nil _))))
    case mm3_4 =>
     refine zm [] (fun env W hE hS hD K hK=>?_)
     clear hD
     try simp only [aR]
     go_simp
     go_at_call 31
     refine zcl (fV (a:Int) sq (some ⟨b,o,none⟩) n c L _ (HS.out.ext hS.2.2.2.2.2)) fun w5 he5=>?_
     exact Ct
    case mm3_5 =>
     refine zm [(4,some 78)] (fun env W hE hS hD K hK=>?_)
     have h4:(fun v V=>v=.agg (nmc (cG (a:Int) sq L))) (env 4) W:=hD (4,some 78) dr
     clear hD
     try simp only [aR] at hK ⊢
     generalize env 4=x4 at h4 hK ⊢
     subst h4
     go_simp
     go_at_call 30
     refine (qF s4 (cG (a:Int) sq L) _ (HP9.out.own.ok.ext (((Ext.refl _).drew').trans hE)) HB4.out).mono ?_
     rintro e w5 ⟨s5,rfl,ho5,hv5,he5⟩
     have hk:=hK.out (.agg (ssA s5)) _ (he5) (⟨s5,rfl,bO ho5 hS.2.2.2.2.2.size,hv5⟩)
     try simp only [aR] at hk
     exact hk
    case mm3_8 =>
     refine zm [] (fun env W hE hS hD K hK=>?_)
     clear hD
     try simp only [aR]
     go_simp
     go_at_call 23
     refine (sM (a:Int) sq (some ⟨b,o,none⟩) n c L _ (HS.out.ext hS.2.2.2.2.2)).mono ?_
     rintro e w5 ⟨A5,n5,c5,rfl,ho5,hw5,he5⟩
     have hk:=hK.out (.slice A5 n5 c5) _ (he5) (⟨A5,n5,c5,rfl,bA ho5 hS.2.2.2.2.2.size,hw5⟩)
     try simp only [aR] at hk
     exact hk
    case mm3_11 =>
     refine zm [] (fun env W hE hS hD K hK=>?_)
     clear hD
     try simp only [aR]
     go_simp
     go_at_call 22
     refine zcl (pW (a:Int) sq (some ⟨b,o,none⟩) n c L _ (HS.out.ext hS.2.2.2.2.2)) fun w5 he5=>?_
     have hk:=hK.out (.int .i64 (gH (a:Int) sq L)) _ (he5) (rfl)
     try simp only [aR] at hk
     exact hk
   case hr3 =>
    intro env W hE hS hV
    have h4:(fun v V=>v=.agg (nmc (cG (a:Int) sq L))) (env 4) W:=hV (4,some 78) dr
    have h5:(fun v V=>∃ s5,v=.agg (ssA s5)∧OwnS V w.heap.size s5∧s5.V=⟨s4.C,s4.Q,s4.K,dW s4.P (cG (a:Int) sq L),s4.G⟩) (env 5) W:=hV (5,some 79) dr
    have h8:(fun v V=>∃ A5 n5 c5,v=.slice A5 n5 c5∧V.ownsRow w.heap.size 92 11 (.slice A5 n5 c5) n5 (gcs (iO (a:Int) sq L))∧(∀ d ∈ iO (a:Int) sq L,deW d)) (env 8) W:=hV (8,some 82) dr
    have h11:(fun v V=>v=.int .i64 (gH (a:Int) sq L)) (env 11) W:=hV (11,some 85) dr
    clear hV
    try simp only [aR]
    generalize env 4=x4 at h4 ⊢
    generalize env 5=x5 at h5 ⊢
    generalize env 8=x8 at h8 ⊢
    generalize env 11=x11 at h11 ⊢
    subst h4
    subst h11
    obtain ⟨s5,rfl,ho5,hv5⟩:=h5
    obtain ⟨A5,n5,c5,rfl,ho8,hw8⟩:=h8
    have aA:=hS
    refine zu 18 (v:=.agg (rcA (⟨0,A5,n5,c5,gH (a:Int) sq L,bits .andNot .i64 s4.G s0.G⟩:RcR))) aA ?_ (hy:=by exact wA dp (aAP (vx:=.int .i64 0) (vy:=.slice A5 n5 c5) (vz:=.int .i64 (gH (a:Int) sq L)) (vu:=.int .i64 (bits .andNot .i64 s4.G s0.G)) (.const (.int .i64 0)) (.tmp 82) (.tmp 85) (.tmp 91) dp dp dp dp dp (aEI (⟨0,A5,n5,c5,gH (a:Int) sq L,bits .andNot .i64 s4.G s0.G⟩:RcR))))
    refine za 19 (fun K hK=>?_)
    (obtain ⟨z6,hz6⟩:=aA.2.2.2.1;refine bQ rfl (.tmp 8) (.tmp 79) dp (w.heap.size+3) (.agg (ssA s5)) s5 rfl dp dp hz6 ?_;intro W6 h6)
    refine hK.out _ _ (⟨aA.1.grown al (fun e=>dq),aA.2.1.grown al (fun e=>dq),aA.2.2.1.grown al (fun e=>dq),⟨_,h6.out.2⟩,l6,m7⟩) (fun aA=>?_)
    clear hK K
    try simp only [bB]
    refine za 20 (fun K hK=>?_)
    (obtain ⟨z7,hQ6⟩:=aA.2.2.2.2.1;refine mZ rcP rfl (.tmp 9) (.tmp 92) dp (w.heap.size+4) 0 dp (⟨0,A5,n5,c5,gH (a:Int) sq L,bits .andNot .i64 s4.G s0.G⟩:RcR) (.agg (rcA (⟨0,A5,n5,c5,gH (a:Int) sq L,bits .andNot .i64 s4.G s0.G⟩:RcR))) rfl dp (aI hQ6) ?_;intro W8 hW8;have hX8:Ext w W8:=ng)
    refine hK.out _ _ (⟨aA.1.grown cy (fun e=>dq),aA.2.1.grown cy (fun e=>dq),aA.2.2.1.grown cy (fun e=>dq),me,⟨_,ji⟩,hX8⟩) (fun aA=>?_)
    clear hK K
    try simp only [bB]
    refine wpd ?_
    have hst:Blk W8 (w.heap.size+3) 30 (ssA s5):=mv
    have hst2:Blk W8 (w.heap.size+4) 43 (rcA (⟨0,A5,n5,c5,gH (a:Int) sq L,bits .andNot .i64 s4.G s0.G⟩:RcR)):=ji
    have hG:s4.G=(nX chk okG m2 sg s0.V (a:Int) sq L).G:=by rw [← HV4.out]
    have HOW5:=zh (show OwnS W8 w.heap.size s5 from by
     rw [← hW8.out]
     refine OwnS.kept ?_ (aB _ _ _ _) hQ6 ae ae ae ae
     rw [← h6.out.1]
     exact ho5.kept (aB _ _ _ _) hz6 ae ae ae ae)
    have HOE:=zh (show W8.ownsRow w.heap.size 92 11 (.slice A5 n5 c5) n5 (gcs (iO (a:Int) sq L)) from by
     have h1:W6.ownsRow w.heap.size 92 11 (.slice A5 n5 c5) n5 (gcs (iO (a:Int) sq L)):=by
      exact CV
     rw [← hW8.out]
     exact h1.kept (aB _ _ _ _) (.inr (Ne.symm (aL h1 hQ6 ae))))
    have HV5:=zh hv5
    have HXE:=zh hX8
    have HG:=zh hG
    clear h6 hW8 ho5 hv5 ho8 hE hS aA hQ6 hz6 hX8 hG
    go_wp2_with fail
    exact bodyPost_ret (v:=.tuple #[.agg (ssA s5),.agg (rcA (⟨0,A5,n5,c5,gH (a:Int) sq L,bits .andNot .i64 s4.G s0.G⟩:RcR))]) (aCU rfl _ _ (w.heap.size+3) (w.heap.size+4) _ _ rfl rfl (run_loadVar_row _ _ _ _ _ (0,0) _ hst underlying30 rfl ab) (run_loadVar_row _ _ _ _ _ (0,0) _ hst2 underlying43 rfl ab)) rfl ⟨s5,A5,n5,c5,by rw [HG.out,HFZ.out];rfl,HOW5.out,rh,by rw [HFZ.out];exact OwnG.sl (e:=92) HOE.out hw8,HXE.out⟩
 have HZ:=zh (aBP (chk:=chk) (by rw [hz];exact h0)|>.trans hz)
 have HV:=zh (show nX chk okG m2 sg s0.V ac sq L=s0.V from if_neg (by rw [HZ.out];exact h0))
 have h1:(z != 0)=true:=bne_iff_ne.2 h0
 have HZ0:=zh h0
 clear hz h0
 go_enter func8,ntmps8
 go_wp2_with fail
 refine zcl (HBG.out _ HE.out) fun w5 he5=>?_
 have HX5:=zh (HE.out.trans he5)
 have HB5:=zh (HB.out.ext he5)
 have HR5:=zh (HR.out.ext he5)
 have HQ5:=zh (HR2.out.ext he5)
 clear he5 g0 g1 g2 g3 g4 t0 t1 t2 t3 q0 q1 q2 q3 q4 HG HB HT HR HR2 HE HBG hW
 obtain ⟨q0,q1,q2,q3,q4⟩:=aE HB5.out
 go_wp2_with fail
 refine (dH s0 _ (HS0.out.ext HX5.out) du).mono ?_
 rintro e w7 ⟨s5,rfl,ho5,hv5,he5⟩
 have HR7:=zh (HR5.out.ext he5)
 have HQ7:=zh (HQ5.out.ext he5)
 have HO5:=zh ho5
 have HV5:=zh hv5
 have HX7:=zh (HX5.out.trans he5)
 have HSZ:=zh HX5.out.size
 clear ho5 hv5 he5 q0 q1 q2 q3 q4
 go_wp2_with (first | ((with_reducible refine aH rfl (.tmp 8) (.tmp 22) rfl (w.heap.size+3) s5 rfl rfl HR7.out ?_);intro W9 h9;have HQ9:=zh (show Blk W9 (w.heap.size+4) 43 (rcA rc0) from mz);have HT9:=zh (show W9.there (w.heap.size+4) 0 (RowT.sz RcR) from aI HQ9.out)) | ((with_reducible refine bH rcP rfl (.tmp 9) (.tmp 24) rfl (w.heap.size+4) 0 rfl ⟨z,none,0,0,0,0⟩ _ rfl rfl HT9.out ?_);intro W8 hW8))
 have hst9:Blk W9 (w.heap.size+3) 30 (ssA s5):=ik
 have hst:Blk W8 (w.heap.size+3) 30 (ssA s5):=nf
 have hst2:Blk W8 (w.heap.size+4) 43 (rcA ⟨z,none,0,0,0,0⟩):=by rw [← hW8.out];exact aN (ds:=rcA ⟨z,none,0,0,0,0⟩) HQ9.out rfl
 have HOW:=zh (show OwnS W8 w.heap.size s5 from by
  exact AN)
 have HXE:=zh (show Ext w W8 from jr)
 clear h9 hW8 hst9
 exact bodyPost_ret (v:=.tuple #[.agg (ssA s5),.agg (rcA ⟨z,none,0,0,0,0⟩)]) (aCU rfl _ _ (w.heap.size+3) (w.heap.size+4) _ _ rfl rfl (run_loadVar_row _ _ _ _ _ (0,0) _ hst underlying30 rfl ab) (run_loadVar_row _ _ _ _ _ (0,0) _ hst2 underlying43 rfl ab)) rfl ⟨s5,none,0,0,by (first | rw [HZ.out] | skip);unfold rcO rcG;rw [if_neg HZ0.out,if_neg HZ0.out],HOW.out,by rw [HV5.out,HV.out],by (first | rw [HZ.out] | skip);unfold rcE;rw [if_neg HZ0.out];exact SlG.nil _,HXE.out⟩
end
end Go.Proofs.YtgmnmjeccfnmbaaGreat
