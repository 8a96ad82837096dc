/- The reference's GenesisState. -/
import Derived.Test.YtohmmcahpakokaaGreatH41
set_option maxRecDepth 100000
set_option maxHeartbeats 8000000
set_option linter.unusedVariables false
set_option linter.unusedSimpArgs false
namespace Go.Proofs.YtohmmcahpakokaaGreat
section
open Go.RowKit
attribute [local go_sem ↓] Go.wp_at_zero Go.wp_at_succ
theorem aEy {w:World} {e:TypeId} {size n:Nat} {cs:Array Value} (hc:cs.size=n * size) (hn:n≤9223372036854775807):(w.alloc (.cells cs e)).ownsRow w.heap.size e size (.slice (some ⟨w.heap.size,0,none⟩) n n) n cs.toList :=
 ⟨by rw [Array.length_toList,hc],.inr ⟨w.heap.size,n,cs,rfl,Nat.le_refl _,heap_alloc_new w _,Nat.le_refl _,hn,hc,by rw [← hc,← Array.length_toList];exact List.take_length⟩⟩
theorem aHH (L:List Int):gcs L=ics L:=by
 induction L with
 | nil=>rfl
 | cons x r ih=>rw [dC,ih];rfl
theorem aHF (n:Nat) (hn:n≤1000) (w:World):(Instr.makeSlice 38 (.int .i64 (n:Int)) (.int .i64 (n:Int))).run Tryz.prog w=.ok (.slice (some ⟨w.heap.size,0,none⟩) n n) (w.alloc (.cells (gcs (List.replicate n (0:Int))).toArray 3)):=by
 obtain ⟨i,hi,hz,hs,hby⟩:=inE.get
 have h:=run_make (P:=Tryz.prog) w 38 3 i (.int .i64 0) inE.ut hi hz .i64 .i64 n n (by omega) (by omega) (by rw [hby];omega) (by omega)
 rw [hs,Nat.mul_one,Int.toNat_natCast] at h
 have e:madeCells (Value.int .i64 0).cells n=(gcs (List.replicate n (0:Int))).toArray:=by
  rw [aHH]
  unfold ics madeCells
  rw [List.map_replicate]
  apply Array.ext
  ·simp
  intro j h1 h2
  simp [Value.cells,iv,Nat.mod_one]
 rw [e] at h
 exact h
def oV (BL:List Int) (n:Nat):List DeR:=(List.range n).foldl (fun C (i:Nat)=>dM C (aP (i:Int)) (aM BL i)) []
def vY (Z:Int) (C:List DeR) (n:Nat):List DeR:=(List.range n).foldl (fun C (i:Nat)=>dM C (bT (i:Int)) Z) C
theorem yG (BL:List Int) (n:Nat):oV BL (n+1)=dM (oV BL n) (aP (n:Int)) (aM BL n):=by unfold oV;rw [List.range_succ,List.foldl_append];rfl
theorem xL (Z:Int) (C:List DeR) (n:Nat):vY Z C (n+1)=dM (vY Z C n) (bT (n:Int)) Z:=by unfold vY;rw [List.range_succ,List.foldl_append];rfl
theorem aBZ (BL:List Int) (n:Nat):(oV BL n).length≤n:=by
 induction n with
 | zero=>exact Nat.le_refl _
 | succ n ih=>rw [yG];have:=qP (oV BL n) (aP (n:Int)) (aM BL n);omega
theorem aFD (Z:Int) (C:List DeR) (n:Nat):(vY Z C n).length≤C.length+n:=by
 induction n with
 | zero=>exact Nat.le_refl _
 | succ n ih=>rw [xL];have:=qP (vY Z C n) (bT (n:Int)) Z;omega
def aIz (m2:Nat) (BL:List Int) (Z:Int) (m1:Nat):StV:=⟨vY Z (oV BL BL.length) m1,List.replicate m2 0,[],[],0⟩
theorem aEu (N Z:Int) (B1:Option Addr) (m1 d1:Nat) (B2:Option Addr) (m2 d2:Nat) (B3:Option Addr) (m3 d3:Nat) (BL:List Int) (w:World) (hB:SlG w B3 m3 d3 BL) (hz:wfI Z) (h1:m1≤1000) (h2:m2≤1000) (h3:m3≤1000) :
  Calls Tryz.prog 40 #[.agg (dY N Z B1 m1 d1 B2 m2 d2 B3 m3 d3)] w (gW w (aIz m2 BL Z m1)):=by
 obtain ⟨W,hW⟩:∃ W,(w.alloc (.cells (dY N Z B1 m1 d1 B2 m2 d2 B3 m3 d3) 40)).alloc (.cells #[.slice none 0 0,.slice none 0 0,.slice none 0 0,.slice none 0 0,.int .i64 0] 44)=W:=⟨_,rfl⟩
 have HG:=zh (show Blk W w.heap.size 40 (dY N Z B1 m1 d1 B2 m2 d2 B3 m3 d3) from by rw [← hW];exact (Blk.new w 40 (dY N Z B1 m1 d1 B2 m2 d2 B3 m3 d3)).alloc _)
 have HR:=zh (show Blk W (w.heap.size+1) 44 (ssA ss0) from by rw [← hW];exact Blk.newAt _ _ _ _ (by simp))
 have HE:=zh (show Ext w W from by rw [← hW];exact ((Ext.refl w).alloc' _).alloc' _)
 have HWS:W.heap.size=w.heap.size+2:=by rw [← hW];simp
 have HBL:=zh hB
 have HLEN:=zh hB.len
 have HZW:=zh hz
 have hle:=hB.le
 have hcap:=hB.cap
 have g2:=HG.out.cell 2
 have g3:=HG.out.cell 3
 have g4:=HG.out.cell 4
 have hmk:=aHF m2 h2
 clear hB hz
 go_enter Tryz.func40,Tryz.ntmps40
 go_upto_region 2 with fail
 obtain ⟨sg,hsg⟩:∃ sg:StR,(⟨none,0,0,[],some ⟨w.heap.size+2,0,none⟩,m2,m2,List.replicate m2 0,none,0,0,[],none,0,0,[],0⟩:StR)=sg:=⟨_,rfl⟩
 obtain ⟨W1,hW1⟩:∃ W1,(W.alloc (.cells (gcs (List.replicate m2 (0:Int))).toArray 3)).alloc (.cells #[.slice none 0 0,.slice (some ⟨w.heap.size+2,0,none⟩) m2 m2,.slice none 0 0,.slice none 0 0,.int .i64 0] 44)=W1:=⟨_,rfl⟩
 rw [hW1]
 have HX1:=zh (show Ext W W1 from by rw [← hW1];exact ((Ext.refl W).alloc' _).alloc' _)
 have HG1:=zh (HG.out.ext HX1.out)
 have HR1:=zh (HR.out.ext HX1.out)
 have HS1:=zh (show StB w W1 (w.heap.size+3) sg from by
  refine ⟨?_,?_,HE.out.trans HX1.out,by omega⟩
  ·rw [← hW1,← hsg];exact Blk.newAt _ _ _ _ (by simp;omega)
  rw [← hsg]
  refine ⟨World.ownsRow_nil _ _ _ _,?_,World.ownsRow_nil _ _ _ _,World.ownsRow_nil _ _ _ _,fun d hd=>by (cases hd),fun z hz=>by (rw [List.eq_of_mem_replicate hz];exact (wfS ⟨by decide,by decide⟩:wfI (0:Int))),fun d hd=>by (cases hd),(wfS ⟨by decide,by decide⟩:wfI (0:Int))⟩
  have h9:=aEy (w:=W) (e:=3) (size:=1) (n:=m2) (cs:=(gcs (List.replicate m2 (0:Int))).toArray) (by rw [List.size_toArray,aH,List.length_replicate];rfl) (by omega)
  rw [List.toList_toArray,HWS] at h9
  rw [← hW1]
  exact bC (aU h9 ((Ext.refl _).alloc' _)) (by omega))
 have HV1:=zh (show sg.V=(⟨oV BL 0,List.replicate m2 0,[],[],0⟩:StV) from by rw [← hsg];rfl)
 clear g2 g3 g4 hmk hsg hW1 hW HG HR HE HX1
 go_wp2_with fail
 go_loopw [4] (fun vi wr=>∃ (k:Nat) (s:StR),vi=.int .i64 (k:Int)∧k≤m3∧Hid (StB w wr (w.heap.size+3) s)∧Hid (Blk wr w.heap.size 40 (dY N Z B1 m1 d1 B2 m2 d2 B3 m3 d3))∧Hid (Blk wr (w.heap.size+1) 44 (ssA ss0))∧Hid (s.V=(⟨oV BL k,List.replicate m2 0,[],[],0⟩:StV))) (fun i _=>m3 - (intOf i).toNat)
 case atStart=>exact ⟨0,sg,rfl,Nat.zero_le _,HS1,HG1,HR1,HV1⟩
 case round =>
  clear HS1 HG1 HR1 HV1
  obtain ⟨k,s,rfl,hk,HS,HG,HR,HV⟩:=hrel
  have g4:wr.cell? ⟨w.heap.size,4,none⟩=some (.slice B3 m3 d3):=HG.out.cell 4
  by_cases hlt:k < m3
  ·have i0 : (0 : Int) ≤ (k : Int) := by omega
   have i1:(k:Int) < (m3:Int):=by omega
   obtain ⟨b,o,hab,-,-⟩:=HBL.out.at (by omega)
   subst hab
   have HCB:=zh (fun (V:World) (e:Ext w V)=>show V.cell? ⟨b,o+k,none⟩=some (.int .i64 (aM BL k)) from by
    obtain ⟨b2,o2,e2,hr2,-⟩:=(HBL.out.ext e).at (by omega)
    injection e2 with e3
    injection e3 with e4 e5
    subst e4
    subst e5
    have h5:=cP (k:=k) hr2 (by rw [HLEN.out];exact hlt)
    have h7:=h5 0 _ rfl
    rwa [show RowT.sz Int=1 from rfl,Nat.mul_one,Nat.add_zero] at h7)
   have HCW:=zh (show ceW (aP (k:Int)) from dJ (k:=1) (wfS ⟨by omega,by omega⟩) (wfS ⟨by omega,by omega⟩))
   have HAW:=zh (show wfI (aM BL k) from HBL.out.nth hlt)
   have HBD:=zh (show s.n1≤1000000∧s.n2≤1000000∧s.n3≤1000000∧s.n4≤1000000 from by
    have m1':=HS.out.own.l1;have m2':=HS.out.own.l2;have m3':=HS.out.own.l3;have m4':=HS.out.own.l4
    have hv:=HV.out
    rw [show s.C=oV BL k from congrArg StV.C hv] at m1'
    rw [show s.Q=List.replicate m2 0 from congrArg StV.Q hv,List.length_replicate] at m2'
    rw [show s.K=[] from congrArg StV.K hv] at m3'
    rw [show s.P=[] from congrArg StV.P hv] at m4'
    have h5:=aBZ BL k
    simp only [List.length_nil] at m3' m4'
    omega)
   have HS6:=zh (HS.out.ext ((Ext.refl wr).drew'))
   have HG6:=zh (HG.out.ext ((Ext.refl wr).drew'))
   have HR6:=zh (HR.out.ext ((Ext.refl wr).drew'))
   have HX6:=zh HS6.out.low
   go_upto_region 5 with fail
   clear g4
   refine wp_region_held_drew (S:=fun _=>True) (by kernel_rfl) (trivial) (fun aA=>?_)
   refine zzr [1,3,5] ?_
   refine zzj (VE 0 (.agg (ssA s)) (VE 2 (.agg (ceA (aP (k:Int)))) (VE 4 (.slice (some ⟨b,o,none⟩) m3 d3) (VE 6 (.pointer (some ⟨b,o+k,none⟩)) (VE 7 (.int .i64 (aM BL k)) (VV 8 (fun v V=>∃ s2,v=.agg (ssA s2)∧OwnS V w.heap.size s2∧s2.V=⟨dM s.C (aP (k:Int)) (aM BL k),s.Q,s.K,s.P,s.G⟩) VN)))))) [(0,some 18),(2,some 20),(4,some 22),(6,some 24),(7,some 25),(8,some 26)] 1 (fun _ _ h _=>h) (ve (ve (ve (ve (ve (VV.ext (fun v w w' ⟨s2,h1,h2,h3⟩ e=>⟨s2,h1,h2.ext e,h3⟩) VN.ext)))))) (zzc ?_ (zzc ?_ (zzc ?_ (zzc ?_ (zzc ?_ (zzc ?_ zzn)))))) ?_
   ·refine zzp fun W hE hS K hK => ?_
    obtain ⟨q0,q1,q2,q3,q4⟩:=aE (HS6.out.blk.ext hE)
    go_simp
    exact zzF hK (.agg (ssA s))
   ·refine zzp fun W hE hS K hK => ?_
    go_simp
    go_at_call 33
    refine (dE (k:Int) _).mono ?_
    rintro e w5 ⟨rfl,he5⟩
    exact zzK (hK.out (.agg (ceA (aP (k:Int)))) _ (he5) (rfl))
   ·refine zzp fun W hE hS K hK => ?_
    have g4:W.cell? ⟨w.heap.size,4,none⟩=some (.slice (some ⟨b,o,none⟩) m3 d3):=(HG6.out.ext hE).cell 4
    go_simp
    exact zzF hK (.slice (some ⟨b,o,none⟩) m3 d3)
   ·refine zm [(4, some 22)] fun env W hE hS hD K hK => ?_
    obtain ⟨h4,-⟩:=zzV hD
    clear hD
    simp only [aJ,h4] at hK ⊢
    clear h4
    go_simp
    exact zzF hK (.pointer (some ⟨b,o+k,none⟩))
   ·refine zm [(6, some 24)] fun env W hE hS hD K hK => ?_
    obtain ⟨h6,-⟩:=zzV hD
    clear hD
    simp only [aJ,h6] at hK ⊢
    clear h6
    have c9:=HCB.out W (HX6.out.trans hE)
    go_simp
    exact zzF hK (.int .i64 (aM BL k))
   ·refine zm [(0, some 18), (2, some 20), (7, some 25)] fun env W hE hS hD K hK => ?_
    obtain ⟨h0,h2,h7,-⟩:=zzV hD
    clear hD
    simp only [aJ,h0,h2,h7] at hK ⊢
    clear h0
    clear h2
    clear h7
    go_simp
    go_at_call 42
    refine (kV s (aP (k:Int)) (aM BL k) _ (HS6.out.own.ok.ext hE) HCW.out HAW.out HBD.out).mono ?_
    rintro e w5 ⟨s2,rfl,ho2,hv2,he5⟩
    exact zzK (hK.out (.agg (ssA s2)) _ (he5) (⟨s2,rfl,aX ho2 (Nat.le_trans HS6.out.low.size hE.size),hv2⟩))
   intro env W hE hS hV
   obtain ⟨h0,h2,h4,h6,h7,h8,-⟩:=zzV hV
   clear hV
   simp only [aJ,h0,h2,h4,h6,h7]
   clear h0
   clear h2
   clear h4
   clear h6
   clear h7
   generalize env 8=x8 at h8 ⊢
   obtain ⟨s2,rfl,ho2,hv2⟩:=h8
   have aA:=hS
   refine za 9 (fun K hK=>?_)
   (refine bE rfl (.tmp 3) (.tmp 26) (by rfl) (w.heap.size+3) (.agg (ssA s2)) s2 rfl (by rfl) (by rfl) (HS6.out.blk.ext hE) ?_;intro W9 h9)
   refine hK.out _ _ (trivial) (fun aA=>?_)
   clear hK K
   try simp only [bH]
   refine wpAnyH_done (by kernel_rfl) ?_ _
   have HF:=zh (show StB w W9 (w.heap.size+3) s2 from by rw [← h9.out.1];exact StB.start ho2 (HS6.out.blk.ext hE) (HS6.out.low.trans hE) (by omega))
   have HGF:=zh (show Blk W9 w.heap.size 40 (dY N Z B1 m1 d1 B2 m2 d2 (some ⟨b,o,none⟩) m3 d3) from by rw [← h9.out.1];exact (HG6.out.ext hE).grown (aB _ _ _ _) (fun e=>by injection e;omega))
   have HRF:=zh (show Blk W9 (w.heap.size+1) 44 (ssA ss0) from by rw [← h9.out.1];exact (HR6.out.ext hE).grown (aB _ _ _ _) (fun e=>by injection e;omega))
   have HVF:=zh (show s2.V=(⟨oV BL (k+1),List.replicate m2 0,[],[],0⟩:StV) from by
    have hh:=HV.out
    rw [hv2,yG,show s.C=_ from congrArg StV.C hh,show s.Q=_ from congrArg StV.Q hh,show s.K=_ from congrArg StV.K hh,show s.P=_ from congrArg StV.P hh,show s.G=_ from congrArg StV.G hh])
   clear h9 ho2 hv2 hE hS aA HS6 HG6 HR6
   go_wp2_with fail
   go_roundw
   case rel=>exact ⟨k+1,s2,by go_num,hlt,HF,HGF,HRF,HVF⟩
   case measure=>simp [intOf];omega
  obtain rfl:m3=k:=by omega
  have i1:¬ (m3:Int) < (m3:Int):=by omega
  have HV2:=zh (show s.V=(⟨vY Z (oV BL BL.length) 0,List.replicate m2 0,[],[],0⟩:StV) from by rw [HV.out,HLEN.out];rfl)
  obtain ⟨s9,hs9⟩:∃ s9,s=s9:=⟨_,rfl⟩
  subst hs9
  go_upto_region 6 with fail
  clear g4
  go_wp2_with fail
  obtain ⟨W0,rfl⟩:∃ W0,W0=wr:=⟨_,rfl⟩
  go_loopw [5] (fun vi wr=>∃ (k:Nat) (s:StR),vi=.int .i64 (k:Int)∧k≤m1∧Hid (StB w wr (w.heap.size+3) s)∧Hid (Blk wr w.heap.size 40 (dY N Z B1 m1 d1 B2 m2 d2 B3 m3 d3))∧Hid (Blk wr (w.heap.size+1) 44 (ssA ss0))∧Hid (s.V=(⟨vY Z (oV BL BL.length) k,List.replicate m2 0,[],[],0⟩:StV))) (fun i _=>m1 - (intOf i).toNat)
  case atStart=>exact ⟨0,s,rfl,Nat.zero_le _,HS,HG,HR,HV2⟩
  case round =>
   clear HS HG HR HV HV2
   obtain ⟨k,s,rfl,hk2,HS,HG,HR,HV⟩:=hrel
   have g2:wr.cell? ⟨w.heap.size,2,none⟩=some (.slice B1 m1 d1):=HG.out.cell 2
   by_cases hlt:k < m1
   ·have i0 : (0 : Int) ≤ (k : Int) := by omega
    have i2:(k:Int) < (m1:Int):=by omega
    have HCW:=zh (show ceW (bT (k:Int)) from dJ (k:=3) (wfS ⟨by omega,by omega⟩) (wfS ⟨by omega,by omega⟩))
    have HAW:=HZW
    have HBD:=zh (show s.n1≤1000000∧s.n2≤1000000∧s.n3≤1000000∧s.n4≤1000000 from by
     have m1':=HS.out.own.l1;have m2':=HS.out.own.l2;have m3':=HS.out.own.l3;have m4':=HS.out.own.l4
     have hv:=HV.out
     rw [show s.C=vY Z (oV BL BL.length) k from congrArg StV.C hv] at m1'
     rw [show s.Q=List.replicate m2 0 from congrArg StV.Q hv,List.length_replicate] at m2'
     rw [show s.K=[] from congrArg StV.K hv] at m3'
     rw [show s.P=[] from congrArg StV.P hv] at m4'
     have h5:=aBZ BL BL.length;have h6:=aFD Z (oV BL BL.length) k;have h7:=HLEN.out
     simp only [List.length_nil] at m3' m4'
     omega)
    have HS6:=zh (HS.out.ext ((Ext.refl wr).drew'))
    have HG6:=zh (HG.out.ext ((Ext.refl wr).drew'))
    have HR6:=zh (HR.out.ext ((Ext.refl wr).drew'))
    have HX6:=zh HS6.out.low
    go_upto_region 9 with fail
    clear g2
    refine wp_region_held_drew (S:=fun _=>True) (by kernel_rfl) (trivial) (fun aA=>?_)
    refine zzr [1,3] ?_
    refine zzj (VE 0 (.agg (ssA s)) (VE 2 (.agg (ceA (bT (k:Int)))) (VE 4 (.int .i64 Z) (VV 5 (fun v V=>∃ s2,v=.agg (ssA s2)∧OwnS V w.heap.size s2∧s2.V=⟨dM s.C (bT (k:Int)) (Z),s.Q,s.K,s.P,s.G⟩) VN)))) [(0,some 34),(2,some 36),(4,some 38),(5,some 39)] 1 (fun _ _ h _=>h) (ve (ve (ve (VV.ext (fun v w w' ⟨s2,h1,h2,h3⟩ e=>⟨s2,h1,h2.ext e,h3⟩) VN.ext)))) (zzc ?_ (zzc ?_ (zzc ?_ (zzc ?_ zzn)))) ?_
    ·refine zzp fun W hE hS K hK => ?_
     obtain ⟨q0,q1,q2,q3,q4⟩:=aE (HS6.out.blk.ext hE)
     go_simp
     exact zzF hK (.agg (ssA s))
    ·refine zzp fun W hE hS K hK => ?_
     go_simp
     go_at_call 49
     refine (lL (k:Int) _).mono ?_
     rintro e w5 ⟨rfl,he5⟩
     exact zzK (hK.out (.agg (ceA (bT (k:Int)))) _ (he5) (rfl))
    ·refine zzp fun W hE hS K hK => ?_
     have g1:W.cell? ⟨w.heap.size,1,none⟩=some (.int .i64 Z):=(HG6.out.ext hE).cell 1
     go_simp
     exact zzF hK (.int .i64 Z)
    ·refine zm [(0, some 34), (2, some 36), (4, some 38)] fun env W hE hS hD K hK => ?_
     obtain ⟨h0,h2,h4,-⟩:=zzV hD
     clear hD
     simp only [aJ,h0,h2,h4] at hK ⊢
     clear h0
     clear h2
     clear h4
     go_simp
     go_at_call 42
     refine (kV s (bT (k:Int)) (Z) _ (HS6.out.own.ok.ext hE) HCW.out HAW.out HBD.out).mono ?_
     rintro e w5 ⟨s2,rfl,ho2,hv2,he5⟩
     exact zzK (hK.out (.agg (ssA s2)) _ (he5) (⟨s2,rfl,aX ho2 (Nat.le_trans HS6.out.low.size hE.size),hv2⟩))
    intro env W hE hS hV
    obtain ⟨h0,h2,h4,h5,-⟩:=zzV hV
    clear hV
    simp only [aJ,h0,h2,h4]
    clear h0
    clear h2
    clear h4
    generalize env 5=x5 at h5 ⊢
    obtain ⟨s2,rfl,ho2,hv2⟩:=h5
    have aA:=hS
    refine za 6 (fun K hK=>?_)
    (refine bE rfl (.tmp 3) (.tmp 39) (by rfl) (w.heap.size+3) (.agg (ssA s2)) s2 rfl (by rfl) (by rfl) (HS6.out.blk.ext hE) ?_;intro W9 h9)
    refine hK.out _ _ (trivial) (fun aA=>?_)
    clear hK K
    try simp only [bH]
    refine wpAnyH_done (by kernel_rfl) ?_ _
    have HF:=zh (show StB w W9 (w.heap.size+3) s2 from by rw [← h9.out.1];exact StB.start ho2 (HS6.out.blk.ext hE) (HS6.out.low.trans hE) (by omega))
    have HGF:=zh (show Blk W9 w.heap.size 40 (dY N Z B1 m1 d1 B2 m2 d2 B3 m3 d3) from by rw [← h9.out.1];exact (HG6.out.ext hE).grown (aB _ _ _ _) (fun e=>by injection e;omega))
    have HRF:=zh (show Blk W9 (w.heap.size+1) 44 (ssA ss0) from by rw [← h9.out.1];exact (HR6.out.ext hE).grown (aB _ _ _ _) (fun e=>by injection e;omega))
    have HVF:=zh (show s2.V=(⟨vY Z (oV BL BL.length) (k+1),List.replicate m2 0,[],[],0⟩:StV) from by
     have hh:=HV.out
     rw [hv2,xL,show s.C=_ from congrArg StV.C hh,show s.Q=_ from congrArg StV.Q hh,show s.K=_ from congrArg StV.K hh,show s.P=_ from congrArg StV.P hh,show s.G=_ from congrArg StV.G hh])
    clear h9 ho2 hv2 hE hS aA HS6 HG6 HR6
    go_wp2_with fail
    go_roundw
    case rel=>exact ⟨k+1,s2,by go_num,hlt,HF,HGF,HRF,HVF⟩
    case measure=>simp [intOf];omega
   obtain rfl:m1=k:=by omega
   have i2:¬ (m1:Int) < (m1:Int):=by omega
   go_upto_region 10 with fail
   clear g2
   have HF:=HS
   have HRF:=HR
   obtain ⟨q0,q1,q2,q3,q4⟩:=aE HF.out.blk
   go_wp2_with ((with_reducible refine aF rfl (.tmp 2) (.tmp 40) rfl (w.heap.size+1) (s) rfl rfl HRF.out ?_);intro W9 h9)
   exact rtS _ _ HF.out HRF.out (by omega) h9 (HV.out)
theorem aGS (g:Int) {k:Nat} (hk:k≤9):(bits .and .i64 (g / 2 ^ k) 1 == 1)=fN g k:=by
 have h:=jJ (g / 2 ^ k) (k:=0) (by decide)
 rw [show ((2:Int) ^ 0)=1 from rfl] at h
 rw [h]
 have e:fN (g / 2 ^ k) 0=fN g k:=by unfold fN;rw [show ((2:Int) ^ 0)=1 from rfl,Int.ediv_one]
 rw [e]
 cases fN g k <;> rfl
theorem aAZ (g:Int) (k:Nat) (w:World) (hg:wfI g) (hk:k≤9):Calls Tryz.prog 112 #[.int .i64 g,.int .i64 (k:Int)] w fun e w'=>e=.returned (.bool (fN g k))∧Ext w w':=by
 have i0:(0:Int)≤(k:Int):=by omega
 have i1:(k:Int) < 10:=by omega
 have i2:((k:Int)).toNat=k:=by omega
 have i3:¬ (64:Int)≤(k:Int):=by omega
 have i4:(k:Int) < 64:=by omega
 have i5:IntKind.u64.wrap (k:Int)=(k:Int):=by simp [IntKind.wrap,IntKind.bits,IntKind.signed];omega
 have HF:=zh (aGS g hk)
 go_enter Tryz.func112,Tryz.ntmps112
 go_wp2_with fail
 go_ret
 exact ⟨by rw [← HF.out];rfl,Ext.refl w⟩
theorem aBb (k:Nat) (w:World) (hk:k≤9):Calls Tryz.prog 122 #[.int .i64 (k:Int)] w fun e w'=>e=.returned (.int .i64 (2 ^ k))∧Ext w w':=by
 have i0:(0:Int)≤(k:Int):=by omega
 have i1:(k:Int) < 10:=by omega
 have i2:((k:Int)).toNat=k:=by omega
 have i3:¬ (64:Int)≤(k:Int):=by omega
 have i4:(k:Int) < 64:=by omega
 have i5:IntKind.u64.wrap (k:Int)=(k:Int):=by simp [IntKind.wrap,IntKind.bits,IntKind.signed];omega
 have HF:=zh (show wrap64 (2 ^ k)=2 ^ k from by rw [← oW];exact iV (rA hk))
 go_enter Tryz.func122,Tryz.ntmps122
 go_wp2_with fail
 go_ret
 exact ⟨by have:=HF.out;(first | rw [this];rfl | (rw [← this];rfl)),Ext.refl w⟩
theorem aIY {w w':World} {base b2:Nat} {s s2:StR} {c:CeR} {a:Int} (h2:OwnS w base s2) (hv:s2.V=⟨dM s.C c a,s.Q,s.K,s.P,s.G⟩) (h:OwnS w' b2 s) (hb:s.n1≤999999∧s.n2≤1000000∧s.n3≤1000000∧s.n4≤1000000):s2.n1≤1000000∧s2.n2≤1000000∧s2.n3≤1000000∧s2.n4≤1000000:=by
 have e1:s2.C=dM s.C c a:=congrArg StV.C hv
 have e2:s2.Q=s.Q:=congrArg StV.Q hv
 have e3:s2.K=s.K:=congrArg StV.K hv
 have e4:s2.P=s.P:=congrArg StV.P hv
 have m1:=h2.l1;have m2:=h2.l2;have m3:=h2.l3;have m4:=h2.l4
 have l1:=h.l1;have l2:=h.l2;have l3:=h.l3;have l4:=h.l4
 rw [e1] at m1;rw [e2] at m2;rw [e3] at m3;rw [e4] at m4
 have h5:=qP s.C c a
 omega
theorem aCD (s0:StR) (g:Int) (w:World) (h:s0.ok w) (hg:wfI g) (hn:s0.n1≤900000∧s0.n2≤1000000∧s0.n3≤1000000∧s0.n4≤1000000):Calls Tryz.prog 121 #[.agg (ssA s0),.int .i64 g] w (gW w (vD g s0.V)):=by
 have HGM:=zh hg
 clear hg
 obtain ⟨W,hW,HB,HR,HE⟩:=en1 w s0
 obtain ⟨q0,q1,q2,q3,q4⟩:=aE HB.out
 have HS0:=zh h
 have HN:=zh hn
 clear h hn
 go_enter Tryz.func121,Tryz.ntmps121
 go_wp2_with fail
 refine (gJ s0 W (HS0.out.ext HE.out) (by have:=HN.out;omega)).mono ?_
 rintro e w5 ⟨s1,rfl,ho1,hv1,he5⟩
 clear q0 q1 q2 q3 q4
 go_upto_region 2 with ((with_reducible refine aF rfl (.tmp 2) (.tmp 8) rfl w.heap.size s1 rfl rfl (HB.out.ext he5) ?_);intro W7 h7)
 obtain ⟨HS7,hk7,HBD⟩:=cpS HS0 (by have:=HN.out;omega) HB HE ho1 hv1 he5 h7
 have HR7:=zh (hk7 _ _ _ HR.out (by omega))
 have HV1:=zh hv1
 clear hk7 h7 ho1 hv1 he5 HB HR HE
 have HV0:=zh (show s1.V=expN g s0.V 0 from HV1.out)
 have HN1:=HN
 go_wp2_with fail
 go_loopw [5] (fun vi wr=>∃ (k:Nat) (s:StR),vi=.int .i64 (k:Int)∧k≤10∧Hid (StB w wr w.heap.size s)∧Hid (Blk wr (w.heap.size+1) 44 (ssA ss0))∧Hid (s.V=expN g s0.V k)) (fun i _=>10 - (intOf i).toNat)
 case atStart=>exact ⟨0,s1,rfl,Nat.zero_le _,HS7,HR7,HV0⟩
 case round =>
  clear HS7 HR7 HV0 HV1 HBD
  obtain ⟨k,s,rfl,hk,HS,HR,HV⟩:=hrel
  by_cases hlt:k < 10
  ·have i0 : (0 : Int) ≤ (k : Int) := by omega
   have i1:(k:Int) < 10:=by omega
   have HK9:=zh (show k≤9 by omega)
   have HSG:=zh HS.out.own.g
   have HBS:=zh (show s.n1≤900000+20 * k∧s.n2≤1000000∧s.n3≤1000000∧s.n4≤1000000 from by
    have e1:s.C=(expN g s0.V k).C:=congrArg StV.C HV.out
    have e2:s.Q=s0.Q:=(congrArg StV.Q HV.out).trans (qF ..).1
    have e3:s.K=s0.K:=(congrArg StV.K HV.out).trans (aGE ..)
    have e4:s.P=s0.P:=(congrArg StV.P HV.out).trans (qF ..).2
    have m1:=HS.out.own.l1;have m2:=HS.out.own.l2;have m3:=HS.out.own.l3;have m4:=HS.out.own.l4
    have l1:=HS0.out.s1.len;have l2:=HS0.out.s2.len;have l3:=HS0.out.s3.len;have l4:=HS0.out.s4.len
    rw [e1] at m1;rw [e2] at m2;rw [e3] at m3;rw [e4] at m4
    have h5:=aAb g s0.V k
    have e6:s0.V.C=s0.C:=rfl
    rw [e6] at h5
    have:=HN1.out
    omega)
   have HS1:=zh (aAZ g k wr HGM.out HK9.out)
   go_wp2_with fail
   refine HS1.out.mono ?_
   rintro e W1 ⟨rfl,he1⟩
   have HSa:=zh (HS.out.ext he1)
   have HRa:=zh (HR.out.ext he1)
   clear HS HR HS1 he1
   have q4:W1.cell? ⟨w.heap.size,4,none⟩=some (.int .i64 s.G):=HSa.out.blk.cell 4
   cases hg1:fN g k with
   | false =>
    have HVF:=zh (show s.V=expN g s0.V (k+1) from by
     rw [fQ,← HV.out]
     unfold mV
     rw [if_neg (fun h=>by rw [hg1] at h;cases h.1)])
    go_wp2_with fail
    go_roundw
    case rel=>exact ⟨k+1,s,by go_num,hlt,HSa,HRa,HVF⟩
    case measure=>simp [intOf];omega
   | true =>
    have HG1:=zh hg1
    have HS2:=zh (aAZ s.G k W1 HSG.out HK9.out)
    go_wp2_with fail
    refine HS2.out.mono ?_
    rintro e W2 ⟨rfl,he2⟩
    have HSb:=zh (HSa.out.ext he2)
    have HRb:=zh (HRa.out.ext he2)
    clear HSa HRa HS2 he2 q4
    cases hg2:fN s.G k with
    | true =>
     have HVF:=zh (show s.V=expN g s0.V (k+1) from by
      rw [fQ,← HV.out]
      unfold mV
      rw [if_neg (fun h=>by have h2:fN s.G k=false:=h.2;rw [hg2] at h2;cases h2)])
     go_wp2_with fail
     go_roundw
     case rel=>exact ⟨k+1,s,by go_num,hlt,HSb,HRb,HVF⟩
     case measure=>simp [intOf];omega
    | false =>
     obtain ⟨gv,hgv⟩:∃ gv,cY s.C (bT (k:Int))=gv:=⟨_,rfl⟩
     have HGV:=zh hgv
     have HGW:=zh (show wfI gv from by rw [← hgv];exact sU HSb.out.own.k1)
     have HSW:=zh (show ceW (bT (k:Int)) from dJ (k:=3) (wfS ⟨by omega,by omega⟩) (wfS ⟨by omega,by omega⟩))
     have HPW:=zh (show ceW bV from dJ (k:=4) (i:=0) (wfS ⟨by omega,by omega⟩) (wfS ⟨by omega,by omega⟩))
     have HB1:=zh (show s.n1≤1000000∧s.n2≤1000000∧s.n3≤1000000∧s.n4≤1000000 from by have:=HBS.out;omega)
     have HB2:=zh (show s.n1≤999999∧s.n2≤1000000∧s.n3≤1000000∧s.n4≤1000000 from by have:=HBS.out;omega)
     have HVF:=zh (show (⟨dM (dM s.C (bT (k:Int)) (Go.Proofs.YtohmmcahpakokaaGreat.wr (-gv))) bV gv,s.Q,s.K,s.P,lT s.G k⟩:StV)=expN g s0.V (k+1) from by
      rw [fQ,← HV.out,← hgv]
      unfold mV
      rw [if_pos ⟨HG1.out,hg2⟩];rfl)
     have HOR:=zh (sE HSG.out HK9.out)
     clear hgv hg2
     have HS6:=zh (HSb.out.ext ((Ext.refl W2).drew'))
     have HR6:=zh (HRb.out.ext ((Ext.refl W2).drew'))
     have HGET:=zh (fun (V:World) (e:Ext W2.drew V)=>kW s (bT (k:Int)) V (HS6.out.own.ok.ext e) HSW.out)
     rw [HGV.out] at HGET
     go_upto_region 6 with fail
     refine wp_region_held_drew (S:=fun _=>True) (by kernel_rfl) (trivial) (fun aA=>?_)
     refine zt 1 aA ?_
     refine zzj (VE 0 (.agg (ssA s)) (VE 2 (.agg (ceA (bT (k:Int)))) (VE 3 (.int .i64 gv) VN))) [(0,some 23),(2,some 25),(3,some 26)] 1 (fun _ _ h _=>h) (ve (ve (ve VN.ext))) (zzc ?_ (zzc ?_ (zzc ?_ zzn))) ?_
     ·refine zzp fun W5 hE hS K hK => ?_
      obtain ⟨q0,q1,q2,q3,q4⟩:=aE (HS6.out.blk.ext hE)
      go_simp
      exact zzF hK (.agg (ssA s))
     ·refine zzp fun W5 hE hS K hK => ?_
      go_simp
      go_at_call 49
      refine (lL (k:Int) _).mono ?_
      rintro e w5 ⟨rfl,he5⟩
      exact zzK (hK.out (.agg (ceA (bT (k:Int)))) _ (he5) (rfl))
     ·refine zm [(0, some 23), (2, some 25)] fun env W5 hE hS hD K hK => ?_
      obtain ⟨h0,h2,-⟩:=zzV hD
      clear hD
      simp only [aJ,h0,h2] at hK ⊢
      clear h0
      clear h2
      go_simp
      go_at_call 30
      refine (HGET.out _ hE).mono ?_
      rintro e w5 ⟨rfl,he5⟩
      exact zzK (hK.out (.int .i64 gv) _ (he5) (rfl))
     intro env W5 hE hS hV
     obtain ⟨h0,h2,h3,-⟩:=zzV hV
     clear hV
     simp only [aJ,h0,h2,h3]
     clear h0
     clear h2
     clear h3
     have aA:=hS
     refine zt 4 aA ?_
     refine wpAnyH_done (by kernel_rfl) ?_ _
     have HS7a:=zh (HS6.out.ext hE)
     have HR7a:=zh (HR6.out.ext hE)
     clear hE hS aA HS6 HR6 HSb HRb HGET
     go_upto_region 7 with fail
     have HS7b:=zh (HS7a.out.ext ((Ext.refl W5).drew'))
     have HR7b:=zh (HR7a.out.ext ((Ext.refl W5).drew'))
     refine wp_region_held_drew (S:=fun _=>True) (by kernel_rfl) (trivial) (fun aA=>?_)
     refine zzr [1,3] ?_
     refine zu 4 (v:=.int .i64 (Go.Proofs.YtohmmcahpakokaaGreat.wr (-gv))) aA ?_ (hy:=by refine .inl ⟨by rfl,fun V _=>?_⟩;go_simp;(try rfl);(try exact congrArg _ (oW _).symm))
     refine zt 7 aA ?_
     refine bR (VV 0 (fun v V=>v=.agg (ssA s)) (VV 2 (fun v V=>v=.agg (ceA (bT (k:Int)))) (VV 5 (fun v V=>∃ s2,v=.agg (ssA s2)∧OwnS V w.heap.size s2∧s2.V=⟨dM s.C (bT (k:Int)) (Go.Proofs.YtohmmcahpakokaaGreat.wr (-gv)),s.Q,s.K,s.P,s.G⟩) (VV 6 (fun v V=>v=.agg (ceA bV)) (VV 8 (fun v V=>∃ s2,v=.agg (ssA s2)∧OwnS V w.heap.size s2∧s2.V=⟨dM (dM s.C (bT (k:Int)) (Go.Proofs.YtohmmcahpakokaaGreat.wr (-gv))) bV gv,s.Q,s.K,s.P,s.G⟩) (VN)))))) [(0,some 27),(2,some 29),(5,some 32),(6,some 33),(8,some 35)] (fuel:=1) (by kernel_rfl) (by kernel_rfl) (fun _ _ h _=>h) (VV.ext (fun v w w' h e=>h) (VV.ext (fun v w w' h e=>h) (VV.ext (fun v w w' ⟨s2,h1,h2,h3⟩ e=>⟨s2,h1,h2.ext e,h3⟩) (VV.ext (fun v w w' h e=>h) (VV.ext (fun v w w' ⟨s2,h1,h2,h3⟩ e=>⟨s2,h1,h2.ext e,h3⟩) (VN.ext)))))) aA ?hm2 rfl ?hr2
     case hm2 =>
      refine Members.cons ?mm2_0 (Members.cons ?mm2_2 (Members.cons ?mm2_5 (Members.cons ?mm2_6 (Members.cons ?mm2_8 (Members.nil _)))))
      case mm2_0 =>
       refine zm [] (fun env W hE hS hD K hK=>?_)
       clear hD
       try simp only [aJ]
       obtain ⟨q0,q1,q2,q3,q4⟩:=aE (HS7b.out.blk.ext hE)
       go_simp
       have hk:=hK.out (.agg (ssA s)) _ (Ext.refl _) (rfl)
       try simp only [aJ] at hk
       exact hk
      case mm2_2 =>
       refine zm [] (fun env W hE hS hD K hK=>?_)
       clear hD
       try simp only [aJ]
       go_simp
       go_at_call 49
       refine (lL (k:Int) _).mono ?_
       rintro e w5 ⟨rfl,he5⟩
       have hk:=hK.out (.agg (ceA (bT (k:Int)))) _ (he5) (rfl)
       try simp only [aJ] at hk
       exact hk
      case mm2_5 =>
       refine zm [(0,some 27),(2,some 29)] (fun env W hE hS hD K hK=>?_)
       have h0:(fun v V=>v=.agg (ssA s)) (env 0) W:=hD (0,some 27) (by simp)
       have h2:(fun v V=>v=.agg (ceA (bT (k:Int)))) (env 2) W:=hD (2,some 29) (by simp)
       clear hD
       try simp only [aJ] at hK ⊢
       generalize env 0=x0 at h0 hK ⊢
       generalize env 2=x2 at h2 hK ⊢
       subst h0
       subst h2
       go_simp
       go_at_call 42
       refine (kV s (bT (k:Int)) (Go.Proofs.YtohmmcahpakokaaGreat.wr (-gv)) _ (HS7b.out.own.ok.ext hE) HSW.out (eZ.2 (aDs _)) HB1.out).mono ?_
       rintro e w5 ⟨s2,rfl,ho2,hv2,he5⟩
       have hk:=hK.out (.agg (ssA s2)) _ (he5) (⟨s2,rfl,aX ho2 (Nat.le_trans HS7b.out.low.size hE.size),hv2⟩)
       try simp only [aJ] at hk
       exact hk
      case mm2_6 =>
       refine zm [] (fun env W hE hS hD K hK=>?_)
       clear hD
       try simp only [aJ]
       go_simp
       go_at_call 31
       refine (nH _).mono ?_
       rintro e w5 ⟨rfl,he5⟩
       have hk:=hK.out (.agg (ceA bV)) _ (he5) (rfl)
       try simp only [aJ] at hk
       exact hk
      case mm2_8 =>
       refine zm [(5,some 32),(6,some 33)] (fun env W hE hS hD K hK=>?_)
       have h5:(fun v V=>∃ s2,v=.agg (ssA s2)∧OwnS V w.heap.size s2∧s2.V=⟨dM s.C (bT (k:Int)) (Go.Proofs.YtohmmcahpakokaaGreat.wr (-gv)),s.Q,s.K,s.P,s.G⟩) (env 5) W:=hD (5,some 32) (by simp)
       have h6:(fun v V=>v=.agg (ceA bV)) (env 6) W:=hD (6,some 33) (by simp)
       clear hD
       try simp only [aJ] at hK ⊢
       generalize env 5=x5 at h5 hK ⊢
       generalize env 6=x6 at h6 hK ⊢
       obtain ⟨s9,rfl,ho9,hv9⟩:=h5
       subst h6
       go_simp
       go_at_call 42
       refine (kV s9 bV gv _ ho9.ok HPW.out HGW.out (aIY ho9 hv9 HS7b.out.own HB2.out)).mono ?_
       rintro e w5 ⟨s2,rfl,ho2,hv2,he5⟩
       have hk:=hK.out (.agg (ssA s2)) _ (he5) (⟨s2,rfl,aX ho2 (Nat.le_trans HS7b.out.low.size hE.size),by rw [hv2,show s9.C=_ from congrArg StV.C hv9,show s9.Q=_ from congrArg StV.Q hv9,show s9.K=_ from congrArg StV.K hv9,show s9.P=_ from congrArg StV.P hv9,show s9.G=_ from congrArg StV.G hv9]⟩)
       try simp only [aJ] at hk
       exact hk
     case hr2 =>
      intro env W hE hS hV
      have h0:(fun v V=>v=.agg (ssA s)) (env 0) W:=hV (0,some 27) (by simp)
      have h2:(fun v V=>v=.agg (ceA (bT (k:Int)))) (env 2) W:=hV (2,some 29) (by simp)
      have h5:(fun v V=>∃ s2,v=.agg (ssA s2)∧OwnS V w.heap.size s2∧s2.V=⟨dM s.C (bT (k:Int)) (Go.Proofs.YtohmmcahpakokaaGreat.wr (-gv)),s.Q,s.K,s.P,s.G⟩) (env 5) W:=hV (5,some 32) (by simp)
      have h6:(fun v V=>v=.agg (ceA bV)) (env 6) W:=hV (6,some 33) (by simp)
      have h8:(fun v V=>∃ s2,v=.agg (ssA s2)∧OwnS V w.heap.size s2∧s2.V=⟨dM (dM s.C (bT (k:Int)) (Go.Proofs.YtohmmcahpakokaaGreat.wr (-gv))) bV gv,s.Q,s.K,s.P,s.G⟩) (env 8) W:=hV (8,some 35) (by simp)
      clear hV
      try simp only [aJ]
      generalize env 0=x0 at h0 ⊢
      generalize env 2=x2 at h2 ⊢
      generalize env 5=x5 at h5 ⊢
      generalize env 6=x6 at h6 ⊢
      generalize env 8=x8 at h8 ⊢
      subst h0
      subst h2
      subst h6
      obtain ⟨s9,rfl,-,-⟩:=h5
      obtain ⟨s2,rfl,ho2,hv2⟩:=h8
      have aA:=hS
      refine za 9 (fun K hK=>?_)
      (refine bE rfl (.tmp 2) (.tmp 35) (by rfl) w.heap.size (.agg (ssA s2)) s2 rfl (by rfl) (by rfl) (HS7b.out.blk.ext hE) ?_;intro W9 h9)
      refine hK.out _ _ (trivial) (fun aA=>?_)
      clear hK K
      try simp only [bH]
      refine wpAnyH_done (by kernel_rfl) ?_ _
      have HS8a:=zh (show StB w W9 w.heap.size s2 from by rw [← h9.out.1];exact StB.start ho2 (HS7b.out.blk.ext hE) (HS7b.out.low.trans hE) (Nat.le_refl _))
      have HR8a:=zh (show Blk W9 (w.heap.size+1) 44 (ssA ss0) from by rw [← h9.out.1];exact (HR7b.out.ext hE).grown (aB _ _ _ _) (fun e=>by injection e;omega))
      have HV8:=zh hv2
      have HG8:=zh (show s2.G=s.G from congrArg StV.G hv2)
      rw [← HG8.out] at HOR HVF HSG
      clear h9 ho2 hv2 hE hS aA HS7a HR7a HS7b HR7b
      go_upto_region 8 with fail
      have HS8:=zh (HS8a.out.ext ((Ext.refl W9).drew'))
      have HR8:=zh (HR8a.out.ext ((Ext.refl W9).drew'))
      refine wp_region_held_drew (S:=fun _=>True) (by kernel_rfl) (trivial) (fun aA=>?_)
      refine zzr [0,2] ?_
      refine bR (VV 1 (fun v V=>v=.int .i64 s2.G) (VV 3 (fun v V=>v=.int .i64 (2 ^ k)) (VN))) [(1,some 37),(3,some 39)] (fuel:=3) (by kernel_rfl) (by kernel_rfl) (fun _ _ h _=>h) (VV.ext (fun v w w' h e=>h) (VV.ext (fun v w w' h e=>h) (VN.ext))) aA ?hm3 rfl ?hr3
      case hm3 =>
       refine Members.cons ?mm3_1 (Members.cons ?mm3_3 (Members.nil _))
       case mm3_1 =>
        refine zm [] (fun env W hE hS hD K hK=>?_)
        clear hD
        try simp only [aJ]
        have q4:=(HS8.out.blk.ext hE).cell 4
        have q5:W.cell? ⟨w.heap.size,4,none⟩=some (.int .i64 s2.G):=q4
        go_simp
        have hk:=hK.out (.int .i64 s2.G) _ (Ext.refl _) (rfl)
        try simp only [aJ] at hk
        exact hk
       case mm3_3 =>
        refine zm [] (fun env W hE hS hD K hK=>?_)
        clear hD
        try simp only [aJ]
        go_simp
        go_at_call 122
        refine (aBb k _ HK9.out).mono ?_
        rintro e w5 ⟨rfl,he5⟩
        have hk:=hK.out (.int .i64 (2 ^ k)) _ (he5) (rfl)
        try simp only [aJ] at hk
        exact hk
      case hr3 =>
       intro env W hE hS hV
       have h1:(fun v V=>v=.int .i64 s2.G) (env 1) W:=hV (1,some 37) (by simp)
       have h3:(fun v V=>v=.int .i64 (2 ^ k)) (env 3) W:=hV (3,some 39) (by simp)
       clear hV
       try simp only [aJ]
       generalize env 1=x1 at h1 ⊢
       generalize env 3=x3 at h3 ⊢
       subst h1
       subst h3
       have aA:=hS
       refine zu 4 (v:=.int .i64 (lT s2.G k)) aA ?_ (hy:=by refine .inl ⟨by rfl,fun V _=>?_⟩;rw [← HOR.out];go_simp;try rfl)
       refine zt 5 aA ?_
       refine za 6 (fun K hK=>?_)
       (have q9:W.cell? ⟨w.heap.size,4,none⟩=some (.int .i64 s2.G):=(HS8.out.blk.ext hE).cell 4;have f9:=(HS8.out.blk.ext hE).frozen 4;go_simp)
       refine hK.out _ _ (trivial) (fun aA=>?_)
       clear hK K
       try simp only [bH]
       refine wpAnyH_done (by kernel_rfl) ?_ _
       have HF:=zh (show StB w (W.setCell ⟨w.heap.size,4,none⟩ (.int .i64 (lT s2.G k))) w.heap.size { s2 with G:=lT s2.G k } from (HS8.out.ext hE).guilty (lT s2.G k) (tC HSG.out HK9.out))
       have HRF:=zh (show Blk (W.setCell ⟨w.heap.size,4,none⟩ (.int .i64 (lT s2.G k))) (w.heap.size+1) 44 (ssA ss0) from (HR8.out.ext hE).far (p:=⟨w.heap.size,4,none⟩) (show w.heap.size+1 ≠ w.heap.size by omega) _)
       have HVN:=zh (show (⟨s2.C,s2.Q,s2.K,s2.P,lT s2.G k⟩:StV)=expN g s0.V (k+1) from by
        rw [← HVF.out]
        have h8:=HV8.out
        rw [show s2.C=_ from congrArg StV.C h8,show s2.Q=_ from congrArg StV.Q h8,show s2.K=_ from congrArg StV.K h8,show s2.P=_ from congrArg StV.P h8])
       obtain ⟨WF,hWF⟩:∃ WF,W.setCell ⟨w.heap.size,4,none⟩ (.int .i64 (lT s2.G k))=WF:=⟨_,rfl⟩
       try rw [hWF]
       rw [hWF] at HF HRF
       clear hWF hE hS aA HS8 HR8 HS8a HR8a
       go_wp2_with fail
       go_roundw
       case rel=>exact ⟨k+1,{ s2 with G:=lT s2.G k },by go_num,hlt,HF,HRF,HVN⟩
       case measure=>simp [intOf];omega
  obtain rfl:k=10:=by omega
  have HSP:=zh (show s.V=vD g s0.V from HV.out)
  go_upto_region 9 with fail
  have HF:=HS
  have HRF:=HR
  obtain ⟨q0,q1,q2,q3,q4⟩:=aE HF.out.blk
  go_wp2_with ((with_reducible refine aF rfl (.tmp 4) (.tmp 42) rfl (w.heap.size+1) (s) rfl rfl HRF.out ?_);intro W9 h9)
  exact rtS _ _ HF.out HRF.out (by omega) h9 (HSP.out)
end
end Go.Proofs.YtohmmcahpakokaaGreat
