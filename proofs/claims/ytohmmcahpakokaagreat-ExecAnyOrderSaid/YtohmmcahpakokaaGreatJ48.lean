/- The reference's GenesisState. -/
import Derived.Test.YtohmmcahpakokaaGreatJ44
import Derived.Test.YtohmmcahpakokaaGreatJ46
import Derived.Test.YtohmmcahpakokaaGreatJ47
set_option maxRecDepth 100000
set_option maxHeartbeats 8000000
set_option linter.unusedVariables false
set_option linter.unusedSimpArgs false
namespace Go.Proofs.YtohmmcahpakokaaGreat
section
open Go.RowKit
attribute [local go_sem ↓] Go.wp_at_zero Go.wp_at_succ
theorem aFi {w:World} {e:TypeId} {size n:Nat} {cs:Array Value} (hc:cs.size=n * size) (hn:n≤9223372036854775807):(w.alloc (.cells cs e)).ownsRow w.heap.size e size (.slice (some ⟨w.heap.size,0,none⟩) n n) n cs.toList :=
 ⟨by rw [Array.length_toList,hc],.inr ⟨w.heap.size,n,cs,rfl,Nat.le_refl _,heap_alloc_new w _,Nat.le_refl _,hn,hc,by rw [← hc,← Array.length_toList];exact List.take_length⟩⟩
theorem aIt (L:List Int):gcs L=ics L:=by
 induction L with
 | nil=>rfl
 | cons x r ih=>rw [cW,ih];rfl
theorem aIq (n:Nat) (hn:n≤1000) (w:World):(Instr.makeSlice 38 (.int .i64 (n:Int)) (.int .i64 (n:Int))).run Tryz.prog w=.ok (.slice (some ⟨w.heap.size,0,none⟩) n n) (w.alloc (.cells (gcs (List.replicate n (0:Int))).toArray 3)):=by
 obtain ⟨i,hi,hz,hs,hby⟩:=inE.get
 have h:=run_make (P:=Tryz.prog) w 38 3 i (.int .i64 0) inE.ut hi hz .i64 .i64 n n (by omega) (by omega) (by rw [hby];omega) (by omega)
 rw [hs,Nat.mul_one,Int.toNat_natCast] at h
 have e:madeCells (Value.int .i64 0).cells n=(gcs (List.replicate n (0:Int))).toArray:=by
  rw [aIt]
  unfold ics madeCells
  rw [List.map_replicate]
  apply Array.ext
  ·simp
  intro j h1 h2
  simp [Value.cells,iv,Nat.mod_one]
 rw [e] at h
 exact h
def oY (BL:List Int) (n:Nat):List DeR:=(List.range n).foldl (fun C (i:Nat)=>dK C (aZ (i:Int)) (nthG BL i)) []
def wE (Z:Int) (C:List DeR) (n:Nat):List DeR:=(List.range n).foldl (fun C (i:Nat)=>dK C (cK (i:Int)) Z) C
theorem yO (BL:List Int) (n:Nat):oY BL (n+1)=dK (oY BL n) (aZ (n:Int)) (nthG BL n):=by unfold oY;rw [List.range_succ,List.foldl_append];rfl
theorem xO (Z:Int) (C:List DeR) (n:Nat):wE Z C (n+1)=dK (wE Z C n) (cK (n:Int)) Z:=by unfold wE;rw [List.range_succ,List.foldl_append];rfl
theorem aCz (BL:List Int) (n:Nat):(oY BL n).length≤n:=by
 induction n with
 | zero=>exact Nat.le_refl _
 | succ n ih=>rw [yO];have:=wD (oY BL n) (aZ (n:Int)) (nthG BL n);omega
theorem aGs (Z:Int) (C:List DeR) (n:Nat):(wE Z C n).length≤C.length+n:=by
 induction n with
 | zero=>exact Nat.le_refl _
 | succ n ih=>rw [xO];have:=wD (wE Z C n) (cK (n:Int)) Z;omega
def aJs (m2:Nat) (BL:List Int) (Z:Int) (m1:Nat):StV:=⟨wE Z (oY BL BL.length) m1,List.replicate m2 0,[],[],0⟩
theorem aFf (N Z:Int) (B1:Option Addr) (m1 d1:Nat) (B2:Option Addr) (m2 d2:Nat) (B3:Option Addr) (m3 d3:Nat) (BL:List Int) (w:World) (hB:SlG w B3 m3 d3 BL) (hz:wfI Z) (h1:m1≤1000) (h2:m2≤1000) (h3:m3≤1000) :
  Calls Tryz.prog 40 #[.agg (dT N Z B1 m1 d1 B2 m2 d2 B3 m3 d3)] w (lZ w (aJs m2 BL Z m1)):=by
 obtain ⟨W,hW⟩:∃ W,(w.alloc (.cells (dT N Z B1 m1 d1 B2 m2 d2 B3 m3 d3) 40)).alloc (.cells #[.slice none 0 0,.slice none 0 0,.slice none 0 0,.slice none 0 0,.int .i64 0] 44)=W:=⟨_,rfl⟩
 have HG:=zh (show Blk W w.heap.size 40 (dT N Z B1 m1 d1 B2 m2 d2 B3 m3 d3) from by rw [← hW];exact (Blk.new w 40 (dT N Z B1 m1 d1 B2 m2 d2 B3 m3 d3)).alloc _)
 have HR:=zh (show Blk W (w.heap.size+1) 44 (ssA ss0) from by rw [← hW];exact Blk.newAt _ _ _ _ (by simp))
 have HE:=zh (show Ext w W from by rw [← hW];exact ((Ext.refl w).alloc' _).alloc' _)
 have HWS:W.heap.size=w.heap.size+2:=by rw [← hW];simp
 have HBL:=zh hB
 have HLEN:=zh hB.len
 have HZW:=zh hz
 have hle:=hB.le
 have hcap:=hB.cap
 have g2:=HG.out.cell 2
 have g3:=HG.out.cell 3
 have g4:=HG.out.cell 4
 have hmk:=aIq m2 h2
 clear hB hz
 go_enter Tryz.func40,Tryz.ntmps40
 go_upto_region 2 with fail
 obtain ⟨sg,hsg⟩:∃ sg:StR,(⟨none,0,0,[],some ⟨w.heap.size+2,0,none⟩,m2,m2,List.replicate m2 0,none,0,0,[],none,0,0,[],0⟩:StR)=sg:=⟨_,rfl⟩
 obtain ⟨W1,hW1⟩:∃ W1,(W.alloc (.cells (gcs (List.replicate m2 (0:Int))).toArray 3)).alloc (.cells #[.slice none 0 0,.slice (some ⟨w.heap.size+2,0,none⟩) m2 m2,.slice none 0 0,.slice none 0 0,.int .i64 0] 44)=W1:=⟨_,rfl⟩
 rw [hW1]
 have HX1:=zh (show Ext W W1 from by rw [← hW1];exact ((Ext.refl W).alloc' _).alloc' _)
 have HG1:=zh (HG.out.ext HX1.out)
 have HR1:=zh (HR.out.ext HX1.out)
 have HS1:=zh (show StB w W1 (w.heap.size+3) sg from by
  refine ⟨?_,?_,HE.out.trans HX1.out,by omega⟩
  ·rw [← hW1,← hsg];exact Blk.newAt _ _ _ _ (by simp;omega)
  rw [← hsg]
  refine ⟨World.ownsRow_nil _ _ _ _,?_,World.ownsRow_nil _ _ _ _,World.ownsRow_nil _ _ _ _,fun d hd=>by (cases hd),fun z hz=>by (rw [List.eq_of_mem_replicate hz];exact (wfS ⟨by decide,by decide⟩:wfI (0:Int))),fun d hd=>by (cases hd),(wfS ⟨by decide,by decide⟩:wfI (0:Int))⟩
  have h9:=aFi (w:=W) (e:=3) (size:=1) (n:=m2) (cs:=(gcs (List.replicate m2 (0:Int))).toArray) (by rw [List.size_toArray,aH,List.length_replicate];rfl) (by omega)
  rw [List.toList_toArray,HWS] at h9
  rw [← hW1]
  exact bB (bA h9 ((Ext.refl _).alloc' _)) (by omega))
 have HV1:=zh (show sg.V=(⟨oY BL 0,List.replicate m2 0,[],[],0⟩:StV) from by rw [← hsg];rfl)
 clear g2 g3 g4 hmk hsg hW1 hW HG HR HE HX1
 go_wp2_with fail
 go_loopw [4] (fun vi wr=>∃ (k:Nat) (s:StR),vi=.int .i64 (k:Int)∧k≤m3∧Hid (StB w wr (w.heap.size+3) s)∧Hid (Blk wr w.heap.size 40 (dT N Z B1 m1 d1 B2 m2 d2 B3 m3 d3))∧Hid (Blk wr (w.heap.size+1) 44 (ssA ss0))∧Hid (s.V=(⟨oY BL k,List.replicate m2 0,[],[],0⟩:StV))) (fun i _=>m3 - (intOf i).toNat)
 case atStart=>exact ⟨0,sg,rfl,Nat.zero_le _,HS1,HG1,HR1,HV1⟩
 case round =>
  clear HS1 HG1 HR1 HV1
  obtain ⟨k,s,rfl,hk,HS,HG,HR,HV⟩:=hrel
  have g4:wr.cell? ⟨w.heap.size,4,none⟩=some (.slice B3 m3 d3):=HG.out.cell 4
  by_cases hlt:k < m3
  ·have i0 : (0 : Int) ≤ (k : Int) := by omega
   have i1:(k:Int) < (m3:Int):=by omega
   obtain ⟨b,o,hab,-,-⟩:=HBL.out.at (by omega)
   subst hab
   have HCB:=zh (fun (V:World) (e:Ext w V)=>show V.cell? ⟨b,o+k,none⟩=some (.int .i64 (nthG BL k)) from by
    obtain ⟨b2,o2,e2,hr2,-⟩:=(HBL.out.ext e).at (by omega)
    injection e2 with e3
    injection e3 with e4 e5
    subst e4
    subst e5
    have h5:=cG (k:=k) hr2 (by rw [HLEN.out];exact hlt)
    have h7:=h5 0 _ rfl
    rwa [show RowT.sz Int=1 from rfl,Nat.mul_one,Nat.add_zero] at h7)
   have HCW:=zh (show ceW (aZ (k:Int)) from fO (k:=1) (wfS ⟨by omega,by omega⟩) (wfS ⟨by omega,by omega⟩))
   have HAW:=zh (show wfI (nthG BL k) from HBL.out.nth hlt)
   have HBD:=zh (show s.n1≤1000000∧s.n2≤1000000∧s.n3≤1000000∧s.n4≤1000000 from by
    have m1':=HS.out.own.l1;have m2':=HS.out.own.l2;have m3':=HS.out.own.l3;have m4':=HS.out.own.l4
    have hv:=HV.out
    rw [show s.C=oY BL k from congrArg StV.C hv] at m1'
    rw [show s.Q=List.replicate m2 0 from congrArg StV.Q hv,List.length_replicate] at m2'
    rw [show s.K=[] from congrArg StV.K hv] at m3'
    rw [show s.P=[] from congrArg StV.P hv] at m4'
    have h5:=aCz BL k
    simp only [List.length_nil] at m3' m4'
    omega)
   have HS6:=zh (HS.out.ext ((Ext.refl wr).drew'))
   have HG6:=zh (HG.out.ext ((Ext.refl wr).drew'))
   have HR6:=zh (HR.out.ext ((Ext.refl wr).drew'))
   have HX6:=zh HS6.out.low
   go_upto_region 5 with fail
   clear g4
   refine wp_region_held_drew (S:=fun _=>True) (by kernel_rfl) (trivial) (fun aA=>?_)
   refine zzr [1,3,5] ?_
   refine zzj (VE 0 (.agg (ssA s)) (VE 2 (.agg (ceA (aZ (k:Int)))) (VE 4 (.slice (some ⟨b,o,none⟩) m3 d3) (VE 6 (.pointer (some ⟨b,o+k,none⟩)) (VE 7 (.int .i64 (nthG BL k)) (VV 8 (fun v V=>∃ s2,v=.agg (ssA s2)∧OwnS V w.heap.size s2∧s2.V=⟨dK s.C (aZ (k:Int)) (nthG BL k),s.Q,s.K,s.P,s.G⟩) VN)))))) [(0,some 18),(2,some 20),(4,some 22),(6,some 24),(7,some 25),(8,some 26)] 1 (fun _ _ h _=>h) (ve (ve (ve (ve (ve (VV.ext (fun v w w' ⟨s2,h1,h2,h3⟩ e=>⟨s2,h1,h2.ext e,h3⟩) VN.ext)))))) (zzc ?_ (zzc ?_ (zzc ?_ (zzc ?_ (zzc ?_ (zzc ?_ zzn)))))) ?_
   ·refine zzp fun W hE hS K hK => ?_
    obtain ⟨q0,q1,q2,q3,q4⟩:=aE (HS6.out.blk.ext hE)
    go_simp
    exact zzF hK (.agg (ssA s))
   ·refine zzp fun W hE hS K hK => ?_
    go_simp
    go_at_call 33
    refine (iZ (k:Int) _).mono ?_
    rintro e w5 ⟨rfl,he5⟩
    exact zzK (hK.out (.agg (ceA (aZ (k:Int)))) _ (he5) (rfl))
   ·refine zzp fun W hE hS K hK => ?_
    have g4:W.cell? ⟨w.heap.size,4,none⟩=some (.slice (some ⟨b,o,none⟩) m3 d3):=(HG6.out.ext hE).cell 4
    go_simp
    exact zzF hK (.slice (some ⟨b,o,none⟩) m3 d3)
   ·refine zm [(4, some 22)] fun env W hE hS hD K hK => ?_
    obtain ⟨h4,-⟩:=zzV hD
    clear hD
    simp only [aO,h4] at hK ⊢
    clear h4
    go_simp
    exact zzF hK (.pointer (some ⟨b,o+k,none⟩))
   ·refine zm [(6, some 24)] fun env W hE hS hD K hK => ?_
    obtain ⟨h6,-⟩:=zzV hD
    clear hD
    simp only [aO,h6] at hK ⊢
    clear h6
    have c9:=HCB.out W (HX6.out.trans hE)
    go_simp
    exact zzF hK (.int .i64 (nthG BL k))
   ·refine zm [(0, some 18), (2, some 20), (7, some 25)] fun env W hE hS hD K hK => ?_
    obtain ⟨h0,h2,h7,-⟩:=zzV hD
    clear hD
    simp only [aO,h0,h2,h7] at hK ⊢
    clear h0
    clear h2
    clear h7
    go_simp
    go_at_call 42
    refine (uD s (aZ (k:Int)) (nthG BL k) _ (HS6.out.own.ok.ext hE) HCW.out HAW.out HBD.out).mono ?_
    rintro e w5 ⟨s2,rfl,ho2,hv2,he5⟩
    exact zzK (hK.out (.agg (ssA s2)) _ (he5) (⟨s2,rfl,bJ ho2 (Nat.le_trans HS6.out.low.size hE.size),hv2⟩))
   intro env W hE hS hV
   obtain ⟨h0,h2,h4,h6,h7,h8,-⟩:=zzV hV
   clear hV
   simp only [aO,h0,h2,h4,h6,h7]
   clear h0
   clear h2
   clear h4
   clear h6
   clear h7
   generalize env 8=x8 at h8 ⊢
   obtain ⟨s2,rfl,ho2,hv2⟩:=h8
   have aA:=hS
   refine za 9 (fun K hK=>?_)
   (refine bC rfl (.tmp 3) (.tmp 26) (by rfl) (w.heap.size+3) (.agg (ssA s2)) s2 rfl (by rfl) (by rfl) (HS6.out.blk.ext hE) ?_;intro W9 h9)
   refine hK.out _ _ (trivial) (fun aA=>?_)
   clear hK K
   try simp only [aS]
   refine wpAnyH_done (by kernel_rfl) ?_ _
   have HF:=zh (show StB w W9 (w.heap.size+3) s2 from by rw [← h9.out.1];exact StB.start ho2 (HS6.out.blk.ext hE) (HS6.out.low.trans hE) (by omega))
   have HGF:=zh (show Blk W9 w.heap.size 40 (dT N Z B1 m1 d1 B2 m2 d2 (some ⟨b,o,none⟩) m3 d3) from by rw [← h9.out.1];exact (HG6.out.ext hE).grown (aC _ _ _ _) (fun e=>by injection e;omega))
   have HRF:=zh (show Blk W9 (w.heap.size+1) 44 (ssA ss0) from by rw [← h9.out.1];exact (HR6.out.ext hE).grown (aC _ _ _ _) (fun e=>by injection e;omega))
   have HVF:=zh (show s2.V=(⟨oY BL (k+1),List.replicate m2 0,[],[],0⟩:StV) from by
    have hh:=HV.out
    rw [hv2,yO,show s.C=_ from congrArg StV.C hh,show s.Q=_ from congrArg StV.Q hh,show s.K=_ from congrArg StV.K hh,show s.P=_ from congrArg StV.P hh,show s.G=_ from congrArg StV.G hh])
   clear h9 ho2 hv2 hE hS aA HS6 HG6 HR6
   go_wp2_with fail
   go_roundw
   case rel=>exact ⟨k+1,s2,by go_num,hlt,HF,HGF,HRF,HVF⟩
   case measure=>simp [intOf];omega
  obtain rfl:m3=k:=by omega
  have i1:¬ (m3:Int) < (m3:Int):=by omega
  have HV2:=zh (show s.V=(⟨wE Z (oY BL BL.length) 0,List.replicate m2 0,[],[],0⟩:StV) from by rw [HV.out,HLEN.out];rfl)
  obtain ⟨s9,hs9⟩:∃ s9,s=s9:=⟨_,rfl⟩
  subst hs9
  go_upto_region 6 with fail
  clear g4
  go_wp2_with fail
  obtain ⟨W0,rfl⟩:∃ W0,W0=wr:=⟨_,rfl⟩
  go_loopw [5] (fun vi wr=>∃ (k:Nat) (s:StR),vi=.int .i64 (k:Int)∧k≤m1∧Hid (StB w wr (w.heap.size+3) s)∧Hid (Blk wr w.heap.size 40 (dT N Z B1 m1 d1 B2 m2 d2 B3 m3 d3))∧Hid (Blk wr (w.heap.size+1) 44 (ssA ss0))∧Hid (s.V=(⟨wE Z (oY BL BL.length) k,List.replicate m2 0,[],[],0⟩:StV))) (fun i _=>m1 - (intOf i).toNat)
  case atStart=>exact ⟨0,s,rfl,Nat.zero_le _,HS,HG,HR,HV2⟩
  case round =>
   clear HS HG HR HV HV2
   obtain ⟨k,s,rfl,hk2,HS,HG,HR,HV⟩:=hrel
   have g2:wr.cell? ⟨w.heap.size,2,none⟩=some (.slice B1 m1 d1):=HG.out.cell 2
   by_cases hlt:k < m1
   ·have i0 : (0 : Int) ≤ (k : Int) := by omega
    have i2:(k:Int) < (m1:Int):=by omega
    have HCW:=zh (show ceW (cK (k:Int)) from fO (k:=3) (wfS ⟨by omega,by omega⟩) (wfS ⟨by omega,by omega⟩))
    have HAW:=HZW
    have HBD:=zh (show s.n1≤1000000∧s.n2≤1000000∧s.n3≤1000000∧s.n4≤1000000 from by
     have m1':=HS.out.own.l1;have m2':=HS.out.own.l2;have m3':=HS.out.own.l3;have m4':=HS.out.own.l4
     have hv:=HV.out
     rw [show s.C=wE Z (oY BL BL.length) k from congrArg StV.C hv] at m1'
     rw [show s.Q=List.replicate m2 0 from congrArg StV.Q hv,List.length_replicate] at m2'
     rw [show s.K=[] from congrArg StV.K hv] at m3'
     rw [show s.P=[] from congrArg StV.P hv] at m4'
     have h5:=aCz BL BL.length;have h6:=aGs Z (oY BL BL.length) k;have h7:=HLEN.out
     simp only [List.length_nil] at m3' m4'
     omega)
    have HS6:=zh (HS.out.ext ((Ext.refl wr).drew'))
    have HG6:=zh (HG.out.ext ((Ext.refl wr).drew'))
    have HR6:=zh (HR.out.ext ((Ext.refl wr).drew'))
    have HX6:=zh HS6.out.low
    go_upto_region 9 with fail
    clear g2
    refine wp_region_held_drew (S:=fun _=>True) (by kernel_rfl) (trivial) (fun aA=>?_)
    refine zzr [1,3] ?_
    refine zzj (VE 0 (.agg (ssA s)) (VE 2 (.agg (ceA (cK (k:Int)))) (VE 4 (.int .i64 Z) (VV 5 (fun v V=>∃ s2,v=.agg (ssA s2)∧OwnS V w.heap.size s2∧s2.V=⟨dK s.C (cK (k:Int)) (Z),s.Q,s.K,s.P,s.G⟩) VN)))) [(0,some 34),(2,some 36),(4,some 38),(5,some 39)] 1 (fun _ _ h _=>h) (ve (ve (ve (VV.ext (fun v w w' ⟨s2,h1,h2,h3⟩ e=>⟨s2,h1,h2.ext e,h3⟩) VN.ext)))) (zzc ?_ (zzc ?_ (zzc ?_ (zzc ?_ zzn)))) ?_
    ·refine zzp fun W hE hS K hK => ?_
     obtain ⟨q0,q1,q2,q3,q4⟩:=aE (HS6.out.blk.ext hE)
     go_simp
     exact zzF hK (.agg (ssA s))
    ·refine zzp fun W hE hS K hK => ?_
     go_simp
     go_at_call 49
     refine (aDg (k:Int) _).mono ?_
     rintro e w5 ⟨rfl,he5⟩
     exact zzK (hK.out (.agg (ceA (cK (k:Int)))) _ (he5) (rfl))
    ·refine zzp fun W hE hS K hK => ?_
     have g1:W.cell? ⟨w.heap.size,1,none⟩=some (.int .i64 Z):=(HG6.out.ext hE).cell 1
     go_simp
     exact zzF hK (.int .i64 Z)
    ·refine zm [(0, some 34), (2, some 36), (4, some 38)] fun env W hE hS hD K hK => ?_
     obtain ⟨h0,h2,h4,-⟩:=zzV hD
     clear hD
     simp only [aO,h0,h2,h4] at hK ⊢
     clear h0
     clear h2
     clear h4
     go_simp
     go_at_call 42
     refine (uD s (cK (k:Int)) (Z) _ (HS6.out.own.ok.ext hE) HCW.out HAW.out HBD.out).mono ?_
     rintro e w5 ⟨s2,rfl,ho2,hv2,he5⟩
     exact zzK (hK.out (.agg (ssA s2)) _ (he5) (⟨s2,rfl,bJ ho2 (Nat.le_trans HS6.out.low.size hE.size),hv2⟩))
    intro env W hE hS hV
    obtain ⟨h0,h2,h4,h5,-⟩:=zzV hV
    clear hV
    simp only [aO,h0,h2,h4]
    clear h0
    clear h2
    clear h4
    generalize env 5=x5 at h5 ⊢
    obtain ⟨s2,rfl,ho2,hv2⟩:=h5
    have aA:=hS
    refine za 6 (fun K hK=>?_)
    (refine bC rfl (.tmp 3) (.tmp 39) (by rfl) (w.heap.size+3) (.agg (ssA s2)) s2 rfl (by rfl) (by rfl) (HS6.out.blk.ext hE) ?_;intro W9 h9)
    refine hK.out _ _ (trivial) (fun aA=>?_)
    clear hK K
    try simp only [aS]
    refine wpAnyH_done (by kernel_rfl) ?_ _
    have HF:=zh (show StB w W9 (w.heap.size+3) s2 from by rw [← h9.out.1];exact StB.start ho2 (HS6.out.blk.ext hE) (HS6.out.low.trans hE) (by omega))
    have HGF:=zh (show Blk W9 w.heap.size 40 (dT N Z B1 m1 d1 B2 m2 d2 B3 m3 d3) from by rw [← h9.out.1];exact (HG6.out.ext hE).grown (aC _ _ _ _) (fun e=>by injection e;omega))
    have HRF:=zh (show Blk W9 (w.heap.size+1) 44 (ssA ss0) from by rw [← h9.out.1];exact (HR6.out.ext hE).grown (aC _ _ _ _) (fun e=>by injection e;omega))
    have HVF:=zh (show s2.V=(⟨wE Z (oY BL BL.length) (k+1),List.replicate m2 0,[],[],0⟩:StV) from by
     have hh:=HV.out
     rw [hv2,xO,show s.C=_ from congrArg StV.C hh,show s.Q=_ from congrArg StV.Q hh,show s.K=_ from congrArg StV.K hh,show s.P=_ from congrArg StV.P hh,show s.G=_ from congrArg StV.G hh])
    clear h9 ho2 hv2 hE hS aA HS6 HG6 HR6
    go_wp2_with fail
    go_roundw
    case rel=>exact ⟨k+1,s2,by go_num,hlt,HF,HGF,HRF,HVF⟩
    case measure=>simp [intOf];omega
   obtain rfl:m1=k:=by omega
   have i2:¬ (m1:Int) < (m1:Int):=by omega
   go_upto_region 10 with fail
   clear g2
   have HF:=HS
   have HRF:=HR
   obtain ⟨q0,q1,q2,q3,q4⟩:=aE HF.out.blk
   go_wp2_with ((with_reducible refine aK rfl (.tmp 2) (.tmp 40) rfl (w.heap.size+1) (s) rfl rfl HRF.out ?_);intro W9 h9)
   exact rtS _ _ HF.out HRF.out (by omega) h9 (HV.out)
def aMb (S:StV) (T:TtR):StV:=gQ S T.ac T.sq T.L
def lH (S:StV) (f:Nat→TtR):Nat→StV
 | 0=>S
 | i+1=>aMb (lH S f i) (f i)
theorem aGA (S:StV) (f:Nat→TtR) (i:Nat):(lH S f i).C.length≤S.C.length+88 * i∧(lH S f i).Q.length=S.Q.length∧(lH S f i).K.length≤S.K.length+4 * i∧(lH S f i).P.length≤S.P.length+i:=by
 induction i with
 | zero=>exact ⟨Nat.le_refl _,rfl,Nat.le_refl _,Nat.le_refl _⟩
 | succ i ih =>
  obtain ⟨a1,a2,a3,a4⟩:=ih
  obtain ⟨b1,b2,b3,b4⟩:=aGD (lH S f i) (f i).ac (f i).sq (f i).L
  show (gQ (lH S f i) (f i).ac (f i).sq (f i).L).C.length≤_∧(gQ (lH S f i) (f i).ac (f i).sq (f i).L).Q.length=_∧(gQ (lH S f i) (f i).ac (f i).sq (f i).L).K.length≤_∧(gQ (lH S f i) (f i).ac (f i).sq (f i).L).P.length≤_
  exact ⟨by omega,by rw [b2,a2],by omega,by omega⟩
theorem aEf {w w':World} {s t:StR} {f:Nat→TtR} {i:Nat} (h:s.ok w) (ht:t.ok w') (hv:t.V=lH s.V f i) (hn:s.n1≤100∧s.n2≤100∧s.n3≤100∧s.n4≤100) (hi:i≤12):t.n1≤200000∧t.n2≤200000∧t.n3≤200000∧t.n4≤200000:=by
 have h1:=aGA s.V f i
 rw [← hv] at h1
 have m1:=ht.s1.len;have m2:=ht.s2.len;have m3:=ht.s3.len;have m4:=ht.s4.len
 have l1:=h.s1.len;have l2:=h.s2.len;have l3:=h.s3.len;have l4:=h.s4.len
 have e1:t.V.C=t.C:=rfl
 have e2:t.V.Q=t.Q:=rfl
 have e3:t.V.K=t.K:=rfl
 have e4:t.V.P=t.P:=rfl
 have d1:s.V.C=s.C:=rfl
 have d2:s.V.Q=s.Q:=rfl
 have d3:s.V.K=s.K:=rfl
 have d4:s.V.P=s.P:=rfl
 rw [e1,e2,e3,e4,d1,d2,d3,d4] at h1
 omega
theorem aEe (S:StV) (f:Nat→TtR) (i:Nat) (hb:∀ j,j < i→noB (f j).L):(lH S f i).s3=((List.range i).map (fun j=>(f j).tr)).foldl eW S.s3:=by
 induction i with
 | zero=>rfl
 | succ i ih =>
  rw [List.range_succ,List.map_append,List.foldl_append,← ih (fun j hj=>hb j (by omega))]
  exact aJU (hb i (by omega)) (lH S f i)
theorem aEO (n k:Nat) (hk:k < n):((List.range n).map (fun j=>(j+k) % n)).Perm (List.range n):=by
 have h:(List.range n).map (fun j=>(j+k) % n)=(List.range n).drop k ++ (List.range n).take k:=by
  apply List.ext_getElem
  ·simp;omega
  intro i h1 h2
  simp only [List.length_map,List.length_range] at h1
  rw [List.getElem_map,List.getElem_range]
  by_cases hi:i < n - k
  ·rw [List.getElem_append_left (by simp; omega), List.getElem_drop, List.getElem_range, Nat.mod_eq_of_lt (by omega)]
   omega
  rw [List.getElem_append_right (by simp;omega),List.getElem_take,List.getElem_range]
  simp only [List.length_drop,List.length_range]
  rw [Nat.mod_eq_sub_mod (by omega),Nat.mod_eq_of_lt (by omega)]
  omega
 rw [h]
 exact List.perm_append_comm.trans (by rw [List.take_append_drop])
theorem aFU {S:StV} {L:List TtR} {k:Nat} (hS:VldS S) (hk:k < L.length) (hb:∀ j,j < L.length→noB (nthG L j).L) (hc:aJh L) :
  (lH S (fun j=>nthG L j) L.length).s3=(lH S (fun j=>nthG L ((j+k) % L.length)) L.length).s3:=by
 rw [aEe _ _ _ hb,aEe _ _ _ (fun j hj=>hb _ (Nat.mod_lt _ (by omega)))]
 have e:(List.range L.length).map (fun j=>(nthG L ((j+k) % L.length)).tr)=((List.range L.length).map (fun j=>(j+k) % L.length)).map (fun j=>(nthG L j).tr):=by rw [List.map_map];rfl
 rw [e]
 have hm:∀ t,t ∈ (List.range L.length).map (fun j=>(nthG L j).tr)→∃ T,T ∈ L∧T.tr=t:=fun t ht=>by
  obtain ⟨j,hj,rfl⟩:=List.mem_map.1 ht
  exact ⟨_,gE (List.mem_range.1 hj),rfl⟩
 refine aFa (((aEO L.length k hk).map _).symm) ⟨hS.asc,hS.nz,hS.app⟩ ?_ ?_
 ·intro t ht ho
  obtain ⟨T,_,rfl⟩:=hm t ht
  exact (eO ho).1.1
 intro t u ht hu h1 h2 hn
 obtain ⟨T,hT,rfl⟩:=hm t ht
 obtain ⟨U,hU,rfl⟩:=hm u hu
 exact aLb (hc T U hT hU h1 h2 hn) h1 h2 hn
end
section
open Go.RowKit
def opW (n:Int) (A1:Option Addr) (c1:Nat) (A2:Option Addr) (c2:Nat):OpR:=⟨1,1,n,0,0,0,0,A1,0,c1,[],A2,0,c2,[]⟩
def aJX (n:Int):OpV:=⟨1,1,n,0,0,0,0,[],[]⟩
theorem aLe {n:Int} {R:OpR} {w:World} (h:R.ok w) (hv:R.v=aJX n):∃ A1 c1 A2 c2,R=opW n A1 c1 A2 c2:=by
 obtain ⟨k,to',am,ul,va,lk,hs,A1,n1,c1,pre,A2,n2,c2,prf⟩:=R
 have h1:=h.pre.len
 have h2:=h.prf.len
 unfold OpR.v aJX at hv
 injection hv with e1 e2 e3 e4 e5 e6 e7 e8 e9
 simp only at h1 h2 e1 e2 e3 e4 e5 e6 e7 e8 e9
 subst e1;subst e2;subst e3;subst e4;subst e5;subst e6;subst e7;subst e8;subst e9
 simp only [List.length_nil] at h1 h2
 subst h1;subst h2
 exact ⟨A1,c1,A2,c2,rfl⟩
theorem aJV {n:Int} {L:List OpR} {w:World} (h:∀ R,R ∈ L→R.ok w) (hv:L.map OpR.v=[aJX n]):∃ A1 c1 A2 c2,L=[opW n A1 c1 A2 c2]:=by
 cases L with
 | nil=>simp at hv
 | cons R r =>
  cases r with
  | nil =>
   obtain ⟨A1,c1,A2,c2,rfl⟩:=aLe (h R (by simp)) (by simpa using hv)
   exact ⟨A1,c1,A2,c2,rfl⟩
  | cons _ _=>simp at hv
def S22:StV:=aJs 2 [5,0] 3 1
section
variable (H:List UInt8→UInt64) (ev:OpR→Bool) (A1:Option Addr) (c1:Nat) (A2:Option Addr) (c2:Nat)
theorem vW6:vTx 0 0 [opW 6 A1 c1 A2 c2]=true:=by kernel_rfl
theorem vW4:vTx 0 0 [opW 4 A1 c1 A2 c2]=true:=by kernel_rfl
theorem aMa:iX 1 3 1 2 2 [5,0]=true:=by decide
theorem aLR:S22=⟨[⟨aZ 0,5⟩,⟨cK 0,3⟩],[0,0],[],[],0⟩:=by kernel_rfl
theorem aLN:qF (gS 2 1 1 H ev 0) true 2 true S22 0 0 [opW 6 A1 c1 A2 c2]=100:=by kernel_rfl
theorem aLO:qF (gS 2 1 1 H ev 0) true 2 true S22 0 0 [opW 4 A1 c1 A2 c2]=0:=by kernel_rfl
theorem aLC:(xC (gS 2 1 1 H ev 0) true 2 true S22 0 0 [opW 4 A1 c1 A2 c2]).C=[⟨aZ 0,1⟩,⟨aZ 1,4⟩,⟨cK 0,3⟩]:=by kernel_rfl
theorem aLF:kU 0 0 [opW 4 A1 c1 A2 c2]=4:=by kernel_rfl
theorem aLE:kU 0 0 [opW 6 A1 c1 A2 c2]=6:=by kernel_rfl
theorem aLM:(oR 0 0 [opW 4 A1 c1 A2 c2]).length=2:=by kernel_rfl
theorem aLL:(oR 0 0 [opW 6 A1 c1 A2 c2]).length=2:=by kernel_rfl
theorem aJI:(gQ S22 0 0 [opW 6 A1 c1 A2 c2]).C=[⟨aZ 0,-1⟩,⟨aZ 1,6⟩,⟨cK 0,3⟩]:=by kernel_rfl
theorem aLD:dK [⟨aZ 0,-1⟩,⟨aZ 1,6⟩,⟨cK 0,3⟩] bU 4=[⟨aZ 0,-1⟩,⟨aZ 1,6⟩,⟨cK 0,3⟩,⟨bU,4⟩]:=by kernel_rfl
theorem aMg:aLo [⟨aZ 0,-1⟩,⟨aZ 1,6⟩,⟨cK 0,3⟩,⟨bU,4⟩]=[⟨aZ 1,6⟩,⟨cK 0,3⟩,⟨bU,3⟩]:=by kernel_rfl
theorem aMf:aFH 1 S22=⟨[⟨aZ 0,5⟩,⟨bU,3⟩],[0,0],[],[],1⟩:=by kernel_rfl
theorem aLK:bW [⟨aZ 0,1⟩,⟨aZ 1,4⟩,⟨cK 0,3⟩] (aZ 1)=4:=by kernel_rfl
theorem aLJ:bW [⟨aZ 0,-1⟩,⟨aZ 1,6⟩,⟨cK 0,3⟩] (aZ 0)=-1:=by kernel_rfl
theorem aLI:bW [⟨aZ 1,6⟩,⟨cK 0,3⟩,⟨bU,3⟩] (aZ 0)=0:=by kernel_rfl
theorem aLH:bW [⟨aZ 1,6⟩,⟨cK 0,3⟩,⟨bU,3⟩] bU=3:=by kernel_rfl
theorem aLG:bW [⟨aZ 0,5⟩,⟨bU,3⟩] bU=3:=by kernel_rfl
end
end
section
open Go.RowKit
attribute [local go_sem ↓] Go.wp_at_zero Go.wp_at_succ
section
variable {ops:Array Oper} {rest:List Oper} {o o2:Oper} {a:Act} {w:World} {K:Act→World→Prop} {Q:Exit→Act→World→Prop}
theorem fW (hgd:o.guard=none) (ty:TypeId) (x y:Operand) (ho:o.op=.store ty x y) (cs ds:Array Value) (v:Value) (hv:Value.agg ds=v) (hx:a.eval x=.pointer (some ⟨w.heap.size,0,none⟩)) (hy:a.eval y=v) (hcs:ds.size=cs.size) (hi:(Tryz.prog.info? ty).map (·.size)=some ds.size) (h1:ds.all (·.oneCell')=true)
  (h:∀ W2 g,Hid (Blk W2 g ty ds∧Ext w W2∧w.heap.size=g)→wpList Tryz.prog ops Q rest (a.put o.dst undef) W2):wpList Tryz.prog ops Q (o :: rest) a (w.alloc (.cells cs ty)):=by
 subst hv
 refine wpList_store_mid hgd ty x y ho w.heap.size 0 ds hx hy (by rw [hcs];exact aT (Blk.new w ty cs)) hi h1 ?_
 rw [eU w ty cs ds hcs]
 exact h _ _ (zh ⟨Blk.new w ty ds,(Ext.refl w).alloc' _,rfl⟩)
theorem iG (hgd:o.guard=none) (ty:TypeId) (x y:Operand) (ho:o.op=.store ty x y) (g:Nat) (cs ds:Array Value) (v:Value) (hv:Value.agg ds=v) (hx:a.eval x=.pointer (some ⟨g,0,none⟩)) (hy:a.eval y=v) (hcs:ds.size=cs.size) (hi:(Tryz.prog.info? ty).map (·.size)=some ds.size) (h1:ds.all (·.oneCell')=true) (hb:Blk w g ty cs)
  (h:∀ W2,Hid (Blk W2 g ty ds∧w.setCells g 0 ds.toList=W2)→wpList Tryz.prog ops Q rest (a.put o.dst undef) W2):wpList Tryz.prog ops Q (o :: rest) a w:=by
 subst hv
 exact wpList_store_mid hgd ty x y ho g 0 ds hx hy (by rw [hcs];exact aT hb) hi h1 (h _ (zh ⟨aR hb hcs,rfl⟩))
end
theorem aFo (n:Int):opA (opW n none 0 none 0)=#[.int .i64 1,.int .i64 1,.int .i64 n,.int .i64 0,.int .i64 0,.int .u8 0,.int .u8 0,.int .u8 0,.int .u8 0,.int .u8 0,.int .u8 0,.int .u8 0,.int .u8 0,.int .u8 0,.int .u8 0,.int .u8 0,.int .u8 0,.int .u8 0,.int .u8 0,.int .u8 0,.int .u8 0,.slice none 0 0,.slice none 0 0]:=by
 unfold opA opW;simp only [cN 0 (by omega),cN 1 (by omega),cN 2 (by omega),cN 3 (by omega),cN 4 (by omega),cN 5 (by omega),cN 6 (by omega),cN 7 (by omega)]
theorem aLc (n:Int) (w:World) (g:Nat) (t:TypeId) (h:Blk w g t (opA (opW n none 0 none 0))):SlO w (some ⟨g,0,none⟩) 1 1 [opW n none 0 none 0] :=
 ⟨rfl,Nat.le_refl _,by omega,by
  have e:ocs [opW n none 0 none 0]=(opA (opW n none 0 none 0)).toList:=by rw [mQ,aEk,List.append_nil];rfl
  rw [e];exact Rd.of_blk h,fun R hR=>by
  rw [List.mem_singleton] at hR
  subst hR
  exact ⟨SlB.nil w,SlB.nil w⟩⟩
def tS (n:Int) (A:Option Addr) (c:Nat) (S:Option Addr) (m d:Nat) (A1:Option Addr) (c1:Nat) (A2:Option Addr) (c2:Nat) (sg:List UInt8):TxR:=⟨0,0,A,1,c,S,m,d,[opW n A1 c1 A2 c2],sg⟩
def aMh (n:Int) (w:World) (e:Ending) (w':World):Prop:=∃ (A:Option Addr) (c:Nat) (S:Option Addr) (m d:Nat) (A1:Option Addr) (c1:Nat) (A2:Option Addr) (c2:Nat) (sg:List UInt8),e=.returned (.tuple #[.agg (stA 0 0 A 1 c S m d),.int .i64 0])∧(tS n A c S m d A1 c1 A2 c2 sg).ok w'∧vSg (kK dU 1) (tS n A c S m d A1 c1 A2 c2 sg)=true∧Ext w w'
theorem tN (n:Int) (hn:n=6 ∨ n=4) (w:World):Calls Tryz.prog 41 #[.agg #[.int .u8 1,.int .u8 0,.int .u8 0,.int .u8 0,.int .u8 0,.int .u8 0,.int .u8 0,.int .u8 0],.agg #[.int .i64 0,.int .i64 0,.slice (some ⟨w.heap.size,0,none⟩) 1 1]] (w.alloc (.cells #[.int .i64 1,.int .i64 1,.int .i64 n,.int .i64 0,.int .i64 0,.int .u8 0,.int .u8 0,.int .u8 0,.int .u8 0,.int .u8 0,.int .u8 0,.int .u8 0,.int .u8 0,.int .u8 0,.int .u8 0,.int .u8 0,.int .u8 0,.int .u8 0,.int .u8 0,.int .u8 0,.int .u8 0,.slice none 0 0,.slice none 0 0] 69)) (aMh n w):=by
 rw [← kI,← aFo n]
 refine (wL dU 0 0 (some ⟨w.heap.size,0,none⟩) 1 1 [opW n none 0 none 0] _ (aLc n _ _ 69 (Blk.new w _ _))).mono ?_
 have hV:vTx 0 0 [opW n none 0 none 0]=true:=by rcases hn with rfl | rfl;exact vW6 none 0 none 0;exact vW4 none 0 none 0
 rintro e w' ⟨he,h⟩
 rcases h with ⟨h,-⟩ | ⟨-,T,rfl,hT,hv⟩
 ·rw [hV] at h;cases h
 have hl:aDT [opW n none 0 none 0]:=by
  intro R hR
  rw [List.mem_singleton] at hR
  subst hR
  exact ⟨rfl,rfl⟩
 have h1:=aEN dU _ 0 0 _ rfl hl hV T (aIm hT) hv
 obtain ⟨ac,sq,A,k,c,S,m,d,L,sg⟩:=T
 unfold TxR.v at hv
 simp only [Prod.mk.injEq] at hv
 obtain ⟨rfl,rfl,h3,h4⟩:=hv
 have hops:=hT.ops
 simp only at hops h3 h4
 obtain ⟨A1,c1,A2,c2,rfl⟩:=aJV hops.ok h3
 have h5:1=k:=hops.len
 subst h5
 exact ⟨A,c,S,m,d,A1,c1,A2,c2,sg,rfl,hT,h1,((Ext.refl w).alloc' _).trans he⟩
theorem aLB (H:List UInt8→UInt64) (ev:OpR→Bool) (A1:Option Addr) (c1:Nat) (A2:Option Addr) (c2:Nat):xC (gS 2 1 1 H ev 0) true 2 true S22 0 0 [opW 6 A1 c1 A2 c2]=S22:=by kernel_rfl
theorem aJQ {w:World} {A:Option Addr} {n c:Nat} {l:List Int} (h:SlG w A n c l):SlZ w A n c l:=⟨h.len,h.le,h.cap,by
 have e:gcs l=ics l:=by
  induction l with
  | nil=>rfl
  | cons x r ih =>
   clear h ih
   generalize x :: r=L
   induction L with
   | nil=>rfl
   | cons y q iq=>rw [cW,iq];rfl
 rw [← e];exact h.rd⟩
theorem aDS {w:World} {s:StR} (h:s.ok w) (hv:s.V=S22):s.n1≤200000∧s.n2≤200000∧s.n3≤200000∧s.n4≤200000:=by
 rw [aLR] at hv
 have e1:s.C=_:=congrArg StV.C hv
 have e2:s.Q=_:=congrArg StV.Q hv
 have e3:s.K=_:=congrArg StV.K hv
 have e4:s.P=_:=congrArg StV.P hv
 have l1:=h.s1.len
 have l2:=h.s2.len
 have l3:=h.s3.len
 have l4:=h.s4.len
 rw [e1] at l1;rw [e2] at l2;rw [e3] at l3;rw [e4] at l4
 simp only [List.length_cons,List.length_nil] at l1 l2 l3 l4
 omega
theorem vL (n:Int) (hn:n=6 ∨ n=4) (s:StR) (hv:s.V=S22) (B1 B2 B3 A:Option Addr) (c:Nat) (S:Option Addr) (m d:Nat) (A1:Option Addr) (c1:Nat) (A2:Option Addr) (c2:Nat) (sg:List UInt8) (w:World) (hs:s.ok w) (hN:SlG w B2 2 2 [kK dU 1,kK lG 1]) (hB:SlG w B3 2 2 [(5:Int),0]) (hT:(tS n A c S m d A1 c1 A2 c2 sg).ok w) (hg:vSg (kK dU 1) (tS n A c S m d A1 c1 A2 c2 sg)=true) :
  Calls Tryz.prog 20 #[.agg (dT 1 3 B1 1 1 B2 2 2 B3 2 2),.agg (ssA s),.agg (stA 0 0 A 1 c S m d),.int .i64 1] w (fun e w'=>∃ (s2:StR) (A9:Option Addr) (n9 c9:Nat) (g9:Int),e=.returned (.tuple #[.agg (ssA s2),.agg (rcA ⟨if n=6 then 100 else 0,A9,n9,c9,if n=6 then 0 else 4,g9⟩)])∧s2.ok w'∧(n=6→s2.V=S22)∧(n=4→s2.C=[⟨aZ 0,1⟩,⟨aZ 1,4⟩,⟨cK 0,3⟩]∧n9=2)∧Ext w w'):=by
 have hA:=aCb ⟨1,3,B1,1,1,B2,2,2,B3,2,2,s,0,0,A,1,c,1⟩ S m d [opW n A1 c1 A2 c2] sg [kK dU 1,kK lG 1] [5,0] (fun _=>false) true true _ w hs hT hN (aJQ hB) (show (1:Nat)≤9223372036854775807 from by decide) (aDS hs hv) (by
  intro R hR
  rw [List.mem_singleton] at hR
  subst hR
  exact Nat.zero_le _) aMa hg rfl (by
  intro R hR hk
  rw [List.mem_singleton] at hR
  subst hR
  exact absurd (show (1:Int)=6 from hk) (by decide))
 refine hA.mono ?_
 simp only
 rw [hv]
 rintro e w' ⟨s2,A9,n9,c9,rfl,ho,hV,hl,he⟩
 rcases hn with rfl | rfl
 ·rw [aLN] at hl ⊢
  rw [aLB] at hV ⊢
  exact ⟨s2,A9,n9,c9,_,rfl,ho.ok,fun _=>hV,fun h=>absurd h (by decide),he⟩
 rw [aLO] at hl ⊢
 refine ⟨s2,A9,n9,c9,rcG 0 S22 (xC (gS 2 1 1 dO (fun _=>false) 0) true 2 true S22 0 0 [opW 4 A1 c1 A2 c2]),?_,ho.ok,fun h=>absurd h (by decide),fun _=>⟨?_,?_⟩,he⟩
 ·rw [if_neg (by decide),if_neg (by decide),show rcO 0 0 0 [opW 4 A1 c1 A2 c2]=4 from by unfold rcO;rw [if_pos rfl,aLF]]
 ·exact (congrArg StV.C hV).trans (aLC _ _ A1 c1 A2 c2)
 have h1:=hl.len
 unfold rcE at h1
 rw [if_pos rfl,aLM] at h1
 exact h1.symm
end
end Go.Proofs.YtohmmcahpakokaaGreat
