/- The reference's GenesisState. -/
import Derived.Test.YtohmmcahpakokaaGreatD45
import Derived.Test.YtohmmcahpakokaaGreatD46
import Derived.Test.YtohmmcahpakokaaGreatD47
set_option maxRecDepth 100000
set_option maxHeartbeats 8000000
set_option linter.unusedVariables false
set_option linter.unusedSimpArgs false
namespace Go.Proofs.YtohmmcahpakokaaGreat
section
open Go.RowKit
attribute [local go_sem ↓] Go.wp_at_zero Go.wp_at_succ
theorem own_fresh {w:World} {e:TypeId} {size n:Nat} {cs:Array Value} (hc:cs.size=n * size) (hn:n≤9223372036854775807):(w.alloc (.cells cs e)).ownsRow w.heap.size e size (.slice (some ⟨w.heap.size,0,none⟩) n n) n cs.toList :=
 ⟨by rw [Array.length_toList,hc],.inr ⟨w.heap.size,n,cs,rfl,Nat.le_refl _,heap_alloc_new w _,Nat.le_refl _,hn,hc,by rw [← hc,← Array.length_toList];exact List.take_length⟩⟩
theorem gcs_int (L:List Int):gcs L=ics L:=by
 induction L with
 | nil=>rfl
 | cons x r ih=>rw [gcs_cons,ih];rfl
theorem hmkInts (n:Nat) (hn:n≤1000) (w:World):(Instr.makeSlice 38 (.int .i64 (n:Int)) (.int .i64 (n:Int))).run Tryz.prog w=.ok (.slice (some ⟨w.heap.size,0,none⟩) n n) (w.alloc (.cells (gcs (List.replicate n (0:Int))).toArray 3)):=by
 obtain ⟨i,hi,hz,hs,hby⟩:=inE.get
 have h:=run_make (P:=Tryz.prog) w 38 3 i (.int .i64 0) inE.ut hi hz .i64 .i64 n n (by omega) (by omega) (by rw [hby];omega) (by omega)
 rw [hs,Nat.mul_one,Int.toNat_natCast] at h
 have e:madeCells (Value.int .i64 0).cells n=(gcs (List.replicate n (0:Int))).toArray:=by
  rw [gcs_int]
  unfold ics madeCells
  rw [List.map_replicate]
  apply Array.ext
  ·simp
  intro j h1 h2
  simp [Value.cells,iv,Nat.mod_one]
 rw [e] at h
 exact h
def balN (BL:List Int) (n:Nat):List DeR:=(List.range n).foldl (fun C (i:Nat)=>addC C (balC (i:Int)) (nthG BL i)) []
def stkN (Z:Int) (C:List DeR) (n:Nat):List DeR:=(List.range n).foldl (fun C (i:Nat)=>addC C (stkC (i:Int)) Z) C
theorem balN_succ (BL:List Int) (n:Nat):balN BL (n+1)=addC (balN BL n) (balC (n:Int)) (nthG BL n):=by unfold balN;rw [List.range_succ,List.foldl_append];rfl
theorem stkN_succ (Z:Int) (C:List DeR) (n:Nat):stkN Z C (n+1)=addC (stkN Z C n) (stkC (n:Int)) Z:=by unfold stkN;rw [List.range_succ,List.foldl_append];rfl
theorem balN_len (BL:List Int) (n:Nat):(balN BL n).length≤n:=by
 induction n with
 | zero=>exact Nat.le_refl _
 | succ n ih=>rw [balN_succ];have:=addC_len (balN BL n) (balC (n:Int)) (nthG BL n);omega
theorem stkN_len (Z:Int) (C:List DeR) (n:Nat):(stkN Z C n).length≤C.length+n:=by
 induction n with
 | zero=>exact Nat.le_refl _
 | succ n ih=>rw [stkN_succ];have:=addC_len (stkN Z C n) (stkC (n:Int)) Z;omega
def genSt (m2:Nat) (BL:List Int) (Z:Int) (m1:Nat):StV:=⟨stkN Z (balN BL BL.length) m1,List.replicate m2 0,[],[],0⟩
theorem rGenS_any (N Z:Int) (B1:Option Addr) (m1 d1:Nat) (B2:Option Addr) (m2 d2:Nat) (B3:Option Addr) (m3 d3:Nat) (BL:List Int) (w:World) (hB:SlG w B3 m3 d3 BL) (hz:wfI Z) (h1:m1≤1000) (h2:m2≤1000) (h3:m3≤1000) :
  Calls Tryz.prog 40 #[.agg (genC N Z B1 m1 d1 B2 m2 d2 B3 m3 d3)] w (StOut w (genSt m2 BL Z m1)):=by
 obtain ⟨W,hW⟩:∃ W,(w.alloc (.cells (genC N Z B1 m1 d1 B2 m2 d2 B3 m3 d3) 40)).alloc (.cells #[.slice none 0 0,.slice none 0 0,.slice none 0 0,.slice none 0 0,.int .i64 0] 44)=W:=⟨_,rfl⟩
 have HG:=zh (show Blk W w.heap.size 40 (genC N Z B1 m1 d1 B2 m2 d2 B3 m3 d3) from by rw [← hW];exact (Blk.new w 40 (genC N Z B1 m1 d1 B2 m2 d2 B3 m3 d3)).alloc _)
 have HR:=zh (show Blk W (w.heap.size+1) 44 (ssA ss0) from by rw [← hW];exact Blk.newAt _ _ _ _ (by simp))
 have HE:=zh (show Ext w W from by rw [← hW];exact ((Ext.refl w).alloc' _).alloc' _)
 have HWS:W.heap.size=w.heap.size+2:=by rw [← hW];simp
 have HBL:=zh hB
 have HLEN:=zh hB.len
 have HZW:=zh hz
 have hle:=hB.le
 have hcap:=hB.cap
 have g2:=HG.out.cell 2
 have g3:=HG.out.cell 3
 have g4:=HG.out.cell 4
 have hmk:=hmkInts m2 h2
 clear hB hz
 go_enter Tryz.func40,Tryz.ntmps40
 go_upto_region 2 with fail
 obtain ⟨sg,hsg⟩:∃ sg:StR,(⟨none,0,0,[],some ⟨w.heap.size+2,0,none⟩,m2,m2,List.replicate m2 0,none,0,0,[],none,0,0,[],0⟩:StR)=sg:=⟨_,rfl⟩
 obtain ⟨W1,hW1⟩:∃ W1,(W.alloc (.cells (gcs (List.replicate m2 (0:Int))).toArray 3)).alloc (.cells #[.slice none 0 0,.slice (some ⟨w.heap.size+2,0,none⟩) m2 m2,.slice none 0 0,.slice none 0 0,.int .i64 0] 44)=W1:=⟨_,rfl⟩
 rw [hW1]
 have HX1:=zh (show Ext W W1 from by rw [← hW1];exact ((Ext.refl W).alloc' _).alloc' _)
 have HG1:=zh (HG.out.ext HX1.out)
 have HR1:=zh (HR.out.ext HX1.out)
 have HS1:=zh (show StB w W1 (w.heap.size+3) sg from by
  refine ⟨?_,?_,HE.out.trans HX1.out,by omega⟩
  ·rw [← hW1,← hsg];exact Blk.newAt _ _ _ _ (by simp;omega)
  rw [← hsg]
  refine ⟨World.ownsRow_nil _ _ _ _,?_,World.ownsRow_nil _ _ _ _,World.ownsRow_nil _ _ _ _,fun d hd=>by (cases hd),fun z hz=>by (rw [List.eq_of_mem_replicate hz];exact (wfS ⟨by decide,by decide⟩:wfI (0:Int))),fun d hd=>by (cases hd),(wfS ⟨by decide,by decide⟩:wfI (0:Int))⟩
  have h9:=own_fresh (w:=W) (e:=3) (size:=1) (n:=m2) (cs:=(gcs (List.replicate m2 (0:Int))).toArray) (by rw [List.size_toArray,gL,List.length_replicate];rfl) (by omega)
  rw [List.toList_toArray,HWS] at h9
  rw [← hW1]
  exact own_mono (own_ext h9 ((Ext.refl _).alloc' _)) (by omega))
 have HV1:=zh (show sg.V=(⟨balN BL 0,List.replicate m2 0,[],[],0⟩:StV) from by rw [← hsg];rfl)
 clear g2 g3 g4 hmk hsg hW1 hW HG HR HE HX1
 go_wp2_with fail
 go_loopw [4] (fun vi wr=>∃ (k:Nat) (s:StR),vi=.int .i64 (k:Int)∧k≤m3∧Hid (StB w wr (w.heap.size+3) s)∧Hid (Blk wr w.heap.size 40 (genC N Z B1 m1 d1 B2 m2 d2 B3 m3 d3))∧Hid (Blk wr (w.heap.size+1) 44 (ssA ss0))∧Hid (s.V=(⟨balN BL k,List.replicate m2 0,[],[],0⟩:StV))) (fun i _=>m3 - (intOf i).toNat)
 case atStart=>exact ⟨0,sg,rfl,Nat.zero_le _,HS1,HG1,HR1,HV1⟩
 case round =>
  clear HS1 HG1 HR1 HV1
  obtain ⟨k,s,rfl,hk,HS,HG,HR,HV⟩:=hrel
  have g4:wr.cell? ⟨w.heap.size,4,none⟩=some (.slice B3 m3 d3):=HG.out.cell 4
  by_cases hlt:k < m3
  ·have i0 : (0 : Int) ≤ (k : Int) := by omega
   have i1:(k:Int) < (m3:Int):=by omega
   obtain ⟨b,o,hab,-,-⟩:=HBL.out.at (by omega)
   subst hab
   have HCB:=zh (fun (V:World) (e:Ext w V)=>show V.cell? ⟨b,o+k,none⟩=some (.int .i64 (nthG BL k)) from by
    obtain ⟨b2,o2,e2,hr2,-⟩:=(HBL.out.ext e).at (by omega)
    injection e2 with e3
    injection e3 with e4 e5
    subst e4
    subst e5
    have h5:=el_at (k:=k) hr2 (by rw [HLEN.out];exact hlt)
    have h7:=h5 0 _ rfl
    rwa [show RowT.sz Int=1 from rfl,Nat.mul_one,Nat.add_zero] at h7)
   have HCW:=zh (show ceW (balC (k:Int)) from ce_ok (k:=1) (wfS ⟨by omega,by omega⟩) (wfS ⟨by omega,by omega⟩))
   have HAW:=zh (show wfI (nthG BL k) from HBL.out.nth hlt)
   have HBD:=zh (show s.n1≤1000000∧s.n2≤1000000∧s.n3≤1000000∧s.n4≤1000000 from by
    have m1':=HS.out.own.l1;have m2':=HS.out.own.l2;have m3':=HS.out.own.l3;have m4':=HS.out.own.l4
    have hv:=HV.out
    rw [show s.C=balN BL k from congrArg StV.C hv] at m1'
    rw [show s.Q=List.replicate m2 0 from congrArg StV.Q hv,List.length_replicate] at m2'
    rw [show s.K=[] from congrArg StV.K hv] at m3'
    rw [show s.P=[] from congrArg StV.P hv] at m4'
    have h5:=balN_len BL k
    simp only [List.length_nil] at m3' m4'
    omega)
   have HS6:=zh (HS.out.ext ((Ext.refl wr).drew'))
   have HG6:=zh (HG.out.ext ((Ext.refl wr).drew'))
   have HR6:=zh (HR.out.ext ((Ext.refl wr).drew'))
   have HX6:=zh HS6.out.low
   go_upto_region 5 with fail
   clear g4
   refine wp_region_held_drew (S:=fun _=>True) (by kernel_rfl) (trivial) (fun jj=>?_)
   refine zzr [1,3,5] ?_
   refine zzj (VE 0 (.agg (ssA s)) (VE 2 (.agg (ceA (balC (k:Int)))) (VE 4 (.slice (some ⟨b,o,none⟩) m3 d3) (VE 6 (.pointer (some ⟨b,o+k,none⟩)) (VE 7 (.int .i64 (nthG BL k)) (VV 8 (fun v V=>∃ s2,v=.agg (ssA s2)∧OwnS V w.heap.size s2∧s2.V=⟨addC s.C (balC (k:Int)) (nthG BL k),s.Q,s.K,s.P,s.G⟩) VN)))))) [(0,some 18),(2,some 20),(4,some 22),(6,some 24),(7,some 25),(8,some 26)] 1 (fun _ _ h _=>h) (ve (ve (ve (ve (ve (VV.ext (fun v w w' ⟨s2,h1,h2,h3⟩ e=>⟨s2,h1,h2.ext e,h3⟩) VN.ext)))))) (zzc ?_ (zzc ?_ (zzc ?_ (zzc ?_ (zzc ?_ (zzc ?_ zzn)))))) ?_
   ·refine zzp fun W hE hS K hK => ?_
    obtain ⟨q0,q1,q2,q3,q4⟩:=sF (HS6.out.blk.ext hE)
    go_simp
    exact zzF hK (.agg (ssA s))
   ·refine zzp fun W hE hS K hK => ?_
    go_simp
    go_at_call 33
    refine (rBalance_any (k:Int) _).mono ?_
    rintro e w5 ⟨rfl,he5⟩
    exact zzK (hK.out (.agg (ceA (balC (k:Int)))) _ (he5) (rfl))
   ·refine zzp fun W hE hS K hK => ?_
    have g4:W.cell? ⟨w.heap.size,4,none⟩=some (.slice (some ⟨b,o,none⟩) m3 d3):=(HG6.out.ext hE).cell 4
    go_simp
    exact zzF hK (.slice (some ⟨b,o,none⟩) m3 d3)
   ·refine zm [(4, some 22)] fun env W hE hS hD K hK => ?_
    obtain ⟨h4,-⟩:=zzV hD
    clear hD
    simp only [layj,h4] at hK ⊢
    clear h4
    go_simp
    exact zzF hK (.pointer (some ⟨b,o+k,none⟩))
   ·refine zm [(6, some 24)] fun env W hE hS hD K hK => ?_
    obtain ⟨h6,-⟩:=zzV hD
    clear hD
    simp only [layj,h6] at hK ⊢
    clear h6
    have c9:=HCB.out W (HX6.out.trans hE)
    go_simp
    exact zzF hK (.int .i64 (nthG BL k))
   ·refine zm [(0, some 18), (2, some 20), (7, some 25)] fun env W hE hS hD K hK => ?_
    obtain ⟨h0,h2,h7,-⟩:=zzV hD
    clear hD
    simp only [layj,h0,h2,h7] at hK ⊢
    clear h0
    clear h2
    clear h7
    go_simp
    go_at_call 42
    refine (rPut_any s (balC (k:Int)) (nthG BL k) _ (HS6.out.own.ok.ext hE) HCW.out HAW.out HBD.out).mono ?_
    rintro e w5 ⟨s2,rfl,ho2,hv2,he5⟩
    exact zzK (hK.out (.agg (ssA s2)) _ (he5) (⟨s2,rfl,oM ho2 (Nat.le_trans HS6.out.low.size hE.size),hv2⟩))
   intro env W hE hS hV
   obtain ⟨h0,h2,h4,h6,h7,h8,-⟩:=zzV hV
   clear hV
   simp only [layj,h0,h2,h4,h6,h7]
   clear h0
   clear h2
   clear h4
   clear h6
   clear h7
   generalize env 8=x8 at h8 ⊢
   obtain ⟨s2,rfl,ho2,hv2⟩:=h8
   have jj:=hS
   refine za 9 (fun K hK=>?_)
   (refine step_storeSs rfl (.tmp 3) (.tmp 26) (by rfl) (w.heap.size+3) (.agg (ssA s2)) s2 rfl (by rfl) (by rfl) (HS6.out.blk.ext hE) ?_;intro W9 h9)
   refine hK.out _ _ (trivial) (fun jj=>?_)
   clear hK K
   try simp only [lays]
   refine wpAnyH_done (by kernel_rfl) ?_ _
   have HF:=zh (show StB w W9 (w.heap.size+3) s2 from by rw [← h9.out.1];exact StB.start ho2 (HS6.out.blk.ext hE) (HS6.out.low.trans hE) (by omega))
   have HGF:=zh (show Blk W9 w.heap.size 40 (genC N Z B1 m1 d1 B2 m2 d2 (some ⟨b,o,none⟩) m3 d3) from by rw [← h9.out.1];exact (HG6.out.ext hE).grown (gS _ _ _ _) (fun e=>by injection e;omega))
   have HRF:=zh (show Blk W9 (w.heap.size+1) 44 (ssA ss0) from by rw [← h9.out.1];exact (HR6.out.ext hE).grown (gS _ _ _ _) (fun e=>by injection e;omega))
   have HVF:=zh (show s2.V=(⟨balN BL (k+1),List.replicate m2 0,[],[],0⟩:StV) from by
    have hh:=HV.out
    rw [hv2,balN_succ,show s.C=_ from congrArg StV.C hh,show s.Q=_ from congrArg StV.Q hh,show s.K=_ from congrArg StV.K hh,show s.P=_ from congrArg StV.P hh,show s.G=_ from congrArg StV.G hh])
   clear h9 ho2 hv2 hE hS jj HS6 HG6 HR6
   go_wp2_with fail
   go_roundw
   case rel=>exact ⟨k+1,s2,by go_num,hlt,HF,HGF,HRF,HVF⟩
   case measure=>simp [intOf];omega
  obtain rfl:m3=k:=by omega
  have i1:¬ (m3:Int) < (m3:Int):=by omega
  have HV2:=zh (show s.V=(⟨stkN Z (balN BL BL.length) 0,List.replicate m2 0,[],[],0⟩:StV) from by rw [HV.out,HLEN.out];rfl)
  obtain ⟨s9,hs9⟩:∃ s9,s=s9:=⟨_,rfl⟩
  subst hs9
  go_upto_region 6 with fail
  clear g4
  go_wp2_with fail
  obtain ⟨W0,rfl⟩:∃ W0,W0=wr:=⟨_,rfl⟩
  go_loopw [5] (fun vi wr=>∃ (k:Nat) (s:StR),vi=.int .i64 (k:Int)∧k≤m1∧Hid (StB w wr (w.heap.size+3) s)∧Hid (Blk wr w.heap.size 40 (genC N Z B1 m1 d1 B2 m2 d2 B3 m3 d3))∧Hid (Blk wr (w.heap.size+1) 44 (ssA ss0))∧Hid (s.V=(⟨stkN Z (balN BL BL.length) k,List.replicate m2 0,[],[],0⟩:StV))) (fun i _=>m1 - (intOf i).toNat)
  case atStart=>exact ⟨0,s,rfl,Nat.zero_le _,HS,HG,HR,HV2⟩
  case round =>
   clear HS HG HR HV HV2
   obtain ⟨k,s,rfl,hk2,HS,HG,HR,HV⟩:=hrel
   have g2:wr.cell? ⟨w.heap.size,2,none⟩=some (.slice B1 m1 d1):=HG.out.cell 2
   by_cases hlt:k < m1
   ·have i0 : (0 : Int) ≤ (k : Int) := by omega
    have i2:(k:Int) < (m1:Int):=by omega
    have HCW:=zh (show ceW (stkC (k:Int)) from ce_ok (k:=3) (wfS ⟨by omega,by omega⟩) (wfS ⟨by omega,by omega⟩))
    have HAW:=HZW
    have HBD:=zh (show s.n1≤1000000∧s.n2≤1000000∧s.n3≤1000000∧s.n4≤1000000 from by
     have m1':=HS.out.own.l1;have m2':=HS.out.own.l2;have m3':=HS.out.own.l3;have m4':=HS.out.own.l4
     have hv:=HV.out
     rw [show s.C=stkN Z (balN BL BL.length) k from congrArg StV.C hv] at m1'
     rw [show s.Q=List.replicate m2 0 from congrArg StV.Q hv,List.length_replicate] at m2'
     rw [show s.K=[] from congrArg StV.K hv] at m3'
     rw [show s.P=[] from congrArg StV.P hv] at m4'
     have h5:=balN_len BL BL.length;have h6:=stkN_len Z (balN BL BL.length) k;have h7:=HLEN.out
     simp only [List.length_nil] at m3' m4'
     omega)
    have HS6:=zh (HS.out.ext ((Ext.refl wr).drew'))
    have HG6:=zh (HG.out.ext ((Ext.refl wr).drew'))
    have HR6:=zh (HR.out.ext ((Ext.refl wr).drew'))
    have HX6:=zh HS6.out.low
    go_upto_region 9 with fail
    clear g2
    refine wp_region_held_drew (S:=fun _=>True) (by kernel_rfl) (trivial) (fun jj=>?_)
    refine zzr [1,3] ?_
    refine zzj (VE 0 (.agg (ssA s)) (VE 2 (.agg (ceA (stkC (k:Int)))) (VE 4 (.int .i64 Z) (VV 5 (fun v V=>∃ s2,v=.agg (ssA s2)∧OwnS V w.heap.size s2∧s2.V=⟨addC s.C (stkC (k:Int)) (Z),s.Q,s.K,s.P,s.G⟩) VN)))) [(0,some 34),(2,some 36),(4,some 38),(5,some 39)] 1 (fun _ _ h _=>h) (ve (ve (ve (VV.ext (fun v w w' ⟨s2,h1,h2,h3⟩ e=>⟨s2,h1,h2.ext e,h3⟩) VN.ext)))) (zzc ?_ (zzc ?_ (zzc ?_ (zzc ?_ zzn)))) ?_
    ·refine zzp fun W hE hS K hK => ?_
     obtain ⟨q0,q1,q2,q3,q4⟩:=sF (HS6.out.blk.ext hE)
     go_simp
     exact zzF hK (.agg (ssA s))
    ·refine zzp fun W hE hS K hK => ?_
     go_simp
     go_at_call 49
     refine (rStake_any (k:Int) _).mono ?_
     rintro e w5 ⟨rfl,he5⟩
     exact zzK (hK.out (.agg (ceA (stkC (k:Int)))) _ (he5) (rfl))
    ·refine zzp fun W hE hS K hK => ?_
     have g1:W.cell? ⟨w.heap.size,1,none⟩=some (.int .i64 Z):=(HG6.out.ext hE).cell 1
     go_simp
     exact zzF hK (.int .i64 Z)
    ·refine zm [(0, some 34), (2, some 36), (4, some 38)] fun env W hE hS hD K hK => ?_
     obtain ⟨h0,h2,h4,-⟩:=zzV hD
     clear hD
     simp only [layj,h0,h2,h4] at hK ⊢
     clear h0
     clear h2
     clear h4
     go_simp
     go_at_call 42
     refine (rPut_any s (stkC (k:Int)) (Z) _ (HS6.out.own.ok.ext hE) HCW.out HAW.out HBD.out).mono ?_
     rintro e w5 ⟨s2,rfl,ho2,hv2,he5⟩
     exact zzK (hK.out (.agg (ssA s2)) _ (he5) (⟨s2,rfl,oM ho2 (Nat.le_trans HS6.out.low.size hE.size),hv2⟩))
    intro env W hE hS hV
    obtain ⟨h0,h2,h4,h5,-⟩:=zzV hV
    clear hV
    simp only [layj,h0,h2,h4]
    clear h0
    clear h2
    clear h4
    generalize env 5=x5 at h5 ⊢
    obtain ⟨s2,rfl,ho2,hv2⟩:=h5
    have jj:=hS
    refine za 6 (fun K hK=>?_)
    (refine step_storeSs rfl (.tmp 3) (.tmp 39) (by rfl) (w.heap.size+3) (.agg (ssA s2)) s2 rfl (by rfl) (by rfl) (HS6.out.blk.ext hE) ?_;intro W9 h9)
    refine hK.out _ _ (trivial) (fun jj=>?_)
    clear hK K
    try simp only [lays]
    refine wpAnyH_done (by kernel_rfl) ?_ _
    have HF:=zh (show StB w W9 (w.heap.size+3) s2 from by rw [← h9.out.1];exact StB.start ho2 (HS6.out.blk.ext hE) (HS6.out.low.trans hE) (by omega))
    have HGF:=zh (show Blk W9 w.heap.size 40 (genC N Z B1 m1 d1 B2 m2 d2 B3 m3 d3) from by rw [← h9.out.1];exact (HG6.out.ext hE).grown (gS _ _ _ _) (fun e=>by injection e;omega))
    have HRF:=zh (show Blk W9 (w.heap.size+1) 44 (ssA ss0) from by rw [← h9.out.1];exact (HR6.out.ext hE).grown (gS _ _ _ _) (fun e=>by injection e;omega))
    have HVF:=zh (show s2.V=(⟨stkN Z (balN BL BL.length) (k+1),List.replicate m2 0,[],[],0⟩:StV) from by
     have hh:=HV.out
     rw [hv2,stkN_succ,show s.C=_ from congrArg StV.C hh,show s.Q=_ from congrArg StV.Q hh,show s.K=_ from congrArg StV.K hh,show s.P=_ from congrArg StV.P hh,show s.G=_ from congrArg StV.G hh])
    clear h9 ho2 hv2 hE hS jj HS6 HG6 HR6
    go_wp2_with fail
    go_roundw
    case rel=>exact ⟨k+1,s2,by go_num,hlt,HF,HGF,HRF,HVF⟩
    case measure=>simp [intOf];omega
   obtain rfl:m1=k:=by omega
   have i2:¬ (m1:Int) < (m1:Int):=by omega
   go_upto_region 10 with fail
   clear g2
   have HF:=HS
   have HRF:=HR
   obtain ⟨q0,q1,q2,q3,q4⟩:=sF HF.out.blk
   go_wp2_with ((with_reducible refine wQ rfl (.tmp 2) (.tmp 40) rfl (w.heap.size+1) (s) rfl rfl HRF.out ?_);intro W9 h9)
   exact rtS _ _ HF.out HRF.out (by omega) h9 (HV.out)
theorem vSg_right (seed pb:UInt64) (ac sq:Int) (L:List OpR) (hpb:pubV seed 1=pb) (hl:OpLens L) (hv:vTx ac sq L=true) (T:TxR) (hT:TxLens T) (e:T.v=(ac,sq,L.map OpR.v,sig1 seed sq.toNat (txNm ac sq L))):vSg pb T=true:=by
 obtain ⟨hh,_⟩:=vTx_of hv
 obtain ⟨nm,hnm⟩:∃ nm,txNm ac sq L=nm:=⟨_,rfl⟩
 have hsq:((sq.toNat:Nat):Int)=sq:=by omega
 obtain ⟨s,h1,_,h3,h4,_⟩:=sig_right seed nm 1 sq.toNat (.inl ⟨rfl,by omega⟩)
 rw [hsq,sigU_in seed nm hh.2.2.1 hh.2.2.2.1] at h1
 injection h1 with h1
 rw [hpb] at h4
 rw [hnm] at e
 unfold TxR.v at e
 injection e with e1 e
 injection e with e2 e
 injection e with e3 e4
 have hn:=congrArg List.length e3
 rw [List.length_map,List.length_map] at hn
 have hvt:vTx T.ac T.sq T.L=true:=by
  rw [vTx_v (fun R hR=>vOp_v (hT.1 R hR).1 (hT.1 R hR).2),e1,e2,e3,← vTx_v (fun R hR=>vOp_v (hl R hR).1 (hl R hR).2)]
  exact hv
 have hnt:txNm T.ac T.sq T.L=nm:=by
  rw [← hnm]
  unfold txNm
  rw [hvt,hv]
  unfold encTx
  rw [encOps_v e3,hn,e1,e2]
 unfold vSg
 rw [hvt,hnt,e4,h1,h4,h3,hsq,e2]
 simp
def seedTwo:UInt64:=144115188075855872
theorem seedTwo_cells:nmc seedTwo=#[.int .u8 2,.int .u8 0,.int .u8 0,.int .u8 0,.int .u8 0,.int .u8 0,.int .u8 0,.int .u8 0]:=by kernel_rfl
theorem run_bsN2 (a b:UInt64) (w:World):(Instr.buildSlice 37 2 #[(0,.agg (nmc a)),(1,.agg (nmc b))]).run Tryz.prog w=.ok (.slice (some ⟨w.heap.size,0,none⟩) 2 2) (w.alloc (.cells (nmc a ++ nmc b) 30)):=by
 rw [← nmc_nb8 a,← nmc_nb8 b];kernel_rfl
section
variable {ops:Array Oper} {rest:List Oper} {o:Oper} {a:Act} {w:World} {K:Act→World→Prop} {Q:Exit→Act→World→Prop}
theorem wpList_bs2 (hgd:o.guard=none) {ty e:TypeId} (x y:Operand) (ho:o.op=.buildSlice ty 2 #[(0,x),(1,y)]) {vx vy:Value} {cs:Array Value} (hx:a.eval x=vx) (hy:a.eval y=vy) (hr:(Instr.buildSlice ty 2 #[(0,vx),(1,vy)]).run Tryz.prog w=.ok (.slice (some ⟨w.heap.size,0,none⟩) 2 2) (w.alloc (.cells cs e)))
  (h:∀ (g:Nat) (W2:World),Hid (Blk W2 g e cs∧Ext w W2)→wpList Tryz.prog ops Q rest (a.put o.dst (.slice (some ⟨g,0,none⟩) 2 2)) W2):wpList Tryz.prog ops Q (o :: rest) a w :=
 wpList_run hgd (exec_bs2 x y ho hx hy hr) (h _ _ (zh ⟨Blk.new w e cs,(Ext.refl w).alloc' _⟩))
theorem wpList_storeGe (hgd:o.guard=none) (x y:Operand) (ho:o.op=.store 40 x y) (g:Nat) (N Z:Int) (B1:Option Addr) (m1 d1:Nat) (B2:Option Addr) (m2 d2:Nat) (B3:Option Addr) (m3 d3:Nat) (hx:a.eval x=.pointer (some ⟨g,0,none⟩)) (hy:a.eval y=.agg (genC N Z B1 m1 d1 B2 m2 d2 B3 m3 d3)) {cs:Array Value} (hcs:cs.size=5) (hb:Blk w g 40 cs)
  (h:∀ W,Hid (Blk W g 40 (genC N Z B1 m1 d1 B2 m2 d2 B3 m3 d3)∧w.setCells g 0 (genC N Z B1 m1 d1 B2 m2 d2 B3 m3 d3).toList=W)→wpList Tryz.prog ops Q rest (a.put o.dst undef) W):wpList Tryz.prog ops Q (o :: rest) a w :=
 wpList_store_mid hgd 40 x y ho g 0 (genC N Z B1 m1 d1 B2 m2 d2 B3 m3 d3) hx hy (by have:=tB hb;rw [hcs] at this;exact this) (by kernel_rfl) (by simp [Value.oneCell']) (h _ (zh ⟨bW (ds:=genC N Z B1 m1 d1 B2 m2 d2 B3 m3 d3) hb (by rw [hcs];rfl),rfl⟩))
end
def GnOut (w:World) (e:Ending) (w':World):Prop:=∃ B1 B2 B3:Option Addr,e=.returned (.agg (genC 1 3 B1 1 1 B2 2 2 B3 2 2))∧SlG w' B2 2 2 [pubV seedOne 1,pubV seedTwo 1]∧SlG w' B3 2 2 [(5:Int),0]∧SlG w' B1 1 1 [seedOne]∧Ext w w'
theorem genesis22_any (w:World):Calls Tryz.prog 39 #[] w (GnOut w):=by
 obtain ⟨W,hW⟩:∃ W,w.alloc (.cells #[.int .i64 0,.int .i64 0,.slice none 0 0,.slice none 0 0,.slice none 0 0] 40)=W:=⟨_,rfl⟩
 have HB:=zh (show Blk W w.heap.size 40 #[.int .i64 0,.int .i64 0,.slice none 0 0,.slice none 0 0,.slice none 0 0] from by rw [← hW];exact Blk.new w _ _)
 have HE:=zh (show Ext w W from by rw [← hW];exact (Ext.refl w).alloc' _)
 obtain ⟨k1,hk1⟩:∃ k,pubV seedOne 1=k:=⟨_,rfl⟩
 obtain ⟨k2,hk2⟩:∃ k,pubV seedTwo 1=k:=⟨_,rfl⟩
 have HP1:=zh (fun (V:World)=>refPublic_any seedOne 1 V)
 have HP2:=zh (fun (V:World)=>refPublic_any seedTwo 1 V)
 rw [hk1,seedOne_cells] at HP1
 rw [hk2,seedTwo_cells] at HP2
 have HBN:=zh (fun (V:World)=>run_bsN2 k1 k2 V)
 obtain ⟨v1,hv1⟩:∃ v,Value.agg (nmc k1)=v:=⟨_,rfl⟩
 obtain ⟨v2,hv2⟩:∃ v,Value.agg (nmc k2)=v:=⟨_,rfl⟩
 rw [hv1] at HP1
 rw [hv2] at HP2
 rw [hv1,hv2] at HBN
 obtain ⟨W1,hW1⟩:∃ W1,W.alloc (.cells #[.int .u8 1,.int .u8 0,.int .u8 0,.int .u8 0,.int .u8 0,.int .u8 0,.int .u8 0,.int .u8 0] 30)=W1:=⟨_,rfl⟩
 obtain ⟨X,hX⟩:∃ X,W.heap.size=X:=⟨_,rfl⟩
 have HX:=zh (show Blk W1 X 30 (nmc seedOne) from by rw [← hW1,← hX,seedOne_cells];exact Blk.new W _ _)
 have HE1:=zh (show Ext W W1 from by rw [← hW1];exact (Ext.refl W).alloc' _)
 have HXE:=zh hX
 have HK1:=zh hk1
 have HK2:=zh hk2
 show Calls _ _ _ _ (fun e w'=>∃ B1 B2 B3:Option Addr,e=.returned (.agg (genC 1 3 B1 1 1 B2 2 2 B3 2 2))∧SlG w' B2 2 2 [pubV seedOne 1,pubV seedTwo 1]∧SlG w' B3 2 2 [(5:Int),0]∧SlG w' B1 1 1 [seedOne]∧Ext w w')
 rw [hk1,hk2]
 clear hk1 hk2 hv1 hv2 hX
 go_enter Tryz.func39,Tryz.ntmps39
 go_wp2_with fail
 try rw [hW1]
 rw [HXE.out]
 clear hW1
 refine (HP1.out _).mono ?_
 rintro e w1 ⟨rfl,he1⟩
 have HA1:=zh (HE1.out.trans he1)
 have HX1:=zh (HX.out.ext he1)
 clear he1
 go_wp2_with fail
 refine (HP2.out _).mono ?_
 rintro e w2 ⟨rfl,he2⟩
 have HA2:=zh (HA1.out.trans he2)
 have HX2:=zh (HX1.out.ext he2)
 clear he2
 have HZ2:=zh (HB.out.ext HA2.out)
 go_wp2_with (first | ((with_reducible refine wpList_bs2 (vx:=v1) (vy:=v2) rfl (.tmp 4) (.tmp 6) rfl rfl rfl (HBN.out _) ?_);intro g3 W3 h3;obtain ⟨W4,hW4⟩:∃ W4,W3.alloc (.cells #[.int .i64 5,.int .i64 0] 3)=W4:=⟨_,rfl⟩;have HE4:=zh (show Ext W3 W4 from by rw [← hW4];exact (Ext.refl W3).alloc' _);have HI4:=zh (show Blk W4 W3.heap.size 3 #[.int .i64 5,.int .i64 0] from by rw [← hW4];exact Blk.new W3 _ _);have HZ4:=zh ((HZ2.out.ext h3.out.2).ext HE4.out)) | ((try rw [hW4]);(with_reducible refine wpList_storeGe rfl (.tmp 0) (.tmp 9) rfl w.heap.size 1 3 (some ⟨X,0,none⟩) 1 1 (some ⟨g3,0,none⟩) 2 2 (some ⟨W3.heap.size,0,none⟩) 2 2 rfl rfl rfl HZ4.out ?_);intro W5 h5))
 have hZ:=HZ4.out
 have hb1:Blk W4 X 30 (nmc seedOne):=(HX2.out.ext h3.out.2).ext HE4.out
 have hb2:Blk W4 g3 30 (nmc k1 ++ nmc k2):=h3.out.1.ext HE4.out
 have hb3:=HI4.out
 have hA:Ext w W4:=HE.out.trans (HA2.out.trans (h3.out.2.trans HE4.out))
 have hst:=h5.out.1
 have h55:=h5.out.2
 have c1:Blk W5 X 30 (nmc seedOne):=by rw [← h55];exact hb1.setCells_far (blk_ne hb1 hZ (by decide)) _ _
 have c2:Blk W5 g3 30 (nmc k1 ++ nmc k2):=by rw [← h55];exact hb2.setCells_far (blk_ne hb2 hZ (by decide)) _ _
 have c3:Blk W5 W3.heap.size 3 #[.int .i64 5,.int .i64 0]:=by rw [← h55];exact hb3.setCells_far (blk_ne hb3 hZ (by decide)) _ _
 have c4:Ext w W5:=by rw [← h55];exact Below.setCells' hA (Nat.le_refl _) _ _
 refine bodyPost_ret (v:=.agg (genC 1 3 (some ⟨X,0,none⟩) 1 1 (some ⟨g3,0,none⟩) 2 2 (some ⟨W3.heap.size,0,none⟩) 2 2)) (retC rfl _ _ w.heap.size _ rfl (run_loadVar_row _ _ _ _ _ (0,0) _ hst Tryz.underlying40 rfl (by kernel_rfl))) rfl ⟨_,_,_,rfl,⟨rfl,by decide,by decide,?_,fun _ _=>trivial⟩,⟨rfl,by decide,by decide,?_,?_⟩,⟨rfl,by decide,by decide,?_,fun _ _=>trivial⟩,c4⟩
 ·have := Rd.of_blk c2
  rwa [Array.toList_append,nmc_toList,nmc_toList] at this
 ·exact Rd.of_blk c3
 ·intro R hR
  rcases List.mem_cons.1 hR with rfl | hR
  ·show (Lit.int .i64 5).wf=true;decide
  rcases List.mem_cons.1 hR with rfl | hR
  ·show (Lit.int .i64 0).wf=true;decide
  simp at hR
 have:=Rd.of_blk c1
 rwa [nmc_toList] at this
def LngO (w:World) (L:List OpR) (e:Ending) (w':World):Prop:=(∃ b,e=.returned (.bool b)∧(b=false→∀ R ∈ L,R.n1≤5000))∧Ext w w'
theorem long22_q (ac sq:Int) (A:Option Addr) (n c:Nat) (L:List OpR) (w:World) (hS:SlO w A n c L) :
  Calls Tryz.prog 11 #[.agg (txA ac sq A n c)] w (LngO w L):=by
 have hle:=hS.le
 have hcap:=hS.cap
 have HL:=zh hS.len
 have hE:=(Ext.refl w).alloc' (.cells (txA ac sq A n c) 24)
 obtain ⟨w0,hw0⟩:∃ w0,w.alloc (.cells (txA ac sq A n c) 24)=w0:=⟨_,rfl⟩
 have q0:(w.alloc (.cells (txA ac sq A n c) 24)).cell? ⟨w.heap.size,2,none⟩=some (.slice A n c):=(Blk.new w 24 (txA ac sq A n c)).cell 2
 have HE:=zh hE
 have HS:=zh (hS.ext hE)
 rw [hw0] at HE HS q0
 clear hS hE
 by_cases h50:50 < n
 ·have d1 : (50 : Int) < (n : Int) := by omega
  go_enter Tryz.func11,Tryz.ntmps11
  go_wp2_with fail
  go_ret
  exact ⟨⟨true,rfl,fun h=>by cases h⟩,HE.out⟩
 have d1:decide ((50:Int) < (n:Int))=false:=decide_eq_false (by omega)
 go_enter Tryz.func11,Tryz.ntmps11
 go_wp2_with fail
 clear hw0
 go_loop [3] (fun i=>∃ k:Nat,k≤n∧i=.int .i64 (k:Int)∧Hid (∀ j,j < k→(nthO L j).n1≤5000)) (fun i=>n - (intOf i).toNat)
 case atStart=>exact ⟨0,Nat.zero_le _,rfl,zh (fun j hj=>absurd hj (Nat.not_lt_zero _))⟩
 case round =>
  obtain ⟨k,hk,rfl,HJ⟩:=hrel
  by_cases hlt:k < n
  ·obtain ⟨b, o, rfl, hr, hb⟩ := HS.out.at (by omega)
   have hrt:=op_at hr (k:=k) (by rw [HL.out];exact hlt)
   have hok:=HS.out.nth hlt
   have i0:(0:Int)≤(k:Int):=by omega
   have i1:(k:Int) < (n:Int):=by omega
   obtain ⟨R,hR⟩:∃ R,nthO L k=R:=⟨_,rfl⟩
   rw [hR] at hrt hok
   have HRR:=zh hR
   obtain ⟨r1,r2⟩:=opL_cells hrt
   have m1:=hok.pre.le
   have m2:=hok.pre.cap
   have m3:=hok.prf.le
   have m4:=hok.prf.cap
   clear hr hb hrt hok hR
   by_cases hC:5000 < R.n2
   ·have d4 : (5000 : Int) < (R.n2 : Int) := by omega
    go_wp2_with fail
    go_ret
    exact ⟨⟨true,rfl,fun h=>by cases h⟩,HE.out⟩
   have d4:decide ((5000:Int) < (R.n2:Int))=false:=decide_eq_false (by omega)
   by_cases hD:5000 < R.n1
   ·have d5 : (5000 : Int) < (R.n1 : Int) := by omega
    go_wp2_with fail
    go_ret
    exact ⟨⟨true,rfl,fun h=>by cases h⟩,HE.out⟩
   have d5:decide ((5000:Int) < (R.n1:Int))=false:=decide_eq_false (by omega)
   have HN:=zh (show R.n1≤5000 from by omega)
   go_wp2_with fail
   go_round
   case rel=>exact ⟨k+1,by omega,by go_num,zh (fun j hj=>by
    rcases (by omega:j < k ∨ j=k) with hj | rfl
    ·exact HJ.out j hj
    rw [HRR.out];exact HN.out)⟩
   case measure=>simp [intOf];omega
  obtain rfl:k=n:=by omega
  go_wp2_with fail
  go_ret
  exact ⟨⟨false,rfl,fun _=>fun R hR=>by
   obtain ⟨j,hj,rfl⟩:=List.getElem_of_mem hR
   rw [show L[j]=nthO L j from nthG_eq hj]
   exact HJ.out j (by rw [← HL.out];exact hj)⟩,HE.out⟩
def UnsO (w:World) (a b c:Nat) (e:Ending) (w':World):Prop:=(∃ z,e=.returned (.bool z)∧(z=false→a≤100∧b≤100∧c≤100))∧Ext w w'
theorem unsound22_any (N Z:Int) (B1:Option Addr) (m1 d1:Nat) (B2:Option Addr) (m2 d2:Nat) (B3:Option Addr) (m3 d3:Nat) (w:World) (h1:m1≤d1∧d1≤9223372036854775807) (h2:m2≤d2∧d2≤9223372036854775807) (h3:m3≤d3∧d3≤9223372036854775807):Calls Tryz.prog 18 #[.agg (genC N Z B1 m1 d1 B2 m2 d2 B3 m3 d3)] w (UnsO w m1 m2 m3):=by
 obtain ⟨W,hW⟩:∃ W,w.alloc (.cells (genC N Z B1 m1 d1 B2 m2 d2 B3 m3 d3) 40)=W:=⟨_,rfl⟩
 have HB:=zh (show Blk W w.heap.size 40 (genC N Z B1 m1 d1 B2 m2 d2 B3 m3 d3) from by rw [← hW];exact Blk.new w 40 (genC N Z B1 m1 d1 B2 m2 d2 B3 m3 d3))
 have HE:=zh (show Ext w W from by rw [← hW];exact (Ext.refl w).alloc' _)
 have q2:W.cell? ⟨w.heap.size,2,none⟩=some (.slice B1 m1 d1):=HB.out.cell 2
 have q3:W.cell? ⟨w.heap.size,3,none⟩=some (.slice B2 m2 d2):=HB.out.cell 3
 have q4:W.cell? ⟨w.heap.size,4,none⟩=some (.slice B3 m3 d3):=HB.out.cell 4
 have hcs:(m1 > 100) ∨ (¬ m1 > 100∧m2 > 100) ∨ (¬ m1 > 100∧¬ m2 > 100):=by omega
 rcases hcs with c1 | ⟨c1,c2⟩ | ⟨c1,c2⟩
 ·have k1 : (m1 : Int) > 100 := by omega
  clear c1
  go_enter Tryz.func18,Tryz.ntmps18
  go_wp2_with fail
  go_ret
  exact ⟨⟨true,rfl,fun h=>by cases h⟩,HE.out⟩
 ·have k1 : ¬ (m1 : Int) > 100 := by omega
  have k2:(m2:Int) > 100:=by omega
  clear c1 c2
  go_enter Tryz.func18,Tryz.ntmps18
  go_wp2_with fail
  go_ret
  exact ⟨⟨true,rfl,fun h=>by cases h⟩,HE.out⟩
 have k1:¬ (m1:Int) > 100:=by omega
 have k2:¬ (m2:Int) > 100:=by omega
 have HN:=zh (And.intro c1 c2)
 clear c1 c2
 by_cases c3:m3 > 100
 ·have k3 : (m3 : Int) > 100 := by omega
  clear c3
  go_enter Tryz.func18,Tryz.ntmps18
  go_wp2_with fail
  go_ret
  exact ⟨⟨true,rfl,fun h=>by cases h⟩,HE.out⟩
 have k3:¬ (m3:Int) > 100:=by omega
 have HN3:=zh c3
 clear c3
 go_enter Tryz.func18,Tryz.ntmps18
 go_wp2_with fail
 go_ret
 exact ⟨⟨false,rfl,fun _=>by have:=HN.out;have:=HN3.out;omega⟩,HE.out⟩
theorem exe22_any (x:StpR) (S:Option Addr) (m d:Nat) (L:List OpR) (sig:List UInt8) (VN PN:List UInt64) (BL:List Int) (w:World) (hs:x.s.ok w) (hT:(⟨x.ac,x.sq,x.A,x.n,x.c,S,m,d,L,sig⟩:TxR).ok w) (hV:SlG w x.B1 x.m1 x.d1 VN) (hN:SlG w x.B2 x.m2 x.d2 PN) (hB:SlZ w x.B3 x.m3 x.d3 BL) (hn:x.s.n1≤200000∧x.s.n2≤200000∧x.s.n3≤200000∧x.s.n4≤200000) (hpn:∀ R ∈ L,R.n1≤5000) :
  Calls Tryz.prog 20 #[.agg (genC x.gN x.gZ x.B1 x.m1 x.d1 x.B2 x.m2 x.d2 x.B3 x.m3 x.d3),.agg (ssA x.s),.agg (stA x.ac x.sq x.A x.n x.c S m d),.int .i64 x.ht] w
   (ExOut w (exeS (chkO x.m2 x.m1 x.ht sumU (evU VN) x.ac) (vldG x.gN x.gZ x.m1 x.m2 x.m3 BL) x.m2 (vSg (nthG PN x.ac.toNat) ⟨x.ac, x.sq, x.A, x.n, x.c, S, m, d, L, sig⟩) x.s.V x.ac x.sq L)
    (exeC (chkO x.m2 x.m1 x.ht sumU (evU VN) x.ac) (vldG x.gN x.gZ x.m1 x.m2 x.m3 BL) x.m2 (vSg (nthG PN x.ac.toNat) ⟨x.ac,x.sq,x.A,x.n,x.c,S,m,d,L,sig⟩) x.s.V x.ac x.sq L)
    (rcE (exeC (chkO x.m2 x.m1 x.ht sumU (evU VN) x.ac) (vldG x.gN x.gZ x.m1 x.m2 x.m3 BL) x.m2 (vSg (nthG PN x.ac.toNat) ⟨x.ac,x.sq,x.A,x.n,x.c,S,m,d,L,sig⟩) x.s.V x.ac x.sq L) x.ac x.sq L)
    (rcO (exeC (chkO x.m2 x.m1 x.ht sumU (evU VN) x.ac) (vldG x.gN x.gZ x.m1 x.m2 x.m3 BL) x.m2 (vSg (nthG PN x.ac.toNat) ⟨x.ac,x.sq,x.A,x.n,x.c,S,m,d,L,sig⟩) x.s.V x.ac x.sq L) x.ac x.sq L)
    (rcG (exeC (chkO x.m2 x.m1 x.ht sumU (evU VN) x.ac) (vldG x.gN x.gZ x.m1 x.m2 x.m3 BL) x.m2 (vSg (nthG PN x.ac.toNat) ⟨x.ac,x.sq,x.A,x.n,x.c,S,m,d,L,sig⟩) x.s.V x.ac x.sq L) x.s.V (exeS (chkO x.m2 x.m1 x.ht sumU (evU VN) x.ac) (vldG x.gN x.gZ x.m1 x.m2 x.m3 BL) x.m2 (vSg (nthG PN x.ac.toNat) ⟨x.ac,x.sq,x.A,x.n,x.c,S,m,d,L,sig⟩) x.s.V x.ac x.sq L))) :=
 execute_any x S m d L sig PN BL (evU VN) _ _ _ w hs hT hN hB (Nat.le_trans hV.le hV.cap) hn (fun R hR=>Nat.le_trans (hpn R hR) (by omega)) rfl rfl rfl
  (fun R hR hk hv V s e hsV=>blame_any { x with s:=s } R VN V hsV (RowT.ext R w V (hT.ops.g.ok R hR) e) (hV.ext e) hv hk)
theorem two_new (w:World) (c1 c2:Array Value) (t1 t2:TypeId):∃ U,(w.alloc (.cells c1 t1)).alloc (.cells c2 t2)=U∧Hid (Blk U w.heap.size t1 c1)∧Hid (Blk U (w.heap.size+1) t2 c2)∧Hid (Ext w U) :=
 ⟨_,rfl,zh ((Blk.new w t1 c1).alloc _),zh (Blk.newAt _ _ _ _ (by simp)),zh (((Ext.refl w).alloc' _).alloc' _)⟩
end
end Go.Proofs.YtohmmcahpakokaaGreat
