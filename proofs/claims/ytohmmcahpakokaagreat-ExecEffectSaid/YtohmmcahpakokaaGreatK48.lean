/- The reference's GenesisState. -/
import Derived.Test.YtohmmcahpakokaaGreatK45
set_option maxRecDepth 100000
set_option maxHeartbeats 8000000
set_option linter.unusedVariables false
set_option linter.unusedSimpArgs false
namespace Go.Proofs.YtohmmcahpakokaaGreat
open Go.RowKit
attribute [local go_sem ↓] Go.wp_at_zero Go.wp_at_succ
theorem own_fresh {w:World} {e:TypeId} {size n:Nat} {cs:Array Value} (hc:cs.size=n * size) (hn:n≤9223372036854775807):(w.alloc (.cells cs e)).ownsRow w.heap.size e size (.slice (some ⟨w.heap.size,0,none⟩) n n) n cs.toList :=
 ⟨by rw [Array.length_toList,hc],.inr ⟨w.heap.size,n,cs,rfl,Nat.le_refl _,heap_alloc_new w _,Nat.le_refl _,hn,hc,by rw [← hc,← Array.length_toList];exact List.take_length⟩⟩
theorem gcs_int (L:List Int):gcs L=ics L:=by
 induction L with
 | nil=>rfl
 | cons x r ih=>rw [gcs_cons,ih];rfl
theorem hmkInts (n:Nat) (hn:n≤1000) (w:World):(Instr.makeSlice 38 (.int .i64 (n:Int)) (.int .i64 (n:Int))).run Tryz.prog w=.ok (.slice (some ⟨w.heap.size,0,none⟩) n n) (w.alloc (.cells (gcs (List.replicate n (0:Int))).toArray 3)):=by
 obtain ⟨i,hi,hz,hs,hby⟩:=inE.get
 have h:=run_make (P:=Tryz.prog) w 38 3 i (.int .i64 0) inE.ut hi hz .i64 .i64 n n (by omega) (by omega) (by rw [hby];omega) (by omega)
 rw [hs,Nat.mul_one,Int.toNat_natCast] at h
 have e:madeCells (Value.int .i64 0).cells n=(gcs (List.replicate n (0:Int))).toArray:=by
  rw [gcs_int]
  unfold ics madeCells
  rw [List.map_replicate]
  apply Array.ext
  ·simp
  ·intro j h1 h2
   simp [Value.cells,iv,Nat.mod_one]
 rw [e] at h
 exact h
def balN (BL:List Int) (n:Nat):List DeR:=(List.range n).foldl (fun C (i:Nat)=>addC C (balC (i:Int)) (nthG BL i)) []
def stkN (Z:Int) (C:List DeR) (n:Nat):List DeR:=(List.range n).foldl (fun C (i:Nat)=>addC C (stkC (i:Int)) Z) C
theorem balN_succ (BL:List Int) (n:Nat):balN BL (n+1)=addC (balN BL n) (balC (n:Int)) (nthG BL n):=by unfold balN;rw [List.range_succ,List.foldl_append];rfl
theorem stkN_succ (Z:Int) (C:List DeR) (n:Nat):stkN Z C (n+1)=addC (stkN Z C n) (stkC (n:Int)) Z:=by unfold stkN;rw [List.range_succ,List.foldl_append];rfl
theorem balN_len (BL:List Int) (n:Nat):(balN BL n).length≤n:=by
 induction n with
 | zero=>exact Nat.le_refl _
 | succ n ih=>rw [balN_succ];have:=addC_len (balN BL n) (balC (n:Int)) (nthG BL n);omega
theorem stkN_len (Z:Int) (C:List DeR) (n:Nat):(stkN Z C n).length≤C.length+n:=by
 induction n with
 | zero=>exact Nat.le_refl _
 | succ n ih=>rw [stkN_succ];have:=addC_len (stkN Z C n) (stkC (n:Int)) Z;omega
def genSt (m2:Nat) (BL:List Int) (Z:Int) (m1:Nat):StV:=⟨stkN Z (balN BL BL.length) m1,List.replicate m2 0,[],[],0⟩
theorem rGenS_any (N Z:Int) (B1:Option Addr) (m1 d1:Nat) (B2:Option Addr) (m2 d2:Nat) (B3:Option Addr) (m3 d3:Nat) (BL:List Int) (w:World) (hB:SlG w B3 m3 d3 BL) (hz:wfI Z) (h1:m1≤1000) (h2:m2≤1000) (h3:m3≤1000) :
  Calls Tryz.prog 40 #[.agg (genC N Z B1 m1 d1 B2 m2 d2 B3 m3 d3)] w (StOut w (genSt m2 BL Z m1)):=by
 obtain ⟨W,hW⟩:∃ W,(w.alloc (.cells (genC N Z B1 m1 d1 B2 m2 d2 B3 m3 d3) 40)).alloc (.cells #[.slice none 0 0,.slice none 0 0,.slice none 0 0,.slice none 0 0,.int .i64 0] 44)=W:=⟨_,rfl⟩
 have HG:=zh (show Blk W w.heap.size 40 (genC N Z B1 m1 d1 B2 m2 d2 B3 m3 d3) from by rw [← hW];exact (Blk.new w 40 (genC N Z B1 m1 d1 B2 m2 d2 B3 m3 d3)).alloc _)
 have HR:=zh (show Blk W (w.heap.size+1) 44 (ssA ss0) from by rw [← hW];exact Blk.newAt _ _ _ _ (by simp))
 have HE:=zh (show Ext w W from by rw [← hW];exact ((Ext.refl w).alloc' _).alloc' _)
 have HWS:W.heap.size=w.heap.size+2:=by rw [← hW];simp
 have HBL:=zh hB
 have HLEN:=zh hB.len
 have HZW:=zh hz
 have hle:=hB.le
 have hcap:=hB.cap
 have g2:=HG.out.cell 2
 have g3:=HG.out.cell 3
 have g4:=HG.out.cell 4
 have hmk:=hmkInts m2 h2
 clear hB hz
 go_enter Tryz.func40,Tryz.ntmps40
 go_upto_region 2 with fail
 obtain ⟨sg,hsg⟩:∃ sg:StR,(⟨none,0,0,[],some ⟨w.heap.size+2,0,none⟩,m2,m2,List.replicate m2 0,none,0,0,[],none,0,0,[],0⟩:StR)=sg:=⟨_,rfl⟩
 obtain ⟨W1,hW1⟩:∃ W1,(W.alloc (.cells (gcs (List.replicate m2 (0:Int))).toArray 3)).alloc (.cells #[.slice none 0 0,.slice (some ⟨w.heap.size+2,0,none⟩) m2 m2,.slice none 0 0,.slice none 0 0,.int .i64 0] 44)=W1:=⟨_,rfl⟩
 rw [hW1]
 have HX1:=zh (show Ext W W1 from by rw [← hW1];exact ((Ext.refl W).alloc' _).alloc' _)
 have HG1:=zh (HG.out.ext HX1.out)
 have HR1:=zh (HR.out.ext HX1.out)
 have HS1:=zh (show StB w W1 (w.heap.size+3) sg from by
  refine ⟨?_,?_,HE.out.trans HX1.out,by omega⟩
  ·rw [← hW1,← hsg];exact Blk.newAt _ _ _ _ (by simp;omega)
  ·rw [← hsg]
   refine ⟨World.ownsRow_nil _ _ _ _,?_,World.ownsRow_nil _ _ _ _,World.ownsRow_nil _ _ _ _,fun d hd=>by (cases hd),fun z hz=>by (rw [List.eq_of_mem_replicate hz];exact (wfS ⟨by decide,by decide⟩:wfI (0:Int))),fun d hd=>by (cases hd),(wfS ⟨by decide,by decide⟩:wfI (0:Int))⟩
   have h9:=own_fresh (w:=W) (e:=3) (size:=1) (n:=m2) (cs:=(gcs (List.replicate m2 (0:Int))).toArray) (by rw [List.size_toArray,gcs_length,List.length_replicate];rfl) (by omega)
   rw [List.toList_toArray,HWS] at h9
   rw [← hW1]
   exact own_mono (own_ext h9 ((Ext.refl _).alloc' _)) (by omega))
 have HV1:=zh (show sg.V=(⟨balN BL 0,List.replicate m2 0,[],[],0⟩:StV) from by rw [← hsg];rfl)
 clear g2 g3 g4 hmk hsg hW1 hW HG HR HE HX1
 go_wp2_with fail
 go_loopw [4] (fun vi wr=>∃ (k:Nat) (s:StR),vi=.int .i64 (k:Int)∧k≤m3∧Hid (StB w wr (w.heap.size+3) s)∧Hid (Blk wr w.heap.size 40 (genC N Z B1 m1 d1 B2 m2 d2 B3 m3 d3))∧Hid (Blk wr (w.heap.size+1) 44 (ssA ss0))∧Hid (s.V=(⟨balN BL k,List.replicate m2 0,[],[],0⟩:StV))) (fun i _=>m3 - (intOf i).toNat)
 case atStart=>exact ⟨0,sg,rfl,Nat.zero_le _,HS1,HG1,HR1,HV1⟩
 case round =>
  clear HS1 HG1 HR1 HV1
  obtain ⟨k,s,rfl,hk,HS,HG,HR,HV⟩:=hrel
  have g4:wr.cell? ⟨w.heap.size,4,none⟩=some (.slice B3 m3 d3):=HG.out.cell 4
  by_cases hlt:k < m3
  ·have i0 : (0 : Int) ≤ (k : Int) := by omega
   have i1:(k:Int) < (m3:Int):=by omega
   obtain ⟨b,o,hab,-,-⟩:=HBL.out.at (by omega)
   subst hab
   have HCB:=zh (fun (V:World) (e:Ext w V)=>show V.cell? ⟨b,o+k,none⟩=some (.int .i64 (nthG BL k)) from by
    obtain ⟨b2,o2,e2,hr2,-⟩:=(HBL.out.ext e).at (by omega)
    injection e2 with e3
    injection e3 with e4 e5
    subst e4
    subst e5
    have h5:=el_at (k:=k) hr2 (by rw [HLEN.out];exact hlt)
    have h7:=h5 0 _ rfl
    rwa [show RowT.sz Int=1 from rfl,Nat.mul_one,Nat.add_zero] at h7)
   have HCW:=zh (show ceW (balC (k:Int)) from ce_ok (k:=1) (wfS ⟨by omega,by omega⟩) (wfS ⟨by omega,by omega⟩))
   have HAW:=zh (show wfI (nthG BL k) from HBL.out.nth hlt)
   have HBD:=zh (show s.n1≤1000000∧s.n2≤1000000∧s.n3≤1000000∧s.n4≤1000000 from by
    have m1':=HS.out.own.l1;have m2':=HS.out.own.l2;have m3':=HS.out.own.l3;have m4':=HS.out.own.l4
    have hv:=HV.out
    rw [show s.C=balN BL k from congrArg StV.C hv] at m1'
    rw [show s.Q=List.replicate m2 0 from congrArg StV.Q hv,List.length_replicate] at m2'
    rw [show s.K=[] from congrArg StV.K hv] at m3'
    rw [show s.P=[] from congrArg StV.P hv] at m4'
    have h5:=balN_len BL k
    simp only [List.length_nil] at m3' m4'
    omega)
   have HS6:=zh (HS.out.ext ((Ext.refl wr).drew'))
   have HG6:=zh (HG.out.ext ((Ext.refl wr).drew'))
   have HR6:=zh (HR.out.ext ((Ext.refl wr).drew'))
   have HX6:=zh HS6.out.low
   go_upto_region 5 with fail
   clear g4
   refine wp_region_held_drew (S:=fun _=>True) (by kernel_rfl) (trivial) (fun hHeld=>?_)
   refine zt 1 hHeld ?_
   refine zt 3 hHeld ?_
   refine zt 5 hHeld ?_
   refine held_joint (VV 0 (fun v V=>v=.agg (ssA s)) (VV 2 (fun v V=>v=.agg (ceA (balC (k:Int)))) (VV 4 (fun v V=>v=.slice (some ⟨b,o,none⟩) m3 d3) (VV 6 (fun v V=>v=.pointer (some ⟨b,o+k,none⟩)) (VV 7 (fun v V=>v=.int .i64 (nthG BL k)) (VV 8 (fun v V=>∃ s2,v=.agg (ssA s2)∧OwnS V w.heap.size s2∧s2.V=⟨addC s.C (balC (k:Int)) (nthG BL k),s.Q,s.K,s.P,s.G⟩) (VN))))))) [(0,some 18),(2,some 20),(4,some 22),(6,some 24),(7,some 25),(8,some 26)] (fuel:=1) (by kernel_rfl) (by kernel_rfl) (fun _ _ h _=>h) (VV.ext (fun v w w' h e=>h) (VV.ext (fun v w w' h e=>h) (VV.ext (fun v w w' h e=>h) (VV.ext (fun v w w' h e=>h) (VV.ext (fun v w w' h e=>h) (VV.ext (fun v w w' ⟨s2,h1,h2,h3⟩ e=>⟨s2,h1,h2.ext e,h3⟩) (VN.ext))))))) hHeld ?hm1 rfl ?hr1
   case hm1 =>
    refine Members.cons ?mm1_0 (Members.cons ?mm1_2 (Members.cons ?mm1_4 (Members.cons ?mm1_6 (Members.cons ?mm1_7 (Members.cons ?mm1_8 (Members.nil _))))))
    case mm1_0 =>
     refine zm [] (fun env W hE hS hD K hK=>?_)
     clear hD
     try simp only [layj]
     obtain ⟨q0,q1,q2,q3,q4⟩:=ss_facts (HS6.out.blk.ext hE)
     go_simp
     have hk:=hK.out (.agg (ssA s)) _ (Ext.refl _) (rfl)
     try simp only [layj] at hk
     exact hk
    case mm1_2 =>
     refine zm [] (fun env W hE hS hD K hK=>?_)
     clear hD
     try simp only [layj]
     go_simp
     go_at_call 33
     refine (rBalance_any (k:Int) _).mono ?_
     rintro e w5 ⟨rfl,he5⟩
     have hk:=hK.out (.agg (ceA (balC (k:Int)))) _ (he5) (rfl)
     try simp only [layj] at hk
     exact hk
    case mm1_4 =>
     refine zm [] (fun env W hE hS hD K hK=>?_)
     clear hD
     try simp only [layj]
     have g4:W.cell? ⟨w.heap.size,4,none⟩=some (.slice (some ⟨b,o,none⟩) m3 d3):=(HG6.out.ext hE).cell 4
     go_simp
     have hk:=hK.out (.slice (some ⟨b,o,none⟩) m3 d3) _ (Ext.refl _) (rfl)
     try simp only [layj] at hk
     exact hk
    case mm1_6 =>
     refine zm [(4,some 22)] (fun env W hE hS hD K hK=>?_)
     have h4:(fun v V=>v=.slice (some ⟨b,o,none⟩) m3 d3) (env 4) W:=hD (4,some 22) (by simp)
     clear hD
     try simp only [layj] at hK ⊢
     generalize env 4=x4 at h4 hK ⊢
     subst h4
     go_simp
     have hk:=hK.out (.pointer (some ⟨b,o+k,none⟩)) _ (Ext.refl _) (rfl)
     try simp only [layj] at hk
     exact hk
    case mm1_7 =>
     refine zm [(6,some 24)] (fun env W hE hS hD K hK=>?_)
     have h6:(fun v V=>v=.pointer (some ⟨b,o+k,none⟩)) (env 6) W:=hD (6,some 24) (by simp)
     clear hD
     try simp only [layj] at hK ⊢
     generalize env 6=x6 at h6 hK ⊢
     subst h6
     have c9:=HCB.out W (HX6.out.trans hE)
     go_simp
     have hk:=hK.out (.int .i64 (nthG BL k)) _ (Ext.refl _) (rfl)
     try simp only [layj] at hk
     exact hk
    case mm1_8 =>
     refine zm [(0,some 18),(2,some 20),(7,some 25)] (fun env W hE hS hD K hK=>?_)
     have h0:(fun v V=>v=.agg (ssA s)) (env 0) W:=hD (0,some 18) (by simp)
     have h2:(fun v V=>v=.agg (ceA (balC (k:Int)))) (env 2) W:=hD (2,some 20) (by simp)
     have h7:(fun v V=>v=.int .i64 (nthG BL k)) (env 7) W:=hD (7,some 25) (by simp)
     clear hD
     try simp only [layj] at hK ⊢
     generalize env 0=x0 at h0 hK ⊢
     generalize env 2=x2 at h2 hK ⊢
     generalize env 7=x7 at h7 hK ⊢
     subst h0
     subst h2
     subst h7
     go_simp
     go_at_call 42
     refine (rPut_any s (balC (k:Int)) (nthG BL k) _ (HS6.out.own.ok.ext hE) HCW.out HAW.out HBD.out).mono ?_
     rintro e w5 ⟨s2,rfl,ho2,hv2,he5⟩
     have hk:=hK.out (.agg (ssA s2)) _ (he5) (⟨s2,rfl,own_monoS ho2 (Nat.le_trans HS6.out.low.size hE.size),hv2⟩)
     try simp only [layj] at hk
     exact hk
   case hr1 =>
    intro env W hE hS hV
    have h0:(fun v V=>v=.agg (ssA s)) (env 0) W:=hV (0,some 18) (by simp)
    have h2:(fun v V=>v=.agg (ceA (balC (k:Int)))) (env 2) W:=hV (2,some 20) (by simp)
    have h4:(fun v V=>v=.slice (some ⟨b,o,none⟩) m3 d3) (env 4) W:=hV (4,some 22) (by simp)
    have h6:(fun v V=>v=.pointer (some ⟨b,o+k,none⟩)) (env 6) W:=hV (6,some 24) (by simp)
    have h7:(fun v V=>v=.int .i64 (nthG BL k)) (env 7) W:=hV (7,some 25) (by simp)
    have h8:(fun v V=>∃ s2,v=.agg (ssA s2)∧OwnS V w.heap.size s2∧s2.V=⟨addC s.C (balC (k:Int)) (nthG BL k),s.Q,s.K,s.P,s.G⟩) (env 8) W:=hV (8,some 26) (by simp)
    clear hV
    try simp only [layj]
    generalize env 0=x0 at h0 ⊢
    generalize env 2=x2 at h2 ⊢
    generalize env 4=x4 at h4 ⊢
    generalize env 6=x6 at h6 ⊢
    generalize env 7=x7 at h7 ⊢
    generalize env 8=x8 at h8 ⊢
    subst h0
    subst h2
    subst h4
    subst h6
    subst h7
    obtain ⟨s2,rfl,ho2,hv2⟩:=h8
    have hHeld:=hS
    refine za 9 (fun K hK=>?_)
    (refine step_storeSs rfl (.tmp 3) (.tmp 26) (by rfl) (w.heap.size+3) (.agg (ssA s2)) s2 rfl (by rfl) (by rfl) (HS6.out.blk.ext hE) ?_;intro W9 h9)
    refine hK.out _ _ (trivial) (fun hHeld=>?_)
    clear hK K
    try simp only [lays]
    refine wpAnyH_done (by kernel_rfl) ?_ _
    have HF:=zh (show StB w W9 (w.heap.size+3) s2 from by rw [← h9.out.1];exact StB.start ho2 (HS6.out.blk.ext hE) (HS6.out.low.trans hE) (by omega))
    have HGF:=zh (show Blk W9 w.heap.size 40 (genC N Z B1 m1 d1 B2 m2 d2 (some ⟨b,o,none⟩) m3 d3) from by rw [← h9.out.1];exact (HG6.out.ext hE).grown (grown_setCells' _ _ _ _) (fun e=>by injection e;omega))
    have HRF:=zh (show Blk W9 (w.heap.size+1) 44 (ssA ss0) from by rw [← h9.out.1];exact (HR6.out.ext hE).grown (grown_setCells' _ _ _ _) (fun e=>by injection e;omega))
    have HVF:=zh (show s2.V=(⟨balN BL (k+1),List.replicate m2 0,[],[],0⟩:StV) from by
     have hh:=HV.out
     rw [hv2,balN_succ,show s.C=_ from congrArg StV.C hh,show s.Q=_ from congrArg StV.Q hh,show s.K=_ from congrArg StV.K hh,show s.P=_ from congrArg StV.P hh,show s.G=_ from congrArg StV.G hh])
    clear h9 ho2 hv2 hE hS hHeld HS6 HG6 HR6
    go_wp2_with fail
    go_roundw
    case rel=>exact ⟨k+1,s2,by go_num,hlt,HF,HGF,HRF,HVF⟩
    case measure=>simp [intOf];omega
  ·obtain rfl : m3 = k := by omega
   have i1:¬ (m3:Int) < (m3:Int):=by omega
   have HV2:=zh (show s.V=(⟨stkN Z (balN BL BL.length) 0,List.replicate m2 0,[],[],0⟩:StV) from by rw [HV.out,HLEN.out];rfl)
   obtain ⟨s9,hs9⟩:∃ s9,s=s9:=⟨_,rfl⟩
   subst hs9
   go_upto_region 6 with fail
   clear g4
   go_wp2_with fail
   obtain ⟨W0,rfl⟩:∃ W0,W0=wr:=⟨_,rfl⟩
   go_loopw [5] (fun vi wr=>∃ (k:Nat) (s:StR),vi=.int .i64 (k:Int)∧k≤m1∧Hid (StB w wr (w.heap.size+3) s)∧Hid (Blk wr w.heap.size 40 (genC N Z B1 m1 d1 B2 m2 d2 B3 m3 d3))∧Hid (Blk wr (w.heap.size+1) 44 (ssA ss0))∧Hid (s.V=(⟨stkN Z (balN BL BL.length) k,List.replicate m2 0,[],[],0⟩:StV))) (fun i _=>m1 - (intOf i).toNat)
   case atStart=>exact ⟨0,s,rfl,Nat.zero_le _,HS,HG,HR,HV2⟩
   case round =>
    clear HS HG HR HV HV2
    obtain ⟨k,s,rfl,hk2,HS,HG,HR,HV⟩:=hrel
    have g2:wr.cell? ⟨w.heap.size,2,none⟩=some (.slice B1 m1 d1):=HG.out.cell 2
    by_cases hlt:k < m1
    ·have i0 : (0 : Int) ≤ (k : Int) := by omega
     have i2:(k:Int) < (m1:Int):=by omega
     have HCW:=zh (show ceW (stkC (k:Int)) from ce_ok (k:=3) (wfS ⟨by omega,by omega⟩) (wfS ⟨by omega,by omega⟩))
     have HAW:=HZW
     have HBD:=zh (show s.n1≤1000000∧s.n2≤1000000∧s.n3≤1000000∧s.n4≤1000000 from by
      have m1':=HS.out.own.l1;have m2':=HS.out.own.l2;have m3':=HS.out.own.l3;have m4':=HS.out.own.l4
      have hv:=HV.out
      rw [show s.C=stkN Z (balN BL BL.length) k from congrArg StV.C hv] at m1'
      rw [show s.Q=List.replicate m2 0 from congrArg StV.Q hv,List.length_replicate] at m2'
      rw [show s.K=[] from congrArg StV.K hv] at m3'
      rw [show s.P=[] from congrArg StV.P hv] at m4'
      have h5:=balN_len BL BL.length;have h6:=stkN_len Z (balN BL BL.length) k;have h7:=HLEN.out
      simp only [List.length_nil] at m3' m4'
      omega)
     have HS6:=zh (HS.out.ext ((Ext.refl wr).drew'))
     have HG6:=zh (HG.out.ext ((Ext.refl wr).drew'))
     have HR6:=zh (HR.out.ext ((Ext.refl wr).drew'))
     have HX6:=zh HS6.out.low
     go_upto_region 9 with fail
     clear g2
     refine wp_region_held_drew (S:=fun _=>True) (by kernel_rfl) (trivial) (fun hHeld=>?_)
     refine zt 1 hHeld ?_
     refine zt 3 hHeld ?_
     refine held_joint (VV 0 (fun v V=>v=.agg (ssA s)) (VV 2 (fun v V=>v=.agg (ceA (stkC (k:Int)))) (VV 4 (fun v V=>v=.int .i64 Z) (VV 5 (fun v V=>∃ s2,v=.agg (ssA s2)∧OwnS V w.heap.size s2∧s2.V=⟨addC s.C (stkC (k:Int)) (Z),s.Q,s.K,s.P,s.G⟩) (VN))))) [(0,some 34),(2,some 36),(4,some 38),(5,some 39)] (fuel:=1) (by kernel_rfl) (by kernel_rfl) (fun _ _ h _=>h) (VV.ext (fun v w w' h e=>h) (VV.ext (fun v w w' h e=>h) (VV.ext (fun v w w' h e=>h) (VV.ext (fun v w w' ⟨s2,h1,h2,h3⟩ e=>⟨s2,h1,h2.ext e,h3⟩) (VN.ext))))) hHeld ?hm2 rfl ?hr2
     case hm2 =>
      refine Members.cons ?mm2_0 (Members.cons ?mm2_2 (Members.cons ?mm2_4 (Members.cons ?mm2_5 (Members.nil _))))
      case mm2_0 =>
       refine zm [] (fun env W hE hS hD K hK=>?_)
       clear hD
       try simp only [layj]
       obtain ⟨q0,q1,q2,q3,q4⟩:=ss_facts (HS6.out.blk.ext hE)
       go_simp
       have hk:=hK.out (.agg (ssA s)) _ (Ext.refl _) (rfl)
       try simp only [layj] at hk
       exact hk
      case mm2_2 =>
       refine zm [] (fun env W hE hS hD K hK=>?_)
       clear hD
       try simp only [layj]
       go_simp
       go_at_call 49
       refine (rStake_any (k:Int) _).mono ?_
       rintro e w5 ⟨rfl,he5⟩
       have hk:=hK.out (.agg (ceA (stkC (k:Int)))) _ (he5) (rfl)
       try simp only [layj] at hk
       exact hk
      case mm2_4 =>
       refine zm [] (fun env W hE hS hD K hK=>?_)
       clear hD
       try simp only [layj]
       have g1:W.cell? ⟨w.heap.size,1,none⟩=some (.int .i64 Z):=(HG6.out.ext hE).cell 1
       go_simp
       have hk:=hK.out (.int .i64 Z) _ (Ext.refl _) (rfl)
       try simp only [layj] at hk
       exact hk
      case mm2_5 =>
       refine zm [(0,some 34),(2,some 36),(4,some 38)] (fun env W hE hS hD K hK=>?_)
       have h0:(fun v V=>v=.agg (ssA s)) (env 0) W:=hD (0,some 34) (by simp)
       have h2:(fun v V=>v=.agg (ceA (stkC (k:Int)))) (env 2) W:=hD (2,some 36) (by simp)
       have h4:(fun v V=>v=.int .i64 Z) (env 4) W:=hD (4,some 38) (by simp)
       clear hD
       try simp only [layj] at hK ⊢
       generalize env 0=x0 at h0 hK ⊢
       generalize env 2=x2 at h2 hK ⊢
       generalize env 4=x4 at h4 hK ⊢
       subst h0
       subst h2
       subst h4
       go_simp
       go_at_call 42
       refine (rPut_any s (stkC (k:Int)) (Z) _ (HS6.out.own.ok.ext hE) HCW.out HAW.out HBD.out).mono ?_
       rintro e w5 ⟨s2,rfl,ho2,hv2,he5⟩
       have hk:=hK.out (.agg (ssA s2)) _ (he5) (⟨s2,rfl,own_monoS ho2 (Nat.le_trans HS6.out.low.size hE.size),hv2⟩)
       try simp only [layj] at hk
       exact hk
     case hr2 =>
      intro env W hE hS hV
      have h0:(fun v V=>v=.agg (ssA s)) (env 0) W:=hV (0,some 34) (by simp)
      have h2:(fun v V=>v=.agg (ceA (stkC (k:Int)))) (env 2) W:=hV (2,some 36) (by simp)
      have h4:(fun v V=>v=.int .i64 Z) (env 4) W:=hV (4,some 38) (by simp)
      have h5:(fun v V=>∃ s2,v=.agg (ssA s2)∧OwnS V w.heap.size s2∧s2.V=⟨addC s.C (stkC (k:Int)) (Z),s.Q,s.K,s.P,s.G⟩) (env 5) W:=hV (5,some 39) (by simp)
      clear hV
      try simp only [layj]
      generalize env 0=x0 at h0 ⊢
      generalize env 2=x2 at h2 ⊢
      generalize env 4=x4 at h4 ⊢
      generalize env 5=x5 at h5 ⊢
      subst h0
      subst h2
      subst h4
      obtain ⟨s2,rfl,ho2,hv2⟩:=h5
      have hHeld:=hS
      refine za 6 (fun K hK=>?_)
      (refine step_storeSs rfl (.tmp 3) (.tmp 39) (by rfl) (w.heap.size+3) (.agg (ssA s2)) s2 rfl (by rfl) (by rfl) (HS6.out.blk.ext hE) ?_;intro W9 h9)
      refine hK.out _ _ (trivial) (fun hHeld=>?_)
      clear hK K
      try simp only [lays]
      refine wpAnyH_done (by kernel_rfl) ?_ _
      have HF:=zh (show StB w W9 (w.heap.size+3) s2 from by rw [← h9.out.1];exact StB.start ho2 (HS6.out.blk.ext hE) (HS6.out.low.trans hE) (by omega))
      have HGF:=zh (show Blk W9 w.heap.size 40 (genC N Z B1 m1 d1 B2 m2 d2 B3 m3 d3) from by rw [← h9.out.1];exact (HG6.out.ext hE).grown (grown_setCells' _ _ _ _) (fun e=>by injection e;omega))
      have HRF:=zh (show Blk W9 (w.heap.size+1) 44 (ssA ss0) from by rw [← h9.out.1];exact (HR6.out.ext hE).grown (grown_setCells' _ _ _ _) (fun e=>by injection e;omega))
      have HVF:=zh (show s2.V=(⟨stkN Z (balN BL BL.length) (k+1),List.replicate m2 0,[],[],0⟩:StV) from by
       have hh:=HV.out
       rw [hv2,stkN_succ,show s.C=_ from congrArg StV.C hh,show s.Q=_ from congrArg StV.Q hh,show s.K=_ from congrArg StV.K hh,show s.P=_ from congrArg StV.P hh,show s.G=_ from congrArg StV.G hh])
      clear h9 ho2 hv2 hE hS hHeld HS6 HG6 HR6
      go_wp2_with fail
      go_roundw
      case rel=>exact ⟨k+1,s2,by go_num,hlt,HF,HGF,HRF,HVF⟩
      case measure=>simp [intOf];omega
    ·obtain rfl : m1 = k := by omega
     have i2:¬ (m1:Int) < (m1:Int):=by omega
     go_upto_region 10 with fail
     clear g2
     have HF:=HS
     have HRF:=HR
     obtain ⟨q0,q1,q2,q3,q4⟩:=ss_facts HF.out.blk
     go_wp2_with ((with_reducible refine wpList_storeSs rfl (.tmp 2) (.tmp 40) rfl (w.heap.size+1) (s) rfl rfl HRF.out ?_);intro W9 h9)
     have hst:Blk W9 (w.heap.size+1) 44 (ssA (s)):=by rw [← h9.out];exact blk_whole (ds:=ssA (s)) HRF.out rfl
     have HOW:=zh (show OwnS W9 w.heap.size (s) from by
      rw [← h9.out]
      exact HF.out.own.kept (grown_setCells' _ _ _ _) HRF.out (by decide) (by decide) (by decide) (by decide))
     have HXE:=zh (show Ext w W9 from by rw [← h9.out];exact Below.setCells' HF.out.low (by omega) _ _)
     clear h9 q0 q1 q2 q3 q4
     exact bodyPost_ret (v:=.agg (ssA (s))) (retC rfl _ _ (w.heap.size+1) _ rfl (run_loadVar_row _ _ _ _ _ (0,0) _ hst Tryz.underlying44 rfl (by kernel_rfl))) rfl ⟨s,rfl,HOW.out,HV.out,HXE.out⟩
end Go.Proofs.YtohmmcahpakokaaGreat
