/- Votes and evidence: SameKey, Conflict, Name, Verify, verifies, Valid. -/
import Derived.Test.YtohmmcahpakokaaGreatD38
set_option maxRecDepth 100000
set_option maxHeartbeats 8000000
set_option linter.unusedVariables false
set_option linter.unusedSimpArgs false
namespace Go.Proofs.YtohmmcahpakokaaGreat
section
open Go.RowKit
attribute [local go_sem ↓] Go.wp_at_zero Go.wp_at_succ
theorem vtP:RowP VtR 134 vtA:=⟨fun _=>rfl,by kernel_rfl,_,Tryz.underlying134,rfl⟩
theorem sgP:RowP SgR 136 sgA:=⟨fun _=>rfl,by kernel_rfl,_,Tryz.underlying136,rfl⟩
structure EvR where
 a:SgR
 b:SgR
abbrev evA (E:EvR):Array Value:=#[.int .i64 E.a.v.k,.int .i64 E.a.v.sl,.int .i64 E.a.v.ro,.int .i64 E.a.v.ch,.int .i64 E.a.v.si,.int .i64 E.a.v.su,.int .u8 (nb8 E.a.v.pa 0),.int .u8 (nb8 E.a.v.pa 1),.int .u8 (nb8 E.a.v.pa 2),.int .u8 (nb8 E.a.v.pa 3),.int .u8 (nb8 E.a.v.pa 4),.int .u8 (nb8 E.a.v.pa 5),.int .u8 (nb8 E.a.v.pa 6),.int .u8 (nb8 E.a.v.pa 7),.int .u8 (nb8 E.a.v.va 0),.int .u8 (nb8 E.a.v.va 1),.int .u8 (nb8 E.a.v.va 2),.int .u8 (nb8 E.a.v.va 3),.int .u8 (nb8 E.a.v.va 4),.int .u8 (nb8 E.a.v.va 5),.int .u8 (nb8 E.a.v.va 6),.int .u8 (nb8 E.a.v.va 7),.slice E.a.A E.a.n E.a.c,.int .i64 E.b.v.k,.int .i64 E.b.v.sl,.int .i64 E.b.v.ro,.int .i64 E.b.v.ch,.int .i64 E.b.v.si,.int .i64 E.b.v.su,.int .u8 (nb8 E.b.v.pa 0),.int .u8 (nb8 E.b.v.pa 1),.int .u8 (nb8 E.b.v.pa 2),.int .u8 (nb8 E.b.v.pa 3),.int .u8 (nb8 E.b.v.pa 4),.int .u8 (nb8 E.b.v.pa 5),.int .u8 (nb8 E.b.v.pa 6),.int .u8 (nb8 E.b.v.pa 7),.int .u8 (nb8 E.b.v.va 0),.int .u8 (nb8 E.b.v.va 1),.int .u8 (nb8 E.b.v.va 2),.int .u8 (nb8 E.b.v.va 3),.int .u8 (nb8 E.b.v.va 4),.int .u8 (nb8 E.b.v.va 5),.int .u8 (nb8 E.b.v.va 6),.int .u8 (nb8 E.b.v.va 7),.slice E.b.A E.b.n E.b.c]
def evL (E:EvR):List Value:=(evA E).toList
instance:RowT EvR where
 sz:=46
 z:=⟨zeroS,zeroS⟩
 enc:=evL
 ok E w:=E.a.ok w∧E.b.ok w
 pos:=by decide
 len _:=rfl
 one E u hu:=by
  rw [show evL E=sgL E.a ++ sgL E.b from rfl] at hu
  rcases List.mem_append.1 hu with h | h
  ·exact sgL_one _ u h
  exact sgL_one _ u h
 ext E w w' h e:=⟨h.1.ext e,h.2.ext e⟩
theorem evP:RowP EvR 138 evA:=⟨fun _=>rfl,by kernel_rfl,_,Tryz.underlying138,rfl⟩
section
variable {w:World} {b of:Nat}
theorem ev_a {E:EvR} (h:w.rangeAt b of (RowT.enc E)):w.rangeAt b of (RowT.enc E.a):=rT (k:=23) h
theorem ev_b {E:EvR} (h:w.rangeAt b of (RowT.enc E)):w.rangeAt b (of+23) (RowT.enc E.b):=rangeAt_drop (k:=23) h
theorem sg_v {S:SgR} (h:w.rangeAt b of (RowT.enc S)):w.rangeAt b of (RowT.enc S.v):=rT (k:=22) h
end
def skV (a b:VtR):Bool:=decide (a.k=b.k) && (decide (a.pa=b.pa) && (decide (a.sl=b.sl) && (decide (a.ro=b.ro) && decide (a.si=b.si))))
theorem sameKey_any (a b:VtR) (w:World):Calls Tryz.prog 243 #[.agg (vtA a),.agg (vtA b)] w fun e w'=>e=.returned (.bool (skV a b))∧Ext w w':=by
 obtain ⟨W,hW⟩:∃ W,(w.alloc (.cells (vtA a) 134)).alloc (.cells (vtA b) 134)=W:=⟨_,rfl⟩
 have HA:=zh (show Blk W w.heap.size 134 (vtA a) from by rw [← hW];exact (Blk.new w 134 (vtA a)).alloc _)
 have HB:=zh (show Blk W (w.heap.size+1) 134 (vtA b) from by rw [← hW];exact Blk.newAt _ _ _ _ (by simp))
 have HE:=zh (show Ext w W from by rw [← hW];exact ((Ext.refl w).alloc' _).alloc' _)
 have a0:W.cell? ⟨w.heap.size,0,none⟩=some (.int .i64 a.k):=HA.out.cell 0
 have a1:W.cell? ⟨w.heap.size,1,none⟩=some (.int .i64 a.sl):=HA.out.cell 1
 have a2:W.cell? ⟨w.heap.size,2,none⟩=some (.int .i64 a.ro):=HA.out.cell 2
 have a4:W.cell? ⟨w.heap.size,4,none⟩=some (.int .i64 a.si):=HA.out.cell 4
 have b0:W.cell? ⟨w.heap.size+1,0,none⟩=some (.int .i64 b.k):=HB.out.cell 0
 have b1:W.cell? ⟨w.heap.size+1,1,none⟩=some (.int .i64 b.sl):=HB.out.cell 1
 have b2:W.cell? ⟨w.heap.size+1,2,none⟩=some (.int .i64 b.ro):=HB.out.cell 2
 have b4:W.cell? ⟨w.heap.size+1,4,none⟩=some (.int .i64 b.si):=HB.out.cell 4
 have ra:W.rangeAt w.heap.size 6 (RowT.enc a.pa):=rT (k:=8) (rangeAt_drop (k:=6) (rB HA.out))
 have rb:W.rangeAt (w.heap.size+1) 6 (RowT.enc b.pa):=rT (k:=8) (rangeAt_drop (k:=6) (rB HB.out))
 obtain ⟨x1,h1⟩:∃ x,decide (a.k=b.k)=x:=⟨_,rfl⟩
 obtain ⟨x2,h2⟩:∃ x,decide (a.pa=b.pa)=x:=⟨_,rfl⟩
 obtain ⟨x3,h3⟩:∃ x,decide (a.sl=b.sl)=x:=⟨_,rfl⟩
 obtain ⟨x4,h4⟩:∃ x,decide (a.ro=b.ro)=x:=⟨_,rfl⟩
 obtain ⟨x5,h5⟩:∃ x,decide (a.si=b.si)=x:=⟨_,rfl⟩
 have HV:=zh (show skV a b=(x1 && (x2 && (x3 && (x4 && x5)))) from by unfold skV;rw [h1,h2,h3,h4,h5])
 have q7:=fun W=>run_eqN a.pa b.pa W
 rw [h2] at q7
 have e1:(a.k == b.k)=x1:=by rw [← h1];exact Bool.beq_eq_decide_eq _ _
 have e3:(a.sl == b.sl)=x3:=by rw [← h3];exact Bool.beq_eq_decide_eq _ _
 have e4:(a.ro == b.ro)=x4:=by rw [← h4];exact Bool.beq_eq_decide_eq _ _
 have e5:(a.si == b.si)=x5:=by rw [← h5];exact Bool.beq_eq_decide_eq _ _
 clear h2
 have hcs:(x1=false) ∨ (x1=true∧x2=false) ∨ (x1=true∧x2=true∧x3=false) ∨ (x1=true∧x2=true∧x3=true∧x4=false) ∨ (x1=true∧x2=true∧x3=true∧x4=true∧x5=false) ∨ (x1=true∧x2=true∧x3=true∧x4=true∧x5=true):=by
  cases x1 <;> cases x2 <;> cases x3 <;> cases x4 <;> cases x5 <;> simp
 rcases hcs with rfl | ⟨rfl,rfl⟩ | ⟨rfl,rfl,rfl⟩ | ⟨rfl,rfl,rfl,rfl⟩ | ⟨rfl,rfl,rfl,rfl,rfl⟩ | ⟨rfl,rfl,rfl,rfl,rfl⟩
 all_goals
  go_enter Tryz.func243,Tryz.ntmps243
  go_wp2_with (first | (with_reducible refine wpList_loadGg nmP (by with_unfolding_all rfl) (.tmp 11) rfl w.heap.size 6 rfl a.pa _ rfl ra ?_) | (with_reducible refine wpList_loadGg nmP (by with_unfolding_all rfl) (.tmp 13) rfl (w.heap.size+1) 6 rfl b.pa _ rfl rb ?_))
  go_ret
  exact ⟨by rw [HV.out];simp,HE.out⟩
theorem run_neVt (a b:VtR) (ha:a.wf) (hb:b.wf) (w:World):(binOp .neq 134 (.agg (vtA a)) (.agg (vtA b))).run Tryz.prog w=.ok (.bool (decide (a ≠ b))) w:=by
 have h:=run_eqVt a b ha hb w
 unfold binOp at h ⊢
 simp only [Sem.run_bind,Sem.run_pure] at h ⊢
 generalize (Op.equal 134 (.agg (vtA a)) (.agg (vtA b))).run Tryz.prog w=r at h ⊢
 cases r with
 | ok x w' =>
  simp only [Result.andThen_ok] at h ⊢
  injection h with h1 h2
  injection h1 with h1
  rw [h1,h2,decide_not]
 | halt x w'=>simp [Result.andThen] at h
theorem guard_Vt (op:BinOp) (x y:Operand) (a b:VtR) (w:World):(eqGuard op 134 x y (.agg (vtA a)) (.agg (vtA b))).run Tryz.prog w=.ok () w:=run_eqGuard_agg w op _ x y _ _ (by kernel_rfl)
def cfV (a b:VtR):Bool:=decide (a ≠ b) && (skV a b && (vldVt a && vldVt b))
theorem conflict_any (a b:VtR) (w:World) (ha:a.wf) (hb:b.wf):Calls Tryz.prog 209 #[.agg (vtA a),.agg (vtA b)] w fun e w'=>e=.returned (.bool (cfV a b))∧Ext w w':=by
 obtain ⟨W,hW⟩:∃ W,(w.alloc (.cells (vtA a) 134)).alloc (.cells (vtA b) 134)=W:=⟨_,rfl⟩
 have HA:=zh (show Blk W w.heap.size 134 (vtA a) from by rw [← hW];exact (Blk.new w 134 (vtA a)).alloc _)
 have HB:=zh (show Blk W (w.heap.size+1) 134 (vtA b) from by rw [← hW];exact Blk.newAt _ _ _ _ (by simp))
 have HE:=zh (show Ext w W from by rw [← hW];exact ((Ext.refl w).alloc' _).alloc' _)
 obtain ⟨va,hva⟩:∃ v,Value.agg (vtA a)=v:=⟨_,rfl⟩
 obtain ⟨vb,hvb⟩:∃ v,Value.agg (vtA b)=v:=⟨_,rfl⟩
 have HVA:=zh hva
 have HVB:=zh hvb
 obtain ⟨x1,h1⟩:∃ x,decide (a ≠ b)=x:=⟨_,rfl⟩
 obtain ⟨x2,h2⟩:∃ x,skV a b=x:=⟨_,rfl⟩
 obtain ⟨x3,h3⟩:∃ x,vldVt a=x:=⟨_,rfl⟩
 obtain ⟨x4,h4⟩:∃ x,vldVt b=x:=⟨_,rfl⟩
 have HV:=zh (show cfV a b=(x1 && (x2 && (x3 && x4))) from by unfold cfV;rw [h1,h2,h3,h4])
 have HN:=zh (fun W=>run_neVt a b ha hb W)
 have HG:=zh (fun (W:World)=>guard_Vt .neq (.tmp 5) (.tmp 6) a b W)
 have HSK:=zh (fun W=>sameKey_any a b W)
 have HVA2:=zh (fun W=>voteValid_any a W)
 have HVB2:=zh (fun W=>voteValid_any b W)
 rw [h1,hva,hvb] at HN
 rw [hva,hvb] at HG
 rw [h2,hva,hvb] at HSK
 rw [h3,hva] at HVA2
 rw [h4,hvb] at HVB2
 have HRA:=zh (fun (V:World) (e:Ext W V)=>show V.rangeAt w.heap.size 0 (RowT.enc a) from rB (HA.out.ext e))
 have HRB:=zh (fun (V:World) (e:Ext W V)=>show V.rangeAt (w.heap.size+1) 0 (RowT.enc b) from rB (HB.out.ext e))
 clear h1 h2 h3 h4 ha hb hva hvb
 have HX0:=zh (Ext.refl W)
 have q8:=HG.out
 have q9:=HN.out
 have hcs:(x1=false) ∨ (x1=true∧x2=false) ∨ (x1=true∧x2=true∧x3=false) ∨ (x1=true∧x2=true∧x3=true∧x4=false) ∨ (x1=true∧x2=true∧x3=true∧x4=true):=by
  cases x1 <;> cases x2 <;> cases x3 <;> cases x4 <;> simp
 rcases hcs with rfl | ⟨rfl,rfl⟩ | ⟨rfl,rfl,rfl⟩ | ⟨rfl,rfl,rfl,rfl⟩ | ⟨rfl,rfl,rfl,rfl⟩
 all_goals
  go_enter Tryz.func209,Tryz.ntmps209
  go_wp2_with (first | (with_reducible refine wL vtP rfl (.tmp 2) rfl w.heap.size 0 rfl a va HVA.out (HRA.out _ HX0.out) ?_) | (with_reducible refine wL vtP rfl (.tmp 3) rfl (w.heap.size+1) 0 rfl b vb HVB.out (HRB.out _ HX0.out) ?_)  | (with_reducible refine wpList_loadGg vtP (by with_unfolding_all rfl) (.tmp 2) rfl w.heap.size 0 rfl a va HVA.out (HRA.out _ HX0.out) ?_) | (with_reducible refine wpList_loadGg vtP (by with_unfolding_all rfl) (.tmp 3) rfl (w.heap.size+1) 0 rfl b vb HVB.out (HRB.out _ HX0.out) ?_) | (go_at_call 243;(with_reducible refine (HSK.out _).mono ?_);rintro e w5 ⟨rfl,he5⟩;have HX0:=zh (HX0.out.trans he5);clear he5) | (go_at_call 244;(first | (with_reducible refine (HVA2.out _).mono ?_) | (with_reducible refine (HVB2.out _).mono ?_));rintro e w5 ⟨rfl,he5⟩;have HX0:=zh (HX0.out.trans he5);clear he5))
  go_ret
  exact ⟨by rw [HV.out];simp,HE.out.trans HX0.out⟩
def vtNm (v:VtR):UInt64:=tagU 64 (encVt v)
theorem voteName_any (v:VtR) (h:vldVt v=true) (w:World):Calls Tryz.prog 260 #[.agg (vtA v)] w fun e w'=>e=.returned (.agg (nmc (vtNm v)))∧Ext w w':=by
 obtain ⟨W,hW⟩:∃ W,(w.alloc (.cells (vtA v) 134)).alloc (.cells zcs.toArray 30)=W:=⟨_,rfl⟩
 have HB2:=zh (show Blk W (w.heap.size+1) 30 zcs.toArray from by rw [← hW];exact Blk.newAt _ _ _ _ (by simp))
 have HE:=zh (show Ext w W from by rw [← hW];exact ((Ext.refl w).alloc' _).alloc' _)
 have rv:W.rangeAt w.heap.size 0 (RowT.enc v):=by rw [← hW];exact rB ((Blk.new w 134 (vtA v)).alloc _)
 obtain ⟨vv,hvv⟩:∃ x,Value.agg (vtA v)=x:=⟨_,rfl⟩
 have HVV:=zh hvv
 have HEN:=zh (fun W=>voteEnc_yes v h W)
 rw [hvv] at HEN
 clear hvv h
 go_enter Tryz.func260,Tryz.ntmps260
 go_wp2_with (with_reducible refine wL vtP rfl (.tmp 1) rfl w.heap.size 0 rfl v vv HVV.out rv ?_)
 refine (HEN.out _).mono ?_
 rintro e w2 ⟨A2,c2,rfl,hO2,he2⟩
 have HX2:=zh he2
 have HS2:=zh hO2.sl
 clear hO2 he2 rv
 go_wp2_with fail
 refine (tagged_any 64 A2 23 c2 _ _ HS2.out (by omega)).mono ?_
 rintro e w3 ⟨rfl,he3⟩
 have hb:=HB2.out.ext (HX2.out.trans he3)
 have hst:=run_storeN hb (tagU 64 (encVt v))
 go_wp2_with fail
 exact bodyPost_ret (v:=.agg (nmc (tagU 64 (encVt v)))) (retN rfl _ _ (w.heap.size+1) _ rfl (blkN hb _)) rfl ⟨rfl,Below.setCells' (HE.out.trans (HX2.out.trans he3)) (by omega) _ _⟩
def vfV (pub:UInt64) (v:VtR) (sig:List UInt8):Bool:=vldVt v && verU pub 2 (vtNm v) sig
theorem sgVerify_any (pub:UInt64) (S:SgR) (w:World) (h:S.ok w):Calls Tryz.prog 246 #[.agg (nmc pub),.agg (sgA S)] w fun e w'=>e=.returned (.bool (vfV pub S.v S.sig))∧Ext w w':=by
 obtain ⟨W,hW⟩:∃ W,(w.alloc (.cells (nmc pub) 30)).alloc (.cells (sgA S) 136)=W:=⟨_,rfl⟩
 have HB1:=zh (show Blk W w.heap.size 30 (nmc pub) from by rw [← hW];exact (Blk.new w 30 (nmc pub)).alloc _)
 have HB2:=zh (show Blk W (w.heap.size+1) 136 (sgA S) from by rw [← hW];exact Blk.newAt _ _ _ _ (by simp))
 have HE:=zh (show Ext w W from by rw [← hW];exact ((Ext.refl w).alloc' _).alloc' _)
 have HS:=zh h
 obtain ⟨vv,hvv⟩:∃ x,Value.agg (vtA S.v)=x:=⟨_,rfl⟩
 have HVV:=zh hvv
 have HVD:=zh (fun W=>voteValid_any S.v W)
 rw [hvv] at HVD
 obtain ⟨z,hz⟩:∃ z,verU pub 2 (vtNm S.v) S.sig=z:=⟨_,rfl⟩
 have HVF:=zh (fun (V:World) (e:Ext w V)=>verify_any pub (vtNm S.v) 2 S.A S.n S.c S.sig V (HS.out.sig.ext e))
 rw [hz] at HVF
 cases hv:vldVt S.v with
 | false =>
  have HV:=zh (show vfV pub S.v S.sig=false from by unfold vfV;rw [hv];rfl)
  rw [hv] at HVD
  have HNM:True:=trivial
  clear h hv hvv hz
  go_enter Tryz.func246,Tryz.ntmps246
  go_upto_region 1 with fail
  refine wp_region_held_drew (S:=fun V=>Blk V w.heap.size 30 (nmc pub)∧Blk V (w.heap.size+1) 136 (sgA S)∧Ext w V) (by kernel_rfl) (⟨HB1.out.drew,HB2.out.drew,HE.out.trans ((Ext.refl _).drew')⟩) (fun jj=>?_)
  refine zt 0 jj ?_
  refine zu 1 (v:=vv) jj ?_ (hy:=by exact yL vtP (by rfl) (.tmp 5) (by rfl) (w.heap.size+1) 0 (by rfl) S.v vv HVV.out (fun V h=>rT (k:=22) (rB h.2.1)))
  refine za 2 (fun K hK=>?_)
  (go_simp;go_at_call 244;refine (HVD.out _).mono ?_;rintro e w8 ⟨rfl,he8⟩)
  refine hK.out _ _ (⟨jj.1.ext he8,jj.2.1.ext he8,jj.2.2.trans he8⟩) (fun jj=>?_)
  clear hK K
  try simp only [lays]
  refine zt 3 jj ?_
  first | refine zu 4 (v:=.agg (nmc pub)) jj ?_ (hy:=by exact yL nmP (by rfl) (.tmp 2) (by rfl) w.heap.size 0 (by rfl) pub _ rfl (fun V h=>nm_range h.1)) | (refine zs 4 jj ?_)
  try simp only [lays]
  first | (refine zt 5 jj ?_) | (refine zs 5 jj ?_)
  first | refine zu 6 (v:=vv) jj ?_ (hy:=by exact yL vtP (by rfl) (.tmp 10) (by rfl) (w.heap.size+1) 0 (by rfl) S.v vv HVV.out (fun V h=>rT (k:=22) (rB h.2.1))) | (refine zs 6 jj ?_)
  try simp only [lays]
  refine zz0 [8,9] ?_;repeat first | refine zz1 ?_ (hy:=by intro W jS;have q9:W.cell? ⟨w.heap.size+1,22,none⟩=some (.slice S.A S.n S.c):=jS.2.1.cell 22;go_simp <;> with_reducible rfl) | refine zz2 ?_ | refine zz9 ?_
  refine za 7 (fun K hK=>?_)
  (go_simp;first | (go_at_call 260;refine (HNM.out _).mono ?_;rintro e w8 ⟨rfl,he8⟩) | skip)
  refine hK.out _ _ (by first | exact ⟨jj.1.ext he8,jj.2.1.ext he8,jj.2.2.trans he8⟩ | exact jj) (fun jj=>?_)
  clear hK K
  try simp only [lays]
  refine za 10 (fun K hK=>?_)
  (go_simp;first | (go_at_call 145;refine (HVF.out _ jj.2.2).mono ?_;rintro e w8 ⟨rfl,he8⟩) | skip)
  refine hK.out _ _ (by first | exact ⟨jj.1.ext he8,jj.2.1.ext he8,jj.2.2.trans he8⟩ | exact jj) (fun jj=>?_)
  clear hK K
  try simp only [lays]
  refine zzr [11,12] ?_
  refine wpAnyH_done (by kernel_rfl) ?_ _
  have HX:=zh jj.2.2
  clear jj
  go_wp2_with fail
  go_ret
  exact ⟨by rw [HV.out];rfl,HX.out⟩
 | true =>
  have HV:=zh (show vfV pub S.v S.sig=z from by unfold vfV;rw [hv,hz];rfl)
  have HNM:=zh (fun W=>voteName_any S.v hv W)
  rw [hv] at HVD
  rw [hvv] at HNM
  clear h hv hvv hz
  go_enter Tryz.func246,Tryz.ntmps246
  go_upto_region 1 with fail
  refine wp_region_held_drew (S:=fun V=>Blk V w.heap.size 30 (nmc pub)∧Blk V (w.heap.size+1) 136 (sgA S)∧Ext w V) (by kernel_rfl) (⟨HB1.out.drew,HB2.out.drew,HE.out.trans ((Ext.refl _).drew')⟩) (fun jj=>?_)
  refine zt 0 jj ?_
  refine zu 1 (v:=vv) jj ?_ (hy:=by exact yL vtP (by rfl) (.tmp 5) (by rfl) (w.heap.size+1) 0 (by rfl) S.v vv HVV.out (fun V h=>rT (k:=22) (rB h.2.1)))
  refine za 2 (fun K hK=>?_)
  (go_simp;go_at_call 244;refine (HVD.out _).mono ?_;rintro e w8 ⟨rfl,he8⟩)
  refine hK.out _ _ (⟨jj.1.ext he8,jj.2.1.ext he8,jj.2.2.trans he8⟩) (fun jj=>?_)
  clear hK K
  try simp only [lays]
  refine zt 3 jj ?_
  first | refine zu 4 (v:=.agg (nmc pub)) jj ?_ (hy:=by exact yL nmP (by rfl) (.tmp 2) (by rfl) w.heap.size 0 (by rfl) pub _ rfl (fun V h=>nm_range h.1)) | (refine zs 4 jj ?_)
  try simp only [lays]
  first | (refine zt 5 jj ?_) | (refine zs 5 jj ?_)
  first | refine zu 6 (v:=vv) jj ?_ (hy:=by exact yL vtP (by rfl) (.tmp 10) (by rfl) (w.heap.size+1) 0 (by rfl) S.v vv HVV.out (fun V h=>rT (k:=22) (rB h.2.1))) | (refine zs 6 jj ?_)
  try simp only [lays]
  refine zz0 [8,9] ?_;repeat first | refine zz1 ?_ (hy:=by intro W jS;have q9:W.cell? ⟨w.heap.size+1,22,none⟩=some (.slice S.A S.n S.c):=jS.2.1.cell 22;go_simp <;> with_reducible rfl) | refine zz2 ?_ | refine zz9 ?_
  refine za 7 (fun K hK=>?_)
  (go_simp;first | (go_at_call 260;refine (HNM.out _).mono ?_;rintro e w8 ⟨rfl,he8⟩) | skip)
  refine hK.out _ _ (by first | exact ⟨jj.1.ext he8,jj.2.1.ext he8,jj.2.2.trans he8⟩ | exact jj) (fun jj=>?_)
  clear hK K
  try simp only [lays]
  refine za 10 (fun K hK=>?_)
  (go_simp;first | (go_at_call 145;refine (HVF.out _ jj.2.2).mono ?_;rintro e w8 ⟨rfl,he8⟩) | skip)
  refine hK.out _ _ (by first | exact ⟨jj.1.ext he8,jj.2.1.ext he8,jj.2.2.trans he8⟩ | exact jj) (fun jj=>?_)
  clear hK K
  try simp only [lays]
  refine zzr [11,12] ?_
  refine wpAnyH_done (by kernel_rfl) ?_ _
  have HX:=zh jj.2.2
  clear jj
  go_wp2_with fail
  go_ret
  exact ⟨by rw [HV.out];rfl,HX.out⟩
def vfK (PN:List UInt64) (v:VtR) (sig:List UInt8):Bool:=decide (0≤v.si∧v.si < PN.length) && vfV (nthG PN v.si.toNat) v sig
theorem verifies_any (B:Option Addr) (m d:Nat) (PN:List UInt64) (S:SgR) (w:World) (hp:SlG w B m d PN) (h:S.ok w):Calls Tryz.prog 211 #[.slice B m d,.agg (sgA S)] w fun e w'=>e=.returned (.bool (vfK PN S.v S.sig))∧Ext w w':=by
 obtain ⟨W,hW⟩:∃ W,w.alloc (.cells (sgA S) 136)=W:=⟨_,rfl⟩
 have HB:=zh (show Blk W w.heap.size 136 (sgA S) from by rw [← hW];exact Blk.new w 136 (sgA S))
 have HE:=zh (show Ext w W from by rw [← hW];exact (Ext.refl w).alloc' _)
 have HS:=zh h
 have HP:=zh hp
 have HLEN:=zh hp.len
 have hle:=hp.le
 have hcap:=hp.cap
 obtain ⟨vs,hvs⟩:∃ x,Value.agg (sgA S)=x:=⟨_,rfl⟩
 have HVS:=zh hvs
 have q4:W.cell? ⟨w.heap.size,4,none⟩=some (.int .i64 S.v.si):=HB.out.cell 4
 obtain ⟨si,hsi⟩:∃ z,S.v.si=z:=⟨_,rfl⟩
 rw [hsi] at q4
 by_cases hok:0≤si∧si < (m:Int)
 ·obtain ⟨i, rfl⟩ : ∃ i : Nat, si = (i : Int) := ⟨si.toNat, by omega⟩
  have hi:i < m:=by omega
  have j0:(0:Int)≤(i:Int):=by omega
  have j1:(i:Int) < (m:Int):=by omega
  obtain ⟨b,o,hab,-,-⟩:=hp.at (show 0 < m by omega)
  have HKR:=zh (fun (V:World) (e:Ext w V)=>show V.rangeAt b (o+i * 8) (RowT.enc (nthG PN i)) from by
   obtain ⟨b2,o2,e2,hr2,-⟩:=(HP.out.ext e).at (show 0 < m by omega)
   rw [hab] at e2
   injection e2 with e3
   injection e3 with e4 e5
   subst e4
   subst e5
   exact el_at (k:=i) hr2 (by rw [HLEN.out];exact hi))
  subst hab
  obtain ⟨z,hz⟩:∃ z,vfV (nthG PN i) S.v S.sig=z:=⟨_,rfl⟩
  have HVF:=zh (fun (V:World) (e:Ext w V)=>sgVerify_any (nthG PN i) S V (HS.out.ext e))
  rw [hz,hvs] at HVF
  have HV:=zh (show vfK PN S.v S.sig=z from by
   unfold vfK
   rw [hsi,HLEN.out,decide_eq_true hok,Int.toNat_natCast,hz];rfl)
  clear h hp hvs hz hsi hok
  go_enter Tryz.func211,Tryz.ntmps211
  go_upto_region 2 with fail
  clear q4
  refine wp_region_held_drew (S:=fun V=>Blk V w.heap.size 136 (sgA S)∧Ext w V) (by kernel_rfl) (⟨HB.out.drew,HE.out.trans ((Ext.refl _).drew')⟩) (fun jj=>?_)
  refine zzr [0,1,2,3,4,5,6,7,8,9,10,11] ?_
  first | refine zu 12 (v:=.agg (nmc (nthG PN i))) jj ?_ (hy:=by exact yL nmP (by rfl) (.tmp 20) (by rfl) b (o+i * 8) (by rfl) (nthG PN i) _ rfl (fun V h=>HKR.out V h.2)) | (refine zs 12 jj ?_)
  try simp only [lays]
  first | refine zu 13 (v:=vs) jj ?_ (hy:=by exact yL sgP (by rfl) (.tmp 3) (by rfl) w.heap.size 0 (by rfl) S vs HVS.out (fun V h=>rB h.1)) | (refine zs 13 jj ?_)
  try simp only [lays]
  refine za 14 (fun K hK=>?_)
  (go_simp;first | (go_at_call 246;refine (HVF.out _ jj.2).mono ?_;rintro e w8 ⟨rfl,he8⟩) | skip)
  refine hK.out _ _ (by first | exact ⟨jj.1.ext he8,jj.2.trans he8⟩ | exact jj) (fun jj=>?_)
  clear hK K
  try simp only [lays]
  refine zzr [15,16] ?_
  refine wpAnyH_done (by kernel_rfl) ?_ _
  have HX:=zh jj.2
  clear jj
  go_wp2_with fail
  go_ret
  exact ⟨by rw [HV.out];rfl,HX.out⟩
 have HV:=zh (show vfK PN S.v S.sig=false from by
  unfold vfK
  rw [hsi,HLEN.out,decide_eq_false hok];rfl)
 have hcs:(¬ si ≥ 0) ∨ (si ≥ 0∧¬ si < (m:Int)):=by omega
 clear h hp hvs hsi hok
 rcases hcs with j0 | ⟨j0,j1⟩
 all_goals
  go_enter Tryz.func211,Tryz.ntmps211
  go_upto_region 2 with fail
  clear q4
  refine wp_region_held_drew (S:=fun V=>Blk V w.heap.size 136 (sgA S)∧Ext w V) (by kernel_rfl) (⟨HB.out.drew,HE.out.trans ((Ext.refl _).drew')⟩) (fun jj=>?_)
  refine zzr [0,1,2,3,4,5,6,7,8] ?_
  (refine zs 9 jj ?_)
  (refine zs 10 jj ?_)
  (refine zs 11 jj ?_)
  (refine zs 12 jj ?_)
  (refine zs 13 jj ?_)
  (refine zs 14 jj ?_)
  refine zzr [15,16] ?_
  refine wpAnyH_done (by kernel_rfl) ?_ _
  have HX:=zh jj.2
  clear jj
  go_wp2_with fail
  go_ret
  exact ⟨by rw [HV.out];rfl,HX.out⟩
def evV (PN:List UInt64) (v:VtR) (s:List UInt8) (u:VtR) (t:List UInt8):Bool:=cfV v u && (ltVt v u && (vfK PN v s && vfK PN u t))
theorem evValid_any (B:Option Addr) (m d:Nat) (PN:List UInt64) (E:EvR) (w:World) (hp:SlG w B m d PN) (h:RowT.ok E w):Calls Tryz.prog 151 #[.slice B m d,.agg (evA E)] w fun e w'=>e=.returned (.bool (evV PN E.a.v E.a.sig E.b.v E.b.sig))∧Ext w w':=by
 obtain ⟨W,hW⟩:∃ W,w.alloc (.cells (evA E) 138)=W:=⟨_,rfl⟩
 have HB:=zh (show Blk W w.heap.size 138 (evA E) from by rw [← hW];exact Blk.new w 138 (evA E))
 have HE:=zh (show Ext w W from by rw [← hW];exact (Ext.refl w).alloc' _)
 have HS:=zh (show E.a.ok w∧E.b.ok w from h)
 have HP:=zh hp
 obtain ⟨va,hva⟩:∃ v,Value.agg (vtA E.a.v)=v:=⟨_,rfl⟩
 obtain ⟨vb,hvb⟩:∃ v,Value.agg (vtA E.b.v)=v:=⟨_,rfl⟩
 obtain ⟨sa,hsa⟩:∃ v,Value.agg (sgA E.a)=v:=⟨_,rfl⟩
 obtain ⟨sb,hsb⟩:∃ v,Value.agg (sgA E.b)=v:=⟨_,rfl⟩
 have HVA:=zh hva
 have HVB:=zh hvb
 have HSA:=zh hsa
 have HSB:=zh hsb
 obtain ⟨x1,h1⟩:∃ x,cfV E.a.v E.b.v=x:=⟨_,rfl⟩
 obtain ⟨x2,h2⟩:∃ x,ltVt E.a.v E.b.v=x:=⟨_,rfl⟩
 obtain ⟨x3,h3⟩:∃ x,vfK PN E.a.v E.a.sig=x:=⟨_,rfl⟩
 obtain ⟨x4,h4⟩:∃ x,vfK PN E.b.v E.b.sig=x:=⟨_,rfl⟩
 have HV:=zh (show evV PN E.a.v E.a.sig E.b.v E.b.sig=(x1 && (x2 && (x3 && x4))) from by unfold evV;rw [h1,h2,h3,h4])
 have HC1:=zh (fun W=>conflict_any E.a.v E.b.v W HS.out.1.v HS.out.2.v)
 have HC2:=zh (fun W=>vtLess_any E.a.v E.b.v W)
 have HC3:=zh (fun (V:World) (e:Ext w V)=>verifies_any B m d PN E.a V (HP.out.ext e) (HS.out.1.ext e))
 have HC4:=zh (fun (V:World) (e:Ext w V)=>verifies_any B m d PN E.b V (HP.out.ext e) (HS.out.2.ext e))
 rw [h1,hva,hvb] at HC1
 rw [h2,hva,hvb] at HC2
 rw [h3,hsa] at HC3
 rw [h4,hsb] at HC4
 have HRE:=zh (fun (V:World) (e:Ext W V)=>show V.rangeAt w.heap.size 0 (RowT.enc E) from rB (HB.out.ext e))
 have HX0:=zh (Ext.refl W)
 clear h1 h2 h3 h4 h hp hva hvb hsa hsb
 have hcs:(x1=false) ∨ (x1=true∧x2=false) ∨ (x1=true∧x2=true∧x3=false) ∨ (x1=true∧x2=true∧x3=true∧x4=false) ∨ (x1=true∧x2=true∧x3=true∧x4=true):=by
  cases x1 <;> cases x2 <;> cases x3 <;> cases x4 <;> simp
 rcases hcs with rfl | ⟨rfl,rfl⟩ | ⟨rfl,rfl,rfl⟩ | ⟨rfl,rfl,rfl,rfl⟩ | ⟨rfl,rfl,rfl,rfl⟩
 all_goals
  go_enter Tryz.func151,Tryz.ntmps151
  go_wp2_with (first | (with_reducible refine wL vtP rfl (.tmp 6) rfl w.heap.size 0 rfl E.a.v va HVA.out (sg_v (ev_a (HRE.out _ HX0.out))) ?_) | (with_reducible refine wL vtP rfl (.tmp 9) rfl w.heap.size 23 rfl E.b.v vb HVB.out (sg_v (ev_b (HRE.out _ HX0.out))) ?_)  | (with_reducible refine wpList_loadGg vtP (by with_unfolding_all rfl) (.tmp 14) rfl w.heap.size 0 rfl E.a.v va HVA.out (sg_v (ev_a (HRE.out _ HX0.out))) ?_) | (with_reducible refine wpList_loadGg vtP (by with_unfolding_all rfl) (.tmp 17) rfl w.heap.size 23 rfl E.b.v vb HVB.out (sg_v (ev_b (HRE.out _ HX0.out))) ?_)  | (with_reducible refine wpList_loadGg sgP (by with_unfolding_all rfl) (.tmp 23) rfl w.heap.size 0 rfl E.a sa HSA.out (ev_a (HRE.out _ HX0.out)) ?_) | (with_reducible refine wpList_loadGg sgP (by with_unfolding_all rfl) (.tmp 29) rfl w.heap.size 23 rfl E.b sb HSB.out (ev_b (HRE.out _ HX0.out)) ?_) | (go_at_call 209;(with_reducible refine (HC1.out _).mono ?_);rintro e w5 ⟨rfl,he5⟩;have HX0:=zh (HX0.out.trans he5);clear he5) | (go_at_call 210;(with_reducible refine (HC2.out _).mono ?_);rintro e w5 ⟨rfl,he5⟩;have HX0:=zh (HX0.out.trans he5);clear he5) | (go_at_call 211;(first | (with_reducible refine (HC3.out _ (HE.out.trans HX0.out)).mono ?_) | (with_reducible refine (HC4.out _ (HE.out.trans HX0.out)).mono ?_));rintro e w5 ⟨rfl,he5⟩;have HX0:=zh (HX0.out.trans he5);clear he5))
  go_ret
  exact ⟨by rw [HV.out];simp,HE.out.trans HX0.out⟩
end
end Go.Proofs.YtohmmcahpakokaaGreat
