/- The signed vote that bytes tell (the program's Decode). -/
import Derived.Test.YtohmmcahpakokaaGreatD26
import Derived.Test.YtohmmcahpakokaaGreatD27
set_option maxRecDepth 100000
set_option maxHeartbeats 8000000
set_option linter.unusedVariables false
set_option linter.unusedSimpArgs false
namespace Go.Proofs.YtohmmcahpakokaaGreat
section
open Go.RowKit
attribute [local go_sem ↓] Go.wp_at_zero Go.wp_at_succ
def zeroS:SgR:=⟨zeroV,none,0,0,[]⟩
abbrev sg0:Array Value:=#[.int .i64 0,.int .i64 0,.int .i64 0,.int .i64 0,.int .i64 0,.int .i64 0,.int .u8 0,.int .u8 0,.int .u8 0,.int .u8 0,.int .u8 0,.int .u8 0,.int .u8 0,.int .u8 0,.int .u8 0,.int .u8 0,.int .u8 0,.int .u8 0,.int .u8 0,.int .u8 0,.int .u8 0,.int .u8 0,.slice none 0 0]
theorem sg0_eq:sg0=sgA zeroS:=by
 unfold sgA zeroS zeroV;simp only [nb8_nil 0 (by omega),nb8_nil 1 (by omega),nb8_nil 2 (by omega),nb8_nil 3 (by omega),nb8_nil 4 (by omega),nb8_nil 5 (by omega),nb8_nil 6 (by omega),nb8_nil 7 (by omega)]
section
variable {o:Oper} {a:Act} {w:World} {ops:Array Oper} {rest:List Oper} {Q:Exit→Act→World→Prop}
theorem wpList_storeSg (hgd:o.guard=none) (x y:Operand) (ho:o.op=.store 136 x y) (g:Nat) (S:SgR) (hx:a.eval x=.pointer (some ⟨g,0,none⟩)) (hy:a.eval y=.agg (sgA S)) (ht:w.there g 0 23)
  (h:wpList Tryz.prog ops Q rest (a.put o.dst undef) (w.setCells g 0 (sgA S).toList)):wpList Tryz.prog ops Q (o :: rest) a w :=
 wpList_store_mid hgd 136 x y ho g 0 (sgA S) hx hy ht (by kernel_rfl) (sgA_all S) h
theorem wpList_storeS0 (hgd:o.guard=none) (x y:Operand) (ho:o.op=.store 136 x y) (g:Nat) (hx:a.eval x=.pointer (some ⟨g,0,none⟩)) (hy:a.eval y=.agg sg0) (ht:w.there g 0 23)
  (h:wpList Tryz.prog ops Q rest (a.put o.dst undef) (w.setCells g 0 (sgA zeroS).toList)):wpList Tryz.prog ops Q (o :: rest) a w:=by
 refine wpList_storeSg hgd x y ho g zeroS hx (by rw [hy,sg0_eq]) ht h
end
theorem yields_loadVtA {o:Oper} {a:Act} {ops:Array Oper} {S:World→Prop} (hw:Region.wanted o (yielded ops a.tmps)=true) (x:Operand) (ho:o.op=.load 134 x) (b of:Nat) (hx:a.eval x=.pointer (some ⟨b,of,none⟩)) (R:VtR) (hS:∀ w,S w→w.rangeAt b of (vtL R)):YieldsIf Tryz.prog ops S o (.agg (vtA R)) a:=by
 have:=yieldsIf_load_mid (P:=Tryz.prog) (S:=S) hw 134 x ho b of hx (vtL R) _ hS Tryz.underlying134 rfl (by rw [vtL_length];kernel_rfl)
 rw [vtL_arr] at this
 exact this
theorem appV0 (A:Option Addr) (n c:Nat) (l:List UInt8) (w:World) (h:SlB w A n c l) (hn:n≤140737488351232):Calls Tryz.prog 220 #[.slice A n c,.int .u64 0,.int .i64 0] w fun e w'=>∃ A' c',e=.returned (.slice A' n c')∧OwnB w' w.heap.size 5 A' n c' l∧Ext w w':=by
 have:=appendUint_any A n c l 0 0 (by omega) w h hn
 refine this.mono ?_
 rintro e w' ⟨A',c',he,ho,hx⟩
 exact ⟨A',c',he,by simpa [beBytes] using ho,hx⟩
def sdC (l:List UInt8):Int:=if l.length < 393 then 2 else if 393 < l.length then 3 else vdC (l.take 23)
def SdOut (w:World) (l:List UInt8) (e:Ending) (w':World):Prop:=∃ S:SgR,e=.returned (.tuple #[.agg (sgA S),.int .i64 (sdC l)])∧S.ok w'∧Ext w w'∧(sdC l=0→S.v=decVt (l.take 23)∧vldVt S.v=true∧S.n=370∧S.sig=l.drop 23)∧(sdC l ≠ 0→S=zeroS)∧OwnB w' w.heap.size 5 S.A S.n S.c S.sig
theorem zeroV_wf:zeroV.wf:=⟨wfI_of (by decide) (by decide),wfI_of (by decide) (by decide),wfI_of (by decide) (by decide),wfI_of (by decide) (by decide),wfI_of (by decide) (by decide),wfI_of (by decide) (by decide)⟩
theorem zeroS_ok (w:World):zeroS.ok w:=⟨zeroV_wf,SlB.nil w⟩
theorem sgDec_short (A:Option Addr) (n c:Nat) (l:List UInt8) (w:World) (hS:SlB w A n c l) (hn:n < 393):Calls Tryz.prog 208 #[.slice A n c] w (SdOut w l):=by
 have hcap:=hS.cap
 have hle:=hS.le
 have HC:=zh (show sdC l=2 from by unfold sdC;rw [hS.len];rw [if_pos hn])
 have HE:=zh ((Ext.refl w).alloc' (.cells sg0 136))
 have HB:=zh (Blk.new w 136 sg0)
 have ht:(w.alloc (.cells sg0 136)).there w.heap.size 0 23:=tB HB.out
 have hst:=bW (ds:=sgA zeroS) HB.out rfl
 have i1:((n:Int) < 393):=by omega
 clear hS
 go_enter Tryz.func208,Tryz.ntmps208
 go_wp2_with (first | (with_reducible refine wpList_storeS0 rfl (.tmp 2) (.tmp 10) rfl w.heap.size rfl rfl ht ?_))
 exact bodyPost_ret (v:=.tuple #[.agg (sgA zeroS),.int .i64 2]) (retCV rfl _ _ w.heap.size _ _ rfl rfl (run_loadVar_row _ _ _ _ _ (0,0) _ hst Tryz.underlying136 rfl (by kernel_rfl))) rfl ⟨zeroS,by rw [HC.out],zeroS_ok _,Below.setCells' HE.out (Nat.le_refl _) _ _,fun h=>by rw [HC.out] at h;exact absurd h (by decide),fun _=>rfl,OwnB.nil _ _ _⟩
theorem sgDec_long (A:Option Addr) (n c:Nat) (l:List UInt8) (w:World) (hS:SlB w A n c l) (hn:393 < n):Calls Tryz.prog 208 #[.slice A n c] w (SdOut w l):=by
 have hcap:=hS.cap
 have hle:=hS.le
 have HC:=zh (show sdC l=3 from by unfold sdC;rw [hS.len];rw [if_neg (by omega),if_pos hn])
 have HE:=zh ((Ext.refl w).alloc' (.cells sg0 136))
 have HB:=zh (Blk.new w 136 sg0)
 have ht:(w.alloc (.cells sg0 136)).there w.heap.size 0 23:=tB HB.out
 have hst:=bW (ds:=sgA zeroS) HB.out rfl
 have i1:(¬ (n:Int) < 393):=by omega
 have i2:(393:Int) < (n:Int):=by omega
 clear hS
 go_enter Tryz.func208,Tryz.ntmps208
 go_wp2_with (first | (with_reducible refine wpList_storeS0 rfl (.tmp 2) (.tmp 15) rfl w.heap.size rfl rfl ht ?_))
 exact bodyPost_ret (v:=.tuple #[.agg (sgA zeroS),.int .i64 3]) (retCV rfl _ _ w.heap.size _ _ rfl rfl (run_loadVar_row _ _ _ _ _ (0,0) _ hst Tryz.underlying136 rfl (by kernel_rfl))) rfl ⟨zeroS,by rw [HC.out],zeroS_ok _,Below.setCells' HE.out (Nat.le_refl _) _ _,fun h=>by rw [HC.out] at h;exact absurd h (by decide),fun _=>rfl,OwnB.nil _ _ _⟩
theorem sgDec_yes (A:Option Addr) (c:Nat) (l:List UInt8) (w:World) (hS:SlB w A 393 c l):Calls Tryz.prog 208 #[.slice A 393 c] w (SdOut w l):=by
 have hl:=hS.len
 have hcap:=hS.cap
 have hle:=hS.le
 obtain ⟨b,o,rfl,hr,hb⟩:=hS.at (by omega)
 have HC:=zh (show sdC l=vdC (l.take 23) from by unfold sdC;rw [hl,if_neg (by omega),if_neg (by omega)])
 have HE:=zh ((Ext.refl w).alloc' (.cells sg0 136))
 have HB:=zh (Blk.new w 136 sg0)
 have HS:=zh hS
 have HL:=zh hl
 have e1:(bcs l).take 23=bcs (l.take 23):=by simp [bcs]
 have e2:(bcs l).drop 23=bcs (l.drop 23):=by simp [bcs]
 have HA:=zh (fun (W:World) (h:Ext w W)=>show SlB W (some ⟨b,o,none⟩) 23 c (l.take 23) from slB_at (by have:=rT (k:=23) (rangeAt_keep hr (h.block b hb));rwa [e1] at this) (by rw [List.length_take];omega) (by omega) (by omega))
 have HD:=zh (fun (W:World) (h:Ext w W)=>show SlB W (some ⟨b,o+23,none⟩) 370 (c - 23) (l.drop 23) from slB_at (by have:=rangeAt_drop (k:=23) (rangeAt_keep hr (h.block b hb));rwa [e2] at this) (by rw [List.length_drop];omega) (by omega) (by omega))
 have hck:¬ c=23:=by omega
 clear hS hr hl e1 e2
 go_enter Tryz.func208,Tryz.ntmps208
 go_wp2_with fail
 refine (voteDec_yes _ c (l.take 23) _ (HA.out _ HE.out)).mono ?_
 rintro e w1 ⟨rfl,he1⟩
 have HX1:=zh (HE.out.trans he1)
 have HB1:=zh (HB.out.ext he1)
 have HWF:=zh (show (vdV (l.take 23)).wf from by unfold vdV;split;exact decVt_wf _;exact zeroV_wf)
 have HV:=zh (show (vdC (l.take 23)=0∧vdV (l.take 23)=decVt (l.take 23)∧vldVt (vdV (l.take 23))=true) ∨ vdC (l.take 23)=11 from by
  unfold vdC vdV
  cases hv:vldVt (decVt (l.take 23)) with
  | true=>exact .inl ⟨rfl,rfl,hv⟩
  | false=>exact .inr rfl)
 obtain ⟨v,hv⟩:∃ v,vdV (l.take 23)=v:=⟨_,rfl⟩
 obtain ⟨z,hz⟩:∃ z,vdC (l.take 23)=z:=⟨_,rfl⟩
 rw [hv,hz] at HV
 rw [hv] at HWF
 rw [hz] at HC
 rw [hv,hz]
 clear hv hz he1
 have HX2:=zh (HX1.out.alloc' (.cells (vtA v) 134))
 have HB2:=zh (HB1.out.alloc (.cells (vtA v) 134))
 have HV2:=zh (Blk.new w1 134 (vtA v))
 have HG:=zh HB1.out.lt
 have hth:(w1.alloc (.cells (vtA v) 134)).there w.heap.size 0 23:=tB HB2.out
 rcases HV.out with ⟨rfl,hd,hvd⟩ | rfl
 ·have HF := zh (And.intro hd hvd)
  clear hd hvd
  go_wp2_with (first | (with_reducible refine wpList_newVt rfl (.tmp 4) (.tmp 20) rfl _ rfl v rfl rfl ?_))
  generalize w1.alloc (.cells (vtA v) 134)=W2 at HX2 HB2 HV2 hth ⊢
  have HN:=zh (show w1.heap.size ≠ w.heap.size from by have:=HG.out;omega)
  refine wp_region_held_drew (S:=fun W=>W.rangeAt w1.heap.size 0 (vtL v)) (by kernel_rfl) (rB HV2.out.drew) (fun jj=>?_)
  refine zu 0 (v:=.agg (vtA v)) jj ?_ (hy:=by refine yields_loadVtA ?hw (.tmp 4) rfl w1.heap.size 0 ?hx v (fun W h=>h);(case hw=>rfl);(case hx=>rfl))
  refine zzr [1,2] ?_
  refine wpAnyH_ready (rs:=[3]) (by kernel_rfl) (by simp) ?_
  refine AllReadyH.cons (o:=⟨some 29,.call { callee:=.value (.func 220),args:=#[.tmp 28,.const (.int .u64 0),.const (.int .i64 0)],argTypes:=#[45,148,3] },45,"signed.go:62",#[⟨2,.data⟩],none⟩) rfl (fun K hK=>?_) AllReadyH.nil
  refine Eq.mpr (if_pos (by rfl)) ?_
  go_simp
  go_at_call 220
  refine (appV0 _ 370 (c - 23) (l.drop 23) _ (HD.out _ HX2.out.drew') (by omega)).mono ?_
  rintro e w3 ⟨A3,c3,rfl,hO3,he3⟩
  refine hK.out _ _ (rB (HV2.out.drew.ext he3)) (fun jj=>?_)
  clear hK K
  try simp only [lays]
  refine zt 4 jj ?_
  refine wpAnyH_ready (rs:=[5]) (by kernel_rfl) (by simp) ?_
  refine AllReadyH.cons (o:=⟨none,.store 136 (.tmp 2) (.tmp 30),0,"signed.go:62",#[⟨4,.data⟩,⟨3,.chain⟩,⟨0,.phase⟩,⟨1,.phase⟩,⟨2,.phase⟩,⟨3,.phase⟩,⟨4,.phase⟩],none⟩) rfl (fun K hK=>?_) AllReadyH.nil
  refine Eq.mpr (if_pos (by rfl)) ?_
  refine wp_store_mid 136 (.tmp 2) (.tmp 30) rfl w.heap.size 0 (sgA ⟨v,A3,370,c3,l.drop 23⟩) rfl ?hy (show w3.there w.heap.size 0 23 from tB (HB2.out.drew.ext he3)) (by kernel_rfl) (sgA_all _) ?_
  case hy=>rfl
  refine hK.out _ _ (World.rangeAt_setCells_apart (rB (HV2.out.drew.ext he3)) _ _ _ (.inl HN.out)) (fun jj=>?_)
  clear hK K
  try simp only [lays]
  refine zt 6 jj ?_
  refine wpAnyH_done (by kernel_rfl) ?_ _
  have hst:=bW (ds:=sgA ⟨v,A3,370,c3,l.drop 23⟩) (HB2.out.drew.ext he3) rfl
  have hx3:Ext w w3:=Ext.trans HX2.out.drew' he3
  have hown:OwnB (w3.setCells w.heap.size 0 (sgA ⟨v,A3,370,c3,l.drop 23⟩).toList) w.heap.size 5 A3 370 c3 (l.drop 23) :=
   World.ownsRow.kept (own_mono hO3 (Nat.le_of_lt (show w.heap.size < W2.heap.size from HB2.out.lt))) (gS w3 w.heap.size _ 0) (.inr (Ne.symm (oO hO3 (HB2.out.drew.ext he3) (by decide))))
  have hok:(SgR.mk v A3 370 c3 (l.drop 23)).ok (w3.setCells w.heap.size 0 (sgA ⟨v,A3,370,c3,l.drop 23⟩).toList):=⟨HWF.out,hown.sl⟩
  go_wp2_with fail
  exact bodyPost_ret (v:=.tuple #[.agg (sgA ⟨v,A3,370,c3,l.drop 23⟩),.int .i64 0]) (retCV rfl _ _ w.heap.size _ _ rfl rfl (run_loadVar_row _ _ _ _ _ (0,0) _ hst Tryz.underlying136 rfl (by kernel_rfl))) rfl ⟨⟨v,A3,370,c3,l.drop 23⟩,by rw [HC.out],hok,Below.setCells' hx3 (Nat.le_refl _) _ _,fun _=>⟨HF.out.1,HF.out.2,rfl,rfl⟩,fun h=>absurd HC.out h,hown⟩
 have ht:=hth
 have hst:=bW (ds:=sgA zeroS) HB2.out rfl
 go_wp2_with (first | (with_reducible refine wpList_newVt rfl (.tmp 4) (.tmp 20) rfl _ rfl v rfl rfl ?_) | (with_reducible refine wpList_storeS0 rfl (.tmp 2) (.tmp 24) rfl w.heap.size rfl rfl ht ?_))
 exact bodyPost_ret (v:=.tuple #[.agg (sgA zeroS),.int .i64 11]) (retCV rfl _ _ w.heap.size _ _ rfl rfl (run_loadVar_row _ _ _ _ _ (0,0) _ hst Tryz.underlying136 rfl (by kernel_rfl))) rfl ⟨zeroS,by rw [HC.out],zeroS_ok _,Below.setCells' HX2.out (Nat.le_refl _) _ _,fun h=>by rw [HC.out] at h;exact absurd h (by decide),fun _=>rfl,OwnB.nil _ _ _⟩
theorem sgDec_any (A:Option Addr) (n c:Nat) (l:List UInt8) (w:World) (hS:SlB w A n c l):Calls Tryz.prog 208 #[.slice A n c] w (SdOut w l):=by
 rcases Nat.lt_trichotomy n 393 with h | h | h
 ·exact sgDec_short A n c l w hS h
 ·subst h;exact sgDec_yes A c l w hS
 exact sgDec_long A n c l w hS h
theorem step_apprun {P:Program} {t:TypeId} {ops:Array Oper} {o:Oper} {a:Act} {w:World} {K:Act→World→Prop} {Q:Exit→Act→World→Prop} {X:Prop} (hgd:o.guard=none) (s x:Operand) (ho:o.op=.call { callee:=.builtin .append,args:=#[s,x],argTypes:=#[t,t] })
  (vs vx:Value) (hs:a.eval s=vs) (hx:a.eval x=vx) (v':Value) (w':World) (hr:(Builtin.append_ #[t,t] o.type #[vs,vx]).run P w=.ok v' w') (h:K (a.put o.dst v') w'):if Region.wanted o (yielded ops a.tmps)=true then Oper.wp P o a w K Q else X:=by
 have hw:Region.wanted o (yielded ops a.tmps)=true:=by simp [Region.wanted,hgd]
 rw [if_pos hw]
 unfold Oper.wp execOp
 simp only [ho,resolve,invoke,builtin,Sem.run_bind,Sem.run_pure,Result.andThen_ok,List.map_toArray,List.map_cons,List.map_nil,hs,hx,hr]
 exact h
theorem delDe_any (base g n c:Nat) (L:List DeR) (i:Nat) (w:World) (h:w.ownsRow base 34 11 (.slice (some ⟨g,0,none⟩) n c) n (gcs L)) (hn:n≤1000000000) (hi:i < n) :
  Calls Tryz.prog 102 #[.slice (some ⟨g,0,none⟩) n c,.int .i64 (i:Int),.int .i64 ((i+1:Nat):Int)] w (RowOut w base 34 11 (some ⟨g,0,none⟩) n c (n - 1) (gcs (L.take i ++ L.drop (i+1)))):=by
 obtain ⟨hle,hcap⟩:=own_cap h
 have HLEN:=zh (show L.length=n from OwnG.len (e:=34) h)
 have HO:=zh h.drew
 obtain ⟨ti,hti,htz,htsz,htby⟩:=Elem.get deE
 have hsrc0:∀ k v,(gcs L)[k]?=some v→w.cell? ⟨g,k,none⟩=some v:=fun k v hv=>by
  obtain ⟨g',hgg,_,hra⟩:=own_at h (by omega)
  obtain rfl:g=g':=by injection hgg with h1;injection h1
  have:=hra k v hv;rwa [Nat.zero_add] at this
 have hdl:(gcs (L.drop (i+1))).length=(n - (i+1)) * 11:=by rw [gL,List.length_drop,HLEN.out];rfl
 have hfit:i * 11+(n - (i+1)) * 11≤n * 11:=by rw [← Nat.add_mul];exact Nat.mul_le_mul_right _ (by omega)
 have hxl:(gcs L).length=n * 11:=by rw [gL,HLEN.out];rfl
 obtain ⟨ad,had⟩:∃ ad:Addr,(if c=i+1 then ⟨g,0,none⟩ else (⟨g,(i+1) * 11,none⟩:Addr))=ad:=⟨_,rfl⟩
 have hnews:∀ j u,(gcs (L.drop (i+1)))[j]?=some u→w.drew.cell? (ad.add j)=some u:=fun j u hu=>by
  have hj:=(List.getElem?_eq_some_iff.1 hu).1
  rw [hdl] at hj
  by_cases hc:c=i+1
  ·have : n - (i + 1) = 0 := by omega
   rw [this] at hj;omega
  rw [← had,if_neg hc,Addr.add_mid]
  show w.cell? _=_
  refine hsrc0 _ u ?_
  rw [← gcs_drop,List.getElem?_drop] at hu
  exact hu
 have hrun:=fun ty=>run_append_room_cells (P:=Tryz.prog) (w:=w.drew) 27 ty 34 ti (Elem.ut deE) hti g 0 i c ad (n - (i+1)) (c - (i+1)) (gcs (L.drop (i+1))) (by rw [htsz];exact hdl) hnews (gcs_cell _) (by omega)
  (fun j hj=>by rw [htsz,Nat.zero_add,h.drew.cellAt (i * 11+j) (by omega),List.getElem?_eq_getElem (by omega)];rfl) (fun j hj=>by rw [htsz,Nat.zero_add];exact h.drew.frozenAt _)
 rw [htsz,Nat.zero_add,show i+(n - (i+1))=n - 1 by omega] at hrun
 have hsp:=own_splice (gcs (L.drop (i+1))) (i * 11) w.drew (gcs L) (by omega) h.drew
 obtain ⟨W1,hW1⟩:∃ W1,w.drew.setCells g (i * 11) (gcs (L.drop (i+1)))=W1:=⟨_,rfl⟩
 rw [hW1] at hrun hsp
 have HRUN:=zh hrun
 have HG1:=zh (show w.grownBy W1 (some g) from Grown.trans (Ext.grown ((Ext.refl w).drew') _) hsp.2)
 have HO1:=zh hsp.1
 have HDC:=zh (show (splice (gcs L) (i * 11) (gcs (L.drop (i+1)))).take ((n - 1) * 11)=gcs (L.take i ++ L.drop (i+1)) from by
  have:=del_cells L (i:=i) (by rw [HLEN.out];exact hi);rw [HLEN.out] at this;exact this)
 have hcl:=fun ty=>run_clr deE (by decide) W1 ty g ((n - 1) * 11) 1 (c - (n - 1)) (by omega) (fun j hj=>by
  have hh:=Nat.mul_le_mul_right 11 (show (n - 1)+1≤n by omega)
  rw [Nat.add_mul] at hh
  rw [HO1.out.cellAt ((n - 1) * 11+j) (by omega),List.getElem?_eq_getElem (by rw [HO1.out.1];omega)];rfl) (fun j hj=>HO1.out.frozenAt _)
 obtain ⟨xs',o1,o2,o3⟩:=own_over (Builtin.zeroCells (Value.agg de0).cells 1).toList ((n - 1) * 11) W1 _ HO1.out
 have HEND:=zh (show (W1.setCells g ((n - 1) * 11) (Builtin.zeroCells (Value.agg de0).cells 1).toList).ownsRow base 34 11 (.slice (some ⟨g,0,none⟩) (n - 1) c) (n - 1) (gcs (L.take i ++ L.drop (i+1))) from by
  have:=own_cut o1 (i:=n - 1) (by omega) (by simp)
  rw [o2,HDC.out] at this;exact this)
 have HG2:=zh (Grown.trans HG1.out o3)
 obtain ⟨W2,hW2⟩:∃ W2,W1.setCells g ((n - 1) * 11) (Builtin.zeroCells (Value.agg de0).cells 1).toList=W2:=⟨_,rfl⟩
 rw [hW2] at hcl HEND HG2
 have HAD:=zh had
 have i0:(0:Int)≤(i:Int):=by omega
 have i1:(i:Int)+1≤(n:Int):=by omega
 have i2:(n:Int)≤(c:Int):=by omega
 have i3:(i:Int)≤(n:Int):=by omega
 have i4:¬ c=i:=by omega
 have i6:(i:Int)≤(c:Int):=by omega
 have i7:¬ n=i:=by omega
 have i8:¬ c=n - 1:=by omega
 have i9:((n - 1:Nat):Int)≤(n:Int):=by omega
 have i10:(0:Int)≤(i:Int)+1:=by omega
 have i11:((i:Int)+1).toNat=i+1:=by omega
 have i12:¬ (i:Int)+1 < 0:=by omega
 have i13:n - (n - 1)=1:=by omega
 have HI:=zh hi
 clear h hsrc0 hnews hrun hsp hW1 hW2 o1 o2 o3 hti htz htsz htby hdl hfit hxl had
 go_enter Tryz.func102,Tryz.ntmps102
 go_wp2_with fail
 refine wp_region_held_drew (S:=fun W=>True) (by kernel_rfl) (trivial) (fun jj=>?_)
 refine zzr [0,1,2,3,4] ?_
 refine zu 5 (v:=.slice (some ad) (n - (i+1)) (c - (i+1))) jj ?_ (hy:=by (rcases Classical.em (c=i+1) with hc | hc <;> (refine Or.inl ⟨by rfl,fun W _=>?_⟩;rw [← HAD.out];(first | rw [if_pos hc] | rw [if_neg hc]);go_simp <;> with_reducible rfl)))
 refine za 6 (fun K hK=>?_)
 (refine step_apprun rfl (.tmp 22) (.tmp 25) rfl (.slice (some ⟨g,0,none⟩) i c) (.slice (some ad) (n - (i+1)) (c - (i+1))) (by rfl) (by rfl) _ _ (HRUN.out _) ?_)
 refine hK.out _ _ (trivial) (fun jj=>?_)
 clear hK K
 try simp only [lays]
 refine zt 7 jj ?_
 refine wpAnyH_done (by kernel_rfl) ?_ _
 clear HRUN
 go_wp2_with fail
 go_ret
 exact ⟨some ⟨g,0,none⟩,c,rfl,HEND.out,HG2.out⟩
theorem delLk_any (base g n c:Nat) (L:List LkR) (i:Nat) (w:World) (h:w.ownsRow base 94 19 (.slice (some ⟨g,0,none⟩) n c) n (gcs L)) (hn:n≤1000000000) (hi:i < n) :
  Calls Tryz.prog 156 #[.slice (some ⟨g,0,none⟩) n c,.int .i64 (i:Int),.int .i64 ((i+1:Nat):Int)] w (RowOut w base 94 19 (some ⟨g,0,none⟩) n c (n - 1) (gcs (L.take i ++ L.drop (i+1)))):=by
 obtain ⟨hle,hcap⟩:=own_cap h
 have HLEN:=zh (show L.length=n from OwnG.len (e:=94) h)
 have HO:=zh h.drew
 obtain ⟨ti,hti,htz,htsz,htby⟩:=Elem.get lkE
 have hsrc0:∀ k v,(gcs L)[k]?=some v→w.cell? ⟨g,k,none⟩=some v:=fun k v hv=>by
  obtain ⟨g',hgg,_,hra⟩:=own_at h (by omega)
  obtain rfl:g=g':=by injection hgg with h1;injection h1
  have:=hra k v hv;rwa [Nat.zero_add] at this
 have hdl:(gcs (L.drop (i+1))).length=(n - (i+1)) * 19:=by rw [gL,List.length_drop,HLEN.out];rfl
 have hfit:i * 19+(n - (i+1)) * 19≤n * 19:=by rw [← Nat.add_mul];exact Nat.mul_le_mul_right _ (by omega)
 have hxl:(gcs L).length=n * 19:=by rw [gL,HLEN.out];rfl
 obtain ⟨ad,had⟩:∃ ad:Addr,(if c=i+1 then ⟨g,0,none⟩ else (⟨g,(i+1) * 19,none⟩:Addr))=ad:=⟨_,rfl⟩
 have hnews:∀ j u,(gcs (L.drop (i+1)))[j]?=some u→w.drew.cell? (ad.add j)=some u:=fun j u hu=>by
  have hj:=(List.getElem?_eq_some_iff.1 hu).1
  rw [hdl] at hj
  by_cases hc:c=i+1
  ·have : n - (i + 1) = 0 := by omega
   rw [this] at hj;omega
  rw [← had,if_neg hc,Addr.add_mid]
  show w.cell? _=_
  refine hsrc0 _ u ?_
  rw [← gcs_drop,List.getElem?_drop] at hu
  exact hu
 have hrun:=fun ty=>run_append_room_cells (P:=Tryz.prog) (w:=w.drew) 41 ty 94 ti (Elem.ut lkE) hti g 0 i c ad (n - (i+1)) (c - (i+1)) (gcs (L.drop (i+1))) (by rw [htsz];exact hdl) hnews (gcs_cell _) (by omega)
  (fun j hj=>by rw [htsz,Nat.zero_add,h.drew.cellAt (i * 19+j) (by omega),List.getElem?_eq_getElem (by omega)];rfl) (fun j hj=>by rw [htsz,Nat.zero_add];exact h.drew.frozenAt _)
 rw [htsz,Nat.zero_add,show i+(n - (i+1))=n - 1 by omega] at hrun
 have hsp:=own_splice (gcs (L.drop (i+1))) (i * 19) w.drew (gcs L) (by omega) h.drew
 obtain ⟨W1,hW1⟩:∃ W1,w.drew.setCells g (i * 19) (gcs (L.drop (i+1)))=W1:=⟨_,rfl⟩
 rw [hW1] at hrun hsp
 have HRUN:=zh hrun
 have HG1:=zh (show w.grownBy W1 (some g) from Grown.trans (Ext.grown ((Ext.refl w).drew') _) hsp.2)
 have HO1:=zh hsp.1
 have HDC:=zh (show (splice (gcs L) (i * 19) (gcs (L.drop (i+1)))).take ((n - 1) * 19)=gcs (L.take i ++ L.drop (i+1)) from by
  have:=del_cells L (i:=i) (by rw [HLEN.out];exact hi);rw [HLEN.out] at this;exact this)
 have hcl:=fun ty=>run_clr lkE (by decide) W1 ty g ((n - 1) * 19) 1 (c - (n - 1)) (by omega) (fun j hj=>by
  have hh:=Nat.mul_le_mul_right 19 (show (n - 1)+1≤n by omega)
  rw [Nat.add_mul] at hh
  rw [HO1.out.cellAt ((n - 1) * 19+j) (by omega),List.getElem?_eq_getElem (by rw [HO1.out.1];omega)];rfl) (fun j hj=>HO1.out.frozenAt _)
 obtain ⟨xs',o1,o2,o3⟩:=own_over (Builtin.zeroCells (Value.agg lk0).cells 1).toList ((n - 1) * 19) W1 _ HO1.out
 have HEND:=zh (show (W1.setCells g ((n - 1) * 19) (Builtin.zeroCells (Value.agg lk0).cells 1).toList).ownsRow base 94 19 (.slice (some ⟨g,0,none⟩) (n - 1) c) (n - 1) (gcs (L.take i ++ L.drop (i+1))) from by
  have:=own_cut o1 (i:=n - 1) (by omega) (by simp)
  rw [o2,HDC.out] at this;exact this)
 have HG2:=zh (Grown.trans HG1.out o3)
 obtain ⟨W2,hW2⟩:∃ W2,W1.setCells g ((n - 1) * 19) (Builtin.zeroCells (Value.agg lk0).cells 1).toList=W2:=⟨_,rfl⟩
 rw [hW2] at hcl HEND HG2
 have HAD:=zh had
 have i0:(0:Int)≤(i:Int):=by omega
 have i1:(i:Int)+1≤(n:Int):=by omega
 have i2:(n:Int)≤(c:Int):=by omega
 have i3:(i:Int)≤(n:Int):=by omega
 have i4:¬ c=i:=by omega
 have i6:(i:Int)≤(c:Int):=by omega
 have i7:¬ n=i:=by omega
 have i8:¬ c=n - 1:=by omega
 have i9:((n - 1:Nat):Int)≤(n:Int):=by omega
 have i10:(0:Int)≤(i:Int)+1:=by omega
 have i11:((i:Int)+1).toNat=i+1:=by omega
 have i12:¬ (i:Int)+1 < 0:=by omega
 have i13:n - (n - 1)=1:=by omega
 have HI:=zh hi
 clear h hsrc0 hnews hrun hsp hW1 hW2 o1 o2 o3 hti htz htsz htby hdl hfit hxl had
 go_enter Tryz.func156,Tryz.ntmps156
 go_wp2_with fail
 refine wp_region_held_drew (S:=fun W=>True) (by kernel_rfl) (trivial) (fun jj=>?_)
 refine zzr [0,1,2,3,4] ?_
 refine zu 5 (v:=.slice (some ad) (n - (i+1)) (c - (i+1))) jj ?_ (hy:=by (rcases Classical.em (c=i+1) with hc | hc <;> (refine Or.inl ⟨by rfl,fun W _=>?_⟩;rw [← HAD.out];(first | rw [if_pos hc] | rw [if_neg hc]);go_simp <;> with_reducible rfl)))
 refine za 6 (fun K hK=>?_)
 (refine step_apprun rfl (.tmp 22) (.tmp 25) rfl (.slice (some ⟨g,0,none⟩) i c) (.slice (some ad) (n - (i+1)) (c - (i+1))) (by rfl) (by rfl) _ _ (HRUN.out _) ?_)
 refine hK.out _ _ (trivial) (fun jj=>?_)
 clear hK K
 try simp only [lays]
 refine zt 7 jj ?_
 refine wpAnyH_done (by kernel_rfl) ?_ _
 clear HRUN
 go_wp2_with fail
 go_ret
 exact ⟨some ⟨g,0,none⟩,c,rfl,HEND.out,HG2.out⟩
end
end Go.Proofs.YtohmmcahpakokaaGreat
