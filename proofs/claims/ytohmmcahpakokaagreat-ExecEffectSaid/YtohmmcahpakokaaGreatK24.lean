/- slices.IndexFunc at entries, locks and names: the first element of which a function value says yes, or -1. -/
import Derived.Test.YtohmmcahpakokaaGreatK22
set_option maxRecDepth 100000
set_option maxHeartbeats 8000000
set_option linter.unusedVariables false
set_option linter.unusedSimpArgs false
namespace Go.Proofs.YtohmmcahpakokaaGreat
open Go.RowKit
attribute [local go_sem ↓] Go.wp_at_zero Go.wp_at_succ
section
variable {α:Type} [RowT α] {q:α→Bool} {L:List α} {r:Int} {n:Nat}
def IxIs (q:α→Bool) (L:List α) (r:Int):Prop:=(r=-1∧∀ k,k < L.length→q (nthG L k)=false) ∨ ∃ k:Nat,r=(k:Int)∧k < L.length∧q (nthG L k)=true∧∀ j,j < k→q (nthG L j)=false
theorem ix_cases (q:α→Bool) (L:List α):(∀ k,k < L.length→q (nthG L k)=false) ∨ ∃ k:Nat,k < L.length∧q (nthG L k)=true∧∀ j,j < k→q (nthG L j)=false:=by
 suffices H:∀ n,n≤L.length→(∀ k,k < n→q (nthG L k)=false) ∨ ∃ k:Nat,k < n∧q (nthG L k)=true∧∀ j,j < k→q (nthG L j)=false from H _ (Nat.le_refl _)
 intro n
 induction n with
 | zero=>intro _;exact .inl (fun k hk=>absurd hk (Nat.not_lt_zero _))
 | succ n ih =>
  intro hn
  rcases ih (by omega) with h | ⟨k,h1,h2,h3⟩
  ·cases hq : q (nthG L n) with
   | false=>exact .inl (fun k hk=>by
     by_cases e:k=n
     ·rw [e];exact hq
     ·exact h k (by omega))
   | true=>exact .inr ⟨n,by omega,hq,h⟩
  ·exact .inr ⟨k,by omega,h2,h3⟩
theorem IxIs.hit (h:IxIs q L r) {k:Nat} (hk:k < L.length) (h1:q (nthG L k)=true) (h2:∀ j,j < k→q (nthG L j)=false):r=(k:Int):=by
 rcases h with ⟨rfl,h⟩ | ⟨m,rfl,hm,h3,h4⟩
 ·rw [h k hk] at h1;cases h1
 ·rcases Nat.lt_trichotomy k m with e | e | e
  ·rw [h4 k e] at h1;cases h1
  ·rw [e]
  ·rw [h2 m e] at h3;cases h3
theorem IxIs.none (h:IxIs q L r) (h2:∀ j,j < L.length→q (nthG L j)=false):r=-1:=by
 rcases h with ⟨rfl,h⟩ | ⟨m,rfl,hm,h3,h4⟩
 ·rfl
 ·rw [h2 m hm] at h3;cases h3
theorem all_next {k:Nat} (h:∀ j,j < k→q (nthG L j)=false) (hk:q (nthG L k)=false):∀ j,j < k+1→q (nthG L j)=false:=fun j hj=>by
 by_cases e:j=k
 ·rw [e];exact hk
 ·exact h j (by omega)
end
structure Says {α:Type} [RowT α] (arr:α→Array Value) (fn:Nat) (caps:Array Value) (q:α→Bool) (w0:World):Prop where
 eg:∀ args w,(callFunc fn args).run Tryz.prog w=.ok (.enter fn args) w
 says:∀ x W,Ext w0 W→RowT.ok x W→Calls Tryz.prog fn (#[.agg (arr x)] ++ caps) W fun e w'=>e=.returned (.bool (q x))∧Ext W w'
theorem Says.at {α:Type} [RowT α] {arr:α→Array Value} {fn:Nat} {caps:Array Value} {q:α→Bool} {w0:World} (h:Says arr fn caps q w0) {w:World} {A:Option Addr} {n c:Nat} {L:List α} (hS:SlG w A n c L) (hE:Ext w0 w) {k:Nat} (hk:k < n) (v:Value) (hv:Value.agg (arr (nthG L k))=v) (b:Bool) (hb:q (nthG L k)=b) :
  Hid (Calls Tryz.prog fn (#[v] ++ caps) w fun e w'=>e=.returned (.bool b)∧Ext w w'):=by
 subst hv;subst hb
 exact zh (h.says _ w hE (hS.nth hk))
theorem ixDe_any {fn:Nat} {caps:Array Value} {q:DeR→Bool} {w0:World} (ht:Says deA fn caps q w0) (w:World) (A:Option Addr) (n c:Nat) (L:List DeR) (h:SlG w A n c L) (hE:Ext w0 w) (r:Int) (hr:IxIs q L r) :
  Calls Tryz.prog 157 #[.slice A n c,.func (.func fn) #[] caps] w fun e w'=>e=.returned (.int .i64 r)∧Ext w w':=by
 have eg:=ht.eg
 have hcap:=h.cap
 have hle:=h.le
 have HT:=zh ht
 have HS:=zh h
 have HE0:=zh hE
 have HR:=zh hr
 have HLEN:=zh h.len
 clear ht h hE hr
 go_enter Tryz.func157,Tryz.ntmps157
 go_wp2_with fail
 go_loopw [8] (fun vi wr=>∃ k:Nat,vi=.int .i64 (k:Int)∧k≤n∧Hid (∀ j,j < k→q (nthG L j)=false)∧Hid (Ext w wr)) (fun i _=>n - (intOf i).toNat)
 case atStart=>exact ⟨0,rfl,Nat.zero_le _,zh (fun j hj=>absurd hj (Nat.not_lt_zero _)),zh (Ext.refl w)⟩
 case round =>
  obtain ⟨k,rfl,hk,HN,HE⟩:=hrel
  by_cases hlt:k < n
  ·have HS2 := zh (HS.out.ext HE.out)
   have HE3:=zh (HE0.out.trans HE.out)
   obtain ⟨b,o,rfl,hrow,-⟩:=HS2.out.at (by omega)
   have i1:(k:Int) < (n:Int):=by omega
   have i0:(0:Int)≤(k:Int):=by omega
   have hr:wr.rangeAt b (o+k * 11) (RowT.enc (nthG L k)):=el_at (k:=k) hrow (by rw [HLEN.out];exact hlt)
   clear hrow
   obtain ⟨vx,hvx⟩:∃ v,Value.agg (deA (nthG L k))=v:=⟨_,rfl⟩
   cases hb:q (nthG L k) with
   | false =>
    have HN2:=zh (all_next HN.out hb)
    have HC:=HT.out.at HS2.out HE3.out hlt vx hvx false hb
    obtain ⟨R,hR⟩:∃ R,nthG L k=R:=⟨_,rfl⟩
    rw [hR] at hr hvx
    have HVX:=zh hvx
    clear hvx hb hR
    go_wp2_with (first | (with_reducible refine wpList_loadG deP rfl (.tmp 14) rfl b (o+k * 11) rfl R vx HVX.out hr ?_))
    refine HC.out.mono ?_
    rintro e w3 ⟨rfl,he3⟩
    have HE2:=zh (HE.out.trans he3)
    clear HC HVX he3 hr HS2 HE3
    go_wp2_with fail
    go_roundw
    case rel=>exact ⟨k+1,by go_num,hlt,HN2,HE2⟩
    case measure=>simp [intOf];omega
   | true =>
    have HQ:=zh (HR.out.hit (by rw [HLEN.out];exact hlt) hb HN.out)
    have HC:=HT.out.at HS2.out HE3.out hlt vx hvx true hb
    obtain ⟨R,hR⟩:∃ R,nthG L k=R:=⟨_,rfl⟩
    rw [hR] at hr hvx
    have HVX:=zh hvx
    clear hvx hb hR
    go_wp2_with (first | (with_reducible refine wpList_loadG deP rfl (.tmp 14) rfl b (o+k * 11) rfl R vx HVX.out hr ?_))
    refine HC.out.mono ?_
    rintro e w3 ⟨rfl,he3⟩
    have HE2:=zh (HE.out.trans he3)
    clear HC HVX he3 hr HS2 HE3
    go_wp2_with fail
    go_ret
    exact ⟨by rw [HQ.out];rfl,HE2.out⟩
  ·have i1 : ¬ (k : Int) < (n : Int) := by omega
   have HQ:=zh (HR.out.none (fun j hj=>HN.out j (by rw [HLEN.out] at hj;omega)))
   go_wp2_with fail
   go_ret
   exact ⟨by rw [HQ.out];rfl,HE.out⟩
theorem ixLk_any {fn:Nat} {caps:Array Value} {q:LkR→Bool} {w0:World} (ht:Says lkA fn caps q w0) (w:World) (A:Option Addr) (n c:Nat) (L:List LkR) (h:SlG w A n c L) (hE:Ext w0 w) (r:Int) (hr:IxIs q L r) :
  Calls Tryz.prog 212 #[.slice A n c,.func (.func fn) #[] caps] w fun e w'=>e=.returned (.int .i64 r)∧Ext w w':=by
 have eg:=ht.eg
 have hcap:=h.cap
 have hle:=h.le
 have HT:=zh ht
 have HS:=zh h
 have HE0:=zh hE
 have HR:=zh hr
 have HLEN:=zh h.len
 clear ht h hE hr
 go_enter Tryz.func212,Tryz.ntmps212
 go_wp2_with fail
 go_loopw [8] (fun vi wr=>∃ k:Nat,vi=.int .i64 (k:Int)∧k≤n∧Hid (∀ j,j < k→q (nthG L j)=false)∧Hid (Ext w wr)) (fun i _=>n - (intOf i).toNat)
 case atStart=>exact ⟨0,rfl,Nat.zero_le _,zh (fun j hj=>absurd hj (Nat.not_lt_zero _)),zh (Ext.refl w)⟩
 case round =>
  obtain ⟨k,rfl,hk,HN,HE⟩:=hrel
  by_cases hlt:k < n
  ·have HS2 := zh (HS.out.ext HE.out)
   have HE3:=zh (HE0.out.trans HE.out)
   obtain ⟨b,o,rfl,hrow,-⟩:=HS2.out.at (by omega)
   have i1:(k:Int) < (n:Int):=by omega
   have i0:(0:Int)≤(k:Int):=by omega
   have hr:wr.rangeAt b (o+k * 19) (RowT.enc (nthG L k)):=el_at (k:=k) hrow (by rw [HLEN.out];exact hlt)
   clear hrow
   obtain ⟨vx,hvx⟩:∃ v,Value.agg (lkA (nthG L k))=v:=⟨_,rfl⟩
   cases hb:q (nthG L k) with
   | false =>
    have HN2:=zh (all_next HN.out hb)
    have HC:=HT.out.at HS2.out HE3.out hlt vx hvx false hb
    obtain ⟨R,hR⟩:∃ R,nthG L k=R:=⟨_,rfl⟩
    rw [hR] at hr hvx
    have HVX:=zh hvx
    clear hvx hb hR
    go_wp2_with (first | (with_reducible refine wpList_loadG lkP rfl (.tmp 14) rfl b (o+k * 19) rfl R vx HVX.out hr ?_))
    refine HC.out.mono ?_
    rintro e w3 ⟨rfl,he3⟩
    have HE2:=zh (HE.out.trans he3)
    clear HC HVX he3 hr HS2 HE3
    go_wp2_with fail
    go_roundw
    case rel=>exact ⟨k+1,by go_num,hlt,HN2,HE2⟩
    case measure=>simp [intOf];omega
   | true =>
    have HQ:=zh (HR.out.hit (by rw [HLEN.out];exact hlt) hb HN.out)
    have HC:=HT.out.at HS2.out HE3.out hlt vx hvx true hb
    obtain ⟨R,hR⟩:∃ R,nthG L k=R:=⟨_,rfl⟩
    rw [hR] at hr hvx
    have HVX:=zh hvx
    clear hvx hb hR
    go_wp2_with (first | (with_reducible refine wpList_loadG lkP rfl (.tmp 14) rfl b (o+k * 19) rfl R vx HVX.out hr ?_))
    refine HC.out.mono ?_
    rintro e w3 ⟨rfl,he3⟩
    have HE2:=zh (HE.out.trans he3)
    clear HC HVX he3 hr HS2 HE3
    go_wp2_with fail
    go_ret
    exact ⟨by rw [HQ.out];rfl,HE2.out⟩
  ·have i1 : ¬ (k : Int) < (n : Int) := by omega
   have HQ:=zh (HR.out.none (fun j hj=>HN.out j (by rw [HLEN.out] at hj;omega)))
   go_wp2_with fail
   go_ret
   exact ⟨by rw [HQ.out];rfl,HE.out⟩
theorem ixNm_any {fn:Nat} {caps:Array Value} {q:UInt64→Bool} {w0:World} (ht:Says nmc fn caps q w0) (w:World) (A:Option Addr) (n c:Nat) (L:List UInt64) (h:SlG w A n c L) (hE:Ext w0 w) (r:Int) (hr:IxIs q L r) :
  Calls Tryz.prog 164 #[.slice A n c,.func (.func fn) #[] caps] w fun e w'=>e=.returned (.int .i64 r)∧Ext w w':=by
 have eg:=ht.eg
 have hcap:=h.cap
 have hle:=h.le
 have HT:=zh ht
 have HS:=zh h
 have HE0:=zh hE
 have HR:=zh hr
 have HLEN:=zh h.len
 clear ht h hE hr
 go_enter Tryz.func164,Tryz.ntmps164
 go_wp2_with fail
 go_loopw [8] (fun vi wr=>∃ k:Nat,vi=.int .i64 (k:Int)∧k≤n∧Hid (∀ j,j < k→q (nthG L j)=false)∧Hid (Ext w wr)) (fun i _=>n - (intOf i).toNat)
 case atStart=>exact ⟨0,rfl,Nat.zero_le _,zh (fun j hj=>absurd hj (Nat.not_lt_zero _)),zh (Ext.refl w)⟩
 case round =>
  obtain ⟨k,rfl,hk,HN,HE⟩:=hrel
  by_cases hlt:k < n
  ·have HS2 := zh (HS.out.ext HE.out)
   have HE3:=zh (HE0.out.trans HE.out)
   obtain ⟨b,o,rfl,hrow,-⟩:=HS2.out.at (by omega)
   have i1:(k:Int) < (n:Int):=by omega
   have i0:(0:Int)≤(k:Int):=by omega
   have hr:wr.rangeAt b (o+k * 8) (RowT.enc (nthG L k)):=el_at (k:=k) hrow (by rw [HLEN.out];exact hlt)
   clear hrow
   obtain ⟨vx,hvx⟩:∃ v,Value.agg (nmc (nthG L k))=v:=⟨_,rfl⟩
   cases hb:q (nthG L k) with
   | false =>
    have HN2:=zh (all_next HN.out hb)
    have HC:=HT.out.at HS2.out HE3.out hlt vx hvx false hb
    obtain ⟨R,hR⟩:∃ R,nthG L k=R:=⟨_,rfl⟩
    rw [hR] at hr hvx
    have HVX:=zh hvx
    clear hvx hb hR
    go_wp2_with (first | (with_reducible refine wpList_loadG nmP rfl (.tmp 14) rfl b (o+k * 8) rfl R vx HVX.out hr ?_))
    refine HC.out.mono ?_
    rintro e w3 ⟨rfl,he3⟩
    have HE2:=zh (HE.out.trans he3)
    clear HC HVX he3 hr HS2 HE3
    go_wp2_with fail
    go_roundw
    case rel=>exact ⟨k+1,by go_num,hlt,HN2,HE2⟩
    case measure=>simp [intOf];omega
   | true =>
    have HQ:=zh (HR.out.hit (by rw [HLEN.out];exact hlt) hb HN.out)
    have HC:=HT.out.at HS2.out HE3.out hlt vx hvx true hb
    obtain ⟨R,hR⟩:∃ R,nthG L k=R:=⟨_,rfl⟩
    rw [hR] at hr hvx
    have HVX:=zh hvx
    clear hvx hb hR
    go_wp2_with (first | (with_reducible refine wpList_loadG nmP rfl (.tmp 14) rfl b (o+k * 8) rfl R vx HVX.out hr ?_))
    refine HC.out.mono ?_
    rintro e w3 ⟨rfl,he3⟩
    have HE2:=zh (HE.out.trans he3)
    clear HC HVX he3 hr HS2 HE3
    go_wp2_with fail
    go_ret
    exact ⟨by rw [HQ.out];rfl,HE2.out⟩
  ·have i1 : ¬ (k : Int) < (n : Int) := by omega
   have HQ:=zh (HR.out.none (fun j hj=>HN.out j (by rw [HLEN.out] at hj;omega)))
   go_wp2_with fail
   go_ret
   exact ⟨by rw [HQ.out];rfl,HE.out⟩
theorem refSignTx_any (seed:UInt64) (ac sq:Int) (A:Option Addr) (n c:Nat) (L:List OpR) (w:World) (hS:SlO w A n c L) :
  Calls Tryz.prog 41 #[.agg (nmc seed),.agg (txA ac sq A n c)] w (SgOut w seed ac sq L):=by
 have hE:=(((Ext.refl w).alloc' (.cells (nmc seed) 30)).alloc' (.cells (txA ac sq A n c) 24)).alloc' (.cells zero4 47)
 obtain ⟨W0,hW0⟩:∃ W0,((w.alloc (.cells (nmc seed) 30)).alloc (.cells (txA ac sq A n c) 24)).alloc (.cells zero4 47)=W0:=⟨_,rfl⟩
 have HB0:=zh (((Blk.new w 30 (nmc seed)).alloc (.cells (txA ac sq A n c) 24)).alloc (.cells zero4 47))
 have HB1:=zh (show Blk (((w.alloc (.cells (nmc seed) 30)).alloc (.cells (txA ac sq A n c) 24)).alloc (.cells zero4 47)) (w.heap.size+1) 24 (txA ac sq A n c) from (Blk.newAt _ _ _ _ (by simp)).alloc _)
 have HB2:=zh (show Blk (((w.alloc (.cells (nmc seed) 30)).alloc (.cells (txA ac sq A n c) 24)).alloc (.cells zero4 47)) (w.heap.size+2) 47 zero4 from Blk.newAt _ _ _ _ (by simp))
 have HE:=zh hE
 have HS:=zh (hS.ext hE)
 rw [hW0] at HB0 HB1 HB2 HE HS
 have q0:W0.cell? ⟨w.heap.size+1,0,none⟩=some (.int .i64 ac):=HB1.out.cell 0
 have q1:W0.cell? ⟨w.heap.size+1,1,none⟩=some (.int .i64 sq):=HB1.out.cell 1
 have q2:W0.cell? ⟨w.heap.size+1,2,none⟩=some (.slice A n c):=HB1.out.cell 2
 have HV:=zh (refValidTx_any ac sq A n c L _ HS.out)
 have hS0:=zh hS.len
 have HSW:=zh hS
 clear hS hE
 cases hv:vTx ac sq L with
 | false =>
  rw [hv] at HV
  have HV:=zh (show Calls Tryz.prog 46 #[.agg (txA ac sq A n c)] W0 (fun e w'=>e=.returned (.bool false)∧Ext W0 w') from HV.out)
  have HVV:=zh hv
  clear hv
  go_enter Tryz.func41,Tryz.ntmps41
  go_wp2_with fail
  refine HV.out.mono ?_
  rintro e w1 ⟨rfl,he1⟩
  have HB3:=zh (HB2.out.ext he1)
  have HE3:=zh (HE.out.trans he1)
  have htz:=st_there HB3.out
  clear he1 hW0 q0 q1 q2
  go_wp2_with (first | (with_reducible refine wpList_storeSt rfl (.tmp 4) (.tmp 11) rfl (w.heap.size+2) zero4 rfl rfl htz rfl (stA_all _ _ _ _ _ _ _ _) ?_))
  exact bodyPost_ret (v:=.tuple #[.agg zero4,.int .i64 1]) (retCV rfl _ _ (w.heap.size+2) _ _ rfl rfl (run_loadVar_row _ _ _ _ _ (0,0) _ (st_store HB3.out zero4 rfl) Tryz.underlying47 rfl (by kernel_rfl))) rfl ⟨Below.setCells' HE3.out (by omega) _ _,.inl ⟨HVV.out,rfl⟩⟩
 | true =>
  rw [hv] at HV
  have HV:=zh (show Calls Tryz.prog 46 #[.agg (txA ac sq A n c)] W0 (fun e w'=>e=.returned (.bool true)∧Ext W0 w') from HV.out)
  have HVV:=zh hv
  clear hv
  go_enter Tryz.func41,Tryz.ntmps41
  go_wp2_with fail
  refine HV.out.mono ?_
  rintro e w1 ⟨rfl,he1⟩
  have HB0:=zh (HB0.out.ext he1)
  have HB1:=zh (HB1.out.ext he1)
  have HB2:=zh (HB2.out.ext he1)
  have HE:=zh (HE.out.trans he1)
  have HS:=zh (HS.out.ext he1)
  clear he1 hW0 q0 q1 q2 HV
  go_wp2_with fail
  have HSS:=zh (fun (W:World) (h:Ext w1 W)=>(⟨cells8 (HB0.out.ext h),(HB1.out.ext h).cell 0,(HB1.out.ext h).cell 1,(HB1.out.ext h).cell 2⟩:(∀ i,i < 8→W.cell? ⟨w.heap.size,i,none⟩=some (.int .u8 (nb8 seed i)))∧W.cell? ⟨w.heap.size+1,0,none⟩=some (.int .i64 ac)∧W.cell? ⟨w.heap.size+1,1,none⟩=some (.int .i64 sq)∧W.cell? ⟨w.heap.size+1,2,none⟩=some (.slice A n c)))
  have hX:=(Ext.refl w1).drew'
  have HNM:=zh (fun (W:World) (h:Ext w1 W)=>refTxName_any ac sq A n c L W (HS.out.ext h))
  obtain ⟨hh,hops⟩:=vTx_of HVV.out
  have HSG:=zh (fun (W:World)=>show Calls Tryz.prog 79 #[.agg (nmc seed),.int .i64 1,.int .i64 sq,.agg (nmc (txNm ac sq L))] W (SigOut W (some (sig1 seed sq.toNat (txNm ac sq L)))) from by rw [← sigU_in seed _ hh.2.2.1 hh.2.2.2.1];exact refSign_any seed _ 1 sq W)
  have HN4:=zh (show n≤4 by have:=hS0.out;omega)
  clear hh hops
  obtain ⟨sg,hsg⟩:∃ sg,sig1 seed sq.toNat (txNm ac sq L)=sg:=⟨_,rfl⟩
  rw [hsg] at HSG
  have HSGE:=zh hsg
  clear hsg
  obtain ⟨nm,hnm⟩:∃ nm,txNm ac sq L=nm:=⟨_,rfl⟩
  rw [hnm] at HNM HSG HSGE
  have HNE:=zh hnm
  clear hnm
  go_region_held3 (fun w'=>(∀ i,i < 8→w'.cell? ⟨w.heap.size,i,none⟩=some (.int .u8 (nb8 seed i)))∧w'.cell? ⟨w.heap.size+1,0,none⟩=some (.int .i64 ac)∧w'.cell? ⟨w.heap.size+1,1,none⟩=some (.int .i64 sq)∧w'.cell? ⟨w.heap.size+1,2,none⟩=some (.slice A n c)) (first | (with_reducible exact HSS.out _ hX) | fail "KEEP") (first | (go_at_call 35;(with_reducible refine (HNM.out _ hX).mono ?_);rintro e w2 ⟨rfl,he2⟩;have hX:=hX.trans he2) | (go_at_call 79;(with_reducible refine (HSG.out _).mono ?_);rintro e w3 ⟨A3,n3,c3,rfl,hs3,he3⟩;have hX:=hX.trans he3) | fail "ARM")
  have HX3:=zh hX
  have HS3:=zh (show SlB w3 A3 n3 c3 sg from hs3)
  obtain ⟨q0,q1,q2⟩:w3.cell? ⟨w.heap.size+1,0,none⟩=some (.int .i64 ac)∧w3.cell? ⟨w.heap.size+1,1,none⟩=some (.int .i64 sq)∧w3.cell? ⟨w.heap.size+1,2,none⟩=some (.slice A n c):=(HSS.out w3 hX).2
  have HB4:=zh (HB2.out.ext HX3.out)
  have htz:=st_there HB4.out
  clear hX hs3 he2 he3
  go_wp2_with (first | (with_reducible refine wpList_storeSt rfl (.tmp 4) (.tmp 23) rfl (w.heap.size+2) (stA ac sq A n c A3 n3 c3) rfl rfl htz rfl (stA_all _ _ _ _ _ _ _ _) ?_))
  have HFIN:=zh (show (⟨ac,sq,A,n,c,A3,n3,c3,L,sg⟩:TxR).ok (w3.setCells (w.heap.size+2) 0 (stA ac sq A n c A3 n3 c3).toList) from by
   have g:=grown_setCells' w3 (w.heap.size+2) (stA ac sq A n c A3 n3 c3).toList 0
   have hE:=Below.setCells' (HE.out.trans HX3.out) (show w.heap.size≤w.heap.size+2 by omega) (stA ac sq A n c A3 n3 c3).toList 0
   exact ⟨HSW.out.ext hE,HS3.out.grown g HB4.out⟩)
  have HVA:=zh (show (⟨ac,sq,A,n,c,A3,n3,c3,L,sg⟩:TxR).v=(ac,sq,L.map OpR.v,sig1 seed sq.toNat (txNm ac sq L)) from by unfold TxR.v;rw [HNE.out,HSGE.out])
  exact bodyPost_ret (v:=.tuple #[.agg (stA ac sq A n c A3 n3 c3),.int .i64 0]) (retCV rfl _ _ (w.heap.size+2) _ _ rfl rfl (run_loadVar_row _ _ _ _ _ (0,0) _ (st_store HB4.out (stA ac sq A n c A3 n3 c3) rfl) Tryz.underlying47 rfl (by kernel_rfl))) rfl ⟨Below.setCells' (HE.out.trans HX3.out) (by omega) _ _,.inr ⟨HVV.out,⟨ac,sq,A,n,c,A3,n3,c3,L,sg⟩,rfl,HFIN.out,HVA.out⟩⟩
def vSg (pub:UInt64) (T:TxR):Bool:=vTx T.ac T.sq T.L && (verU pub 1 (txNm T.ac T.sq T.L) T.sig && decide ((numAt T.sig 0 2:Int)=T.sq))
theorem verU_len {pub m:UInt64} {l:List UInt8} (h:verU pub 1 m l=true):l.length=186:=by
 unfold verU at h
 rw [if_pos rfl] at h
 simp only [Bool.and_eq_true,decide_eq_true_eq] at h
 exact h.1
theorem txVerify_any (pub:UInt64) (T:TxR) (w:World) (hT:T.ok w):Calls Tryz.prog 89 #[.agg (nmc pub),.agg (tA T)] w fun e w'=>e=.returned (.bool (vSg pub T))∧Ext w w':=by
 have hE:=((Ext.refl w).alloc' (.cells (nmc pub) 30)).alloc' (.cells (tA T) 47)
 obtain ⟨W0,hW0⟩:∃ W0,(w.alloc (.cells (nmc pub) 30)).alloc (.cells (tA T) 47)=W0:=⟨_,rfl⟩
 have HB0:=zh ((Blk.new w 30 (nmc pub)).alloc (.cells (tA T) 47))
 have HB1:=zh (show Blk ((w.alloc (.cells (nmc pub) 30)).alloc (.cells (tA T) 47)) (w.heap.size+1) 47 (tA T) from Blk.newAt _ _ _ _ (by simp))
 have HE:=zh hE
 have HT:=zh (hT.ext hE)
 rw [hW0] at HB0 HB1 HE HT
 have HSS:=zh (fun (W:World) (h:Ext W0 W)=>(⟨cells8 (HB0.out.ext h),st_facts (HB1.out.ext h)⟩:(∀ i,i < 8→W.cell? ⟨w.heap.size,i,none⟩=some (.int .u8 (nb8 pub i)))∧W.cell? ⟨w.heap.size+1,0,none⟩=some (.int .i64 T.ac)∧W.cell? ⟨w.heap.size+1,1,none⟩=some (.int .i64 T.sq)∧W.cell? ⟨w.heap.size+1,2,none⟩=some (.slice T.A T.n T.c)∧W.cell? ⟨w.heap.size+1,3,none⟩=some (.slice T.S T.m T.d)))
 have HV:=zh (fun (W:World) (h:Ext W0 W)=>validate_any T.ac T.sq T.A T.n T.c T.L W (HT.out.ext h).ops)
 obtain ⟨nm,hnm⟩:∃ nm,txNm T.ac T.sq T.L=nm:=⟨_,rfl⟩
 have HNM:=zh (fun (W:World) (h:Ext W0 W)=>show Calls Tryz.prog 56 #[.agg (txA T.ac T.sq T.A T.n T.c)] W (fun e w'=>e=.returned (.agg (nmc nm))∧Ext W w') from by rw [← hnm];exact txName_any T.ac T.sq T.A T.n T.c T.L W (HT.out.ext h).ops)
 have HVF:=zh (fun (W:World) (h:Ext W0 W)=>verify_any pub nm 1 T.S T.m T.d T.sig W (HT.out.ext h).sig)
 have HVS:=zh (show vSg pub T=(vTx T.ac T.sq T.L && (verU pub 1 nm T.sig && decide ((numAt T.sig 0 2:Int)=T.sq))) from by unfold vSg;rw [hnm])
 have hX:=(Ext.refl W0).drew'
 have HRF:=zh (Ext.refl W0)
 clear hE hT hnm
 cases hv:vTx T.ac T.sq T.L with
 | false =>
  rw [hv] at HV HVS
  have HV:=zh (show ∀ (W:World) (h:Ext W0 W),Calls Tryz.prog 44 #[.agg (txA T.ac T.sq T.A T.n T.c)] W (fun e w'=>e=.returned (.int .i64 1)∧Ext W w') from HV.out)
  have HVS:=zh (show vSg pub T=false from HVS.out)
  obtain ⟨q,q0,q1,q2,q3⟩:=HSS.out W0.drew hX
  clear hv q
  go_enter Tryz.func89,Tryz.ntmps89
  go_wp2_with fail
  clear hW0
  first | go_region_with (first | (go_at_call 44;(with_reducible refine (HV.out _ hX).mono ?_);rintro e w7 ⟨rfl,he7⟩;have hX7:=hX.trans he7) | fail "ARM") | fail "REGION"
  all_goals (
   have HXF:=zh (HE.out.trans hX7)
   clear q0 q1 q2 q3 hX7 he7 hX
   go_wp2_with fail
   go_ret
   exact ⟨by rw [HVS.out];rfl,HXF.out⟩)
 | true =>
  rw [hv] at HV HVS
  have HV:=zh (show ∀ (W:World) (h:Ext W0 W),Calls Tryz.prog 44 #[.agg (txA T.ac T.sq T.A T.n T.c)] W (fun e w'=>e=.returned (.int .i64 0)∧Ext W w') from HV.out)
  have HLN:=zh (@verU_len pub nm T.sig)
  obtain ⟨vr,hvr⟩:∃ vr,verU pub 1 nm T.sig=vr:=⟨_,rfl⟩
  rw [hvr] at HVF HVS HLN
  clear hv hvr
  go_enter Tryz.func89,Tryz.ntmps89
  go_wp2_with fail
  clear hW0
  go_region_held3 (fun w'=>(∀ i,i < 8→w'.cell? ⟨w.heap.size,i,none⟩=some (.int .u8 (nb8 pub i)))∧w'.cell? ⟨w.heap.size+1,0,none⟩=some (.int .i64 T.ac)∧w'.cell? ⟨w.heap.size+1,1,none⟩=some (.int .i64 T.sq)∧w'.cell? ⟨w.heap.size+1,2,none⟩=some (.slice T.A T.n T.c)∧w'.cell? ⟨w.heap.size+1,3,none⟩=some (.slice T.S T.m T.d)) (first | (with_reducible exact HSS.out _ hX) | fail "KEEP") (first | (go_at_call 44;(with_reducible refine (HV.out _ hX).mono ?_);rintro e wa ⟨rfl,he⟩;have hX:=hX.trans he;clear he) | (go_at_call 56;(with_reducible refine (HNM.out _ hX).mono ?_);rintro e wb ⟨rfl,he⟩;have hX:=hX.trans he;clear he) | (go_at_call 145;(with_reducible refine (HVF.out _ hX).mono ?_);rintro e wc ⟨rfl,he⟩;have hX:=hX.trans he;clear he) | fail "ARM")
  have HXW:=zh hX
  obtain ⟨q,q0,q1,q2,q3⟩:=HSS.out _ hX
  have hsg:=(HT.out.ext hX).sig
  have HXF:=zh (HE.out.trans hX)
  clear q hX
  cases vr with
  | false =>
   clear hsg
   go_wp2_with fail
   go_ret
   exact ⟨by rw [HVS.out];rfl,HXF.out⟩
  | true =>
   have hl:=HLN.out rfl
   have HLF:=zh (leaf_yes T.S T.m T.d T.sig _ hsg (by have:=hsg.len;omega))
   obtain ⟨x,hx⟩:∃ x,numAt T.sig 0 2=x:=⟨_,rfl⟩
   rw [hx] at HLF HVS
   clear hsg hl hx HLN
   go_wp2_with fail
   refine HLF.out.mono ?_
   rintro e wd ⟨rfl,rfl⟩
   go_wp2_with fail
   go_ret
   exact ⟨by rw [HVS.out];simp;rw [Bool.eq_iff_iff,beq_iff_eq,decide_eq_true_eq],HXF.out⟩
end Go.Proofs.YtohmmcahpakokaaGreat
