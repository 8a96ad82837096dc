import Derived.WalkMore
import Derived.ShutString
import Derived.ChangeOld
import Derived.Below
import Derived.SizedLaws
import Derived.ArgAppend
import Derived.Test.YtgmnmjeccfnmbaaGreatE10
set_option maxRecDepth 100000
set_option maxHeartbeats 8000000
set_option linter.unusedVariables false
set_option linter.unusedSimpArgs false
namespace Go.Proofs.YtgmnmjeccfnmbaaGreat
open Go.Proofs.Tryz
section
open Go.RowKit
attribute [local go_sem ↓] Go.wp_at_zero Go.wp_at_succ
section
variable {α:Type} [RowT α] {q:α→Bool} {L:List α} {r:Int} {n:Nat}
def IxIs (q:α→Bool) (L:List α) (r:Int):Prop:=(r=-1∧∀ k,k < L.length→q (aS L k)=false) ∨ ∃ k:Nat,r=(k:Int)∧k < L.length∧q (aS L k)=true∧∀ j,j < k→q (aS L j)=false
theorem kD (q:α→Bool) (L:List α):(∀ k,k < L.length→q (aS L k)=false) ∨ ∃ k:Nat,k < L.length∧q (aS L k)=true∧∀ j,j < k→q (aS L j)=false:=by
 suffices H:∀ n,n≤L.length→(∀ k,k < n→q (aS L k)=false) ∨ ∃ k:Nat,k < n∧q (aS L k)=true∧∀ j,j < k→q (aS L j)=false from H _ (Nat.le_refl _)
 intro n
 induction n with
 | zero=>intro _;exact .inl (fun k hk=>absurd hk (Nat.not_lt_zero _))
 | succ n ih =>
  intro hn
  rcases ih aa with h | ⟨k,h1,h2,h3⟩
  ·cases hq : q (aS L n) with
   | false=>exact .inl (fun k hk=>by
     by_cases e:k=n
     ·rw [e];exact hq
     exact h k aa)
   | true=>exact .inr ⟨n,aa,hq,h⟩
  exact .inr ⟨k,aa,h2,h3⟩
theorem IxIs.hit (h:IxIs q L r) {k:Nat} (hk:k < L.length) (h1:q (aS L k)=true) (h2:∀ j,j < k→q (aS L j)=false):r=(k:Int):=by
 rcases h with ⟨rfl,h⟩ | ⟨m,rfl,hm,h3,h4⟩
 ·rw [h k hk] at h1;cases h1
 rcases Nat.lt_trichotomy k m with e | e | e
 ·rw [h4 k e] at h1;cases h1
 ·rw [e]
 rw [h2 m e] at h3;cases h3
theorem IxIs.none (h:IxIs q L r) (h2:∀ j,j < L.length→q (aS L j)=false):r=-1:=by
 rcases h with ⟨rfl,h⟩ | ⟨m,rfl,hm,h3,h4⟩
 ·rfl
 rw [h2 m hm] at h3;cases h3
theorem yS {k:Nat} (h:∀ j,j < k→q (aS L j)=false) (hk:q (aS L k)=false):∀ j,j < k+1→q (aS L j)=false:=fun j hj=>by
 by_cases e:j=k
 ·rw [e];exact hk
 exact h j (by omega)
end
structure Says {α:Type} [RowT α] (arr:α→Array Value) (fn:Nat) (caps:Array Value) (q:α→Bool) (w0:World):Prop where
 eg:∀ args w,(callFunc fn args).run prog w=.ok (.enter fn args) w
 says:∀ x W,Ext w0 W→RowT.ok x W→Calls prog fn (#[.agg (arr x)] ++ caps) W fun e w'=>e=.returned (.bool (q x))∧Ext W w'
theorem Says.at {α:Type} [RowT α] {arr:α→Array Value} {fn:Nat} {caps:Array Value} {q:α→Bool} {w0:World} (h:Says arr fn caps q w0) {w:World} {A:Option Addr} {n c:Nat} {L:List α} (hS:SlG w A n c L) (hE:Ext w0 w) {k:Nat} (hk:k < n) (v:Value) (hv:Value.agg (arr (aS L k))=v) (b:Bool) (hb:q (aS L k)=b) :
  Hid (Calls prog fn (#[v] ++ caps) w fun e w'=>e=.returned (.bool b)∧Ext w w'):=by
 subst hv;subst hb
 exact zh (h.says _ w hE (hS.nth hk))
theorem xV {fn:Nat} {caps:Array Value} {q:DeR→Bool} {w0:World} (ht:Says deA fn caps q w0) (w:World) (A:Option Addr) (n c:Nat) (L:List DeR) (h:SlG w A n c L) (hE:Ext w0 w) (r:Int) (hr:IxIs q L r) :
  Calls prog 134 #[.slice A n c,.func (.func fn) #[] caps] w fun e w'=>e=.returned (.int .i64 r)∧Ext w w':=by
 have eg:=ht.eg
 have hcap:=h.cap
 have hle:=h.le
 have HT:=zh ht
 have HS:=zh h
 have HE0:=zh hE
 have HR:=zh hr
 have HLEN:=zh h.len
 clear ht h hE hr
 go_enter func134,ntmps134
 go_wp2_with fail
 go_loopw [8] (fun vi wr=>∃ k:Nat,vi=.int .i64 (k:Int)∧k≤n∧Hid (∀ j,j < k→q (aS L j)=false)∧Hid (Ext w wr)) (fun i _=>n - (intOf i).toNat)
 case atStart=>exact ⟨0,rfl,Nat.zero_le _,zh (fun j hj=>absurd hj (Nat.not_lt_zero _)),zh (Ext.refl w)⟩
 case round =>
  obtain ⟨k,rfl,hk,HN,HE⟩:=hrel
  by_cases hlt:k < n
  ·have HS2 := zh (HS.out.ext HE.out)
   have HE3:=zh (HE0.out.trans HE.out)
   obtain ⟨b,o,rfl,hrow,-⟩:=HS2.out.at aa
   have i1:(k:Int) < (n:Int):=aa
   have i0:(0:Int)≤(k:Int):=aa
   have hr:wr.rangeAt b (o+k * 11) (RowT.enc (aS L k)):=cN (k:=k) hrow ak
   clear hrow
   obtain ⟨vx,hvx⟩:=gx (Value.agg (deA (aS L k)))
   cases hb:q (aS L k) with
   | false =>
    have HN2:=zh (yS HN.out hb)
    have HC:=HT.out.at HS2.out HE3.out hlt vx hvx false hb
    obtain ⟨R,hR⟩:=gx (aS L k)
    rw [hR] at hr hvx
    have HVX:=zh hvx
    clear hvx hb hR
    go_wp2_with (first | (with_reducible refine aD deP rfl (.tmp 14) rfl b (o+k * 11) rfl R vx HVX.out hr ?_))
    exact xf
   | true =>
    have HQ:=zh (HR.out.hit ak hb HN.out)
    have HC:=HT.out.at HS2.out HE3.out hlt vx hvx true hb
    obtain ⟨R,hR⟩:=gx (aS L k)
    rw [hR] at hr hvx
    have HVX:=zh hvx
    clear hvx hb hR
    go_wp2_with (first | (with_reducible refine aD deP rfl (.tmp 14) rfl b (o+k * 11) rfl R vx HVX.out hr ?_))
    exact AS
  exact BG
theorem xU {fn:Nat} {caps:Array Value} {q:LkR→Bool} {w0:World} (ht:Says lkA fn caps q w0) (w:World) (A:Option Addr) (n c:Nat) (L:List LkR) (h:SlG w A n c L) (hE:Ext w0 w) (r:Int) (hr:IxIs q L r) :
  Calls prog 194 #[.slice A n c,.func (.func fn) #[] caps] w fun e w'=>e=.returned (.int .i64 r)∧Ext w w':=by
 have eg:=ht.eg
 have hcap:=h.cap
 have hle:=h.le
 have HT:=zh ht
 have HS:=zh h
 have HE0:=zh hE
 have HR:=zh hr
 have HLEN:=zh h.len
 clear ht h hE hr
 go_enter func194,ntmps194
 go_wp2_with fail
 go_loopw [8] (fun vi wr=>∃ k:Nat,vi=.int .i64 (k:Int)∧k≤n∧Hid (∀ j,j < k→q (aS L j)=false)∧Hid (Ext w wr)) (fun i _=>n - (intOf i).toNat)
 case atStart=>exact ⟨0,rfl,Nat.zero_le _,zh (fun j hj=>absurd hj (Nat.not_lt_zero _)),zh (Ext.refl w)⟩
 case round =>
  obtain ⟨k,rfl,hk,HN,HE⟩:=hrel
  by_cases hlt:k < n
  ·have HS2 := zh (HS.out.ext HE.out)
   have HE3:=zh (HE0.out.trans HE.out)
   obtain ⟨b,o,rfl,hrow,-⟩:=HS2.out.at aa
   have i1:(k:Int) < (n:Int):=aa
   have i0:(0:Int)≤(k:Int):=aa
   have hr:wr.rangeAt b (o+k * 19) (RowT.enc (aS L k)):=cN (k:=k) hrow ak
   clear hrow
   obtain ⟨vx,hvx⟩:=gx (Value.agg (lkA (aS L k)))
   cases hb:q (aS L k) with
   | false =>
    have HN2:=zh (yS HN.out hb)
    have HC:=HT.out.at HS2.out HE3.out hlt vx hvx false hb
    obtain ⟨R,hR⟩:=gx (aS L k)
    rw [hR] at hr hvx
    have HVX:=zh hvx
    clear hvx hb hR
    go_wp2_with (first | (with_reducible refine aD lkP rfl (.tmp 14) rfl b (o+k * 19) rfl R vx HVX.out hr ?_))
    exact xf
   | true =>
    have HQ:=zh (HR.out.hit ak hb HN.out)
    have HC:=HT.out.at HS2.out HE3.out hlt vx hvx true hb
    obtain ⟨R,hR⟩:=gx (aS L k)
    rw [hR] at hr hvx
    have HVX:=zh hvx
    clear hvx hb hR
    go_wp2_with (first | (with_reducible refine aD lkP rfl (.tmp 14) rfl b (o+k * 19) rfl R vx HVX.out hr ?_))
    exact AS
  exact BG
theorem aDy {fn:Nat} {caps:Array Value} {q:UInt64→Bool} {w0:World} (ht:Says nmc fn caps q w0) (w:World) (A:Option Addr) (n c:Nat) (L:List UInt64) (h:SlG w A n c L) (hE:Ext w0 w) (r:Int) (hr:IxIs q L r) :
  Calls prog 141 #[.slice A n c,.func (.func fn) #[] caps] w fun e w'=>e=.returned (.int .i64 r)∧Ext w w':=by
 have eg:=ht.eg
 have hcap:=h.cap
 have hle:=h.le
 have HT:=zh ht
 have HS:=zh h
 have HE0:=zh hE
 have HR:=zh hr
 have HLEN:=zh h.len
 clear ht h hE hr
 go_enter func141,ntmps141
 go_wp2_with fail
 go_loopw [8] (fun vi wr=>∃ k:Nat,vi=.int .i64 (k:Int)∧k≤n∧Hid (∀ j,j < k→q (aS L j)=false)∧Hid (Ext w wr)) (fun i _=>n - (intOf i).toNat)
 case atStart=>exact ⟨0,rfl,Nat.zero_le _,zh (fun j hj=>absurd hj (Nat.not_lt_zero _)),zh (Ext.refl w)⟩
 case round =>
  obtain ⟨k,rfl,hk,HN,HE⟩:=hrel
  by_cases hlt:k < n
  ·have HS2 := zh (HS.out.ext HE.out)
   have HE3:=zh (HE0.out.trans HE.out)
   obtain ⟨b,o,rfl,hrow,-⟩:=HS2.out.at aa
   have i1:(k:Int) < (n:Int):=aa
   have i0:(0:Int)≤(k:Int):=aa
   have hr:wr.rangeAt b (o+k * 8) (RowT.enc (aS L k)):=cN (k:=k) hrow ak
   clear hrow
   obtain ⟨vx,hvx⟩:=gx (Value.agg (nmc (aS L k)))
   cases hb:q (aS L k) with
   | false =>
    have HN2:=zh (yS HN.out hb)
    have HC:=HT.out.at HS2.out HE3.out hlt vx hvx false hb
    obtain ⟨R,hR⟩:=gx (aS L k)
    rw [hR] at hr hvx
    have HVX:=zh hvx
    clear hvx hb hR
    go_wp2_with (first | (with_reducible refine aD nmP rfl (.tmp 14) rfl b (o+k * 8) rfl R vx HVX.out hr ?_))
    exact xf
   | true =>
    have HQ:=zh (HR.out.hit ak hb HN.out)
    have HC:=HT.out.at HS2.out HE3.out hlt vx hvx true hb
    obtain ⟨R,hR⟩:=gx (aS L k)
    rw [hR] at hr hvx
    have HVX:=zh hvx
    clear hvx hb hR
    go_wp2_with (first | (with_reducible refine aD nmP rfl (.tmp 14) rfl b (o+k * 8) rfl R vx HVX.out hr ?_))
    exact AS
  exact BG
theorem zJ (seed:UInt64) (ac sq:Int) (A:Option Addr) (n c:Nat) (L:List OpR) (w:World) (hS:SlO w A n c L) :
  Calls prog 14 #[.agg (nmc seed),.agg (txA ac sq A n c)] w (aNU w seed ac sq L):=by
 have hE:=(((Ext.refl w).alloc' (.cells (nmc seed) 50)).alloc' (.cells (txA ac sq A n c) 33)).alloc' (.cells nO 36)
 obtain ⟨W0,hW0⟩:=gx (((w.alloc (.cells (nmc seed) 50)).alloc (.cells (txA ac sq A n c) 33)).alloc (.cells nO 36))
 have HB0:=zh (((Blk.new w 50 (nmc seed)).alloc (.cells (txA ac sq A n c) 33)).alloc (.cells nO 36))
 have HB1:=zh (show Blk (((w.alloc (.cells (nmc seed) 50)).alloc (.cells (txA ac sq A n c) 33)).alloc (.cells nO 36)) (w.heap.size+1) 33 (txA ac sq A n c) from (Blk.newAt _ _ _ _ dr).alloc _)
 have HB2:=zh (show Blk (((w.alloc (.cells (nmc seed) 50)).alloc (.cells (txA ac sq A n c) 33)).alloc (.cells nO 36)) (w.heap.size+2) 36 nO from Blk.newAt _ _ _ _ dr)
 have HE:=zh hE
 have HS:=zh (hS.ext hE)
 rw [hW0] at HB0 HB1 HB2 HE HS
 have q0:W0.cell? ⟨w.heap.size+1,0,none⟩=some (.int .i64 ac):=HB1.out.cell 0
 have q1:W0.cell? ⟨w.heap.size+1,1,none⟩=some (.int .i64 sq):=HB1.out.cell 1
 have q2:W0.cell? ⟨w.heap.size+1,2,none⟩=some (.slice A n c):=HB1.out.cell 2
 have HV:=zh (eE ac sq A n c L _ HS.out)
 have hS0:=zh hS.len
 have HSW:=zh hS
 clear hS hE
 cases hv:vTx ac sq L with
 | false =>
  rw [hv] at HV
  have HV:=zh (show Calls prog 33 #[.agg (txA ac sq A n c)] W0 (fun e w'=>e=.returned (.bool false)∧Ext W0 w') from HV.out)
  have HVV:=zh hv
  clear hv
  go_enter func14,ntmps14
  go_wp2_with fail
  refine zcl HV.out fun w1 he1=>?_
  have HB3:=zh (HB2.out.ext he1)
  have HE3:=zh (HE.out.trans he1)
  have htz:=aCE HB3.out
  clear he1 hW0 q0 q1 q2
  go_wp2_with (first | (with_reducible refine oD rfl (.tmp 4) (.tmp 11) rfl (w.heap.size+2) nO rfl rfl htz rfl (aFQ _ _ _ _ _ _ _ _) ?_))
  exact bodyPost_ret (v:=.tuple #[.agg nO,.int .i64 1]) (gO rfl _ _ (w.heap.size+2) _ _ rfl rfl (run_loadVar_row _ _ _ _ _ (0,0) _ (aCF HB3.out nO rfl) underlying36 rfl ab)) rfl ⟨Below.setCells' HE3.out aa _ _,.inl ⟨HVV.out,rfl⟩⟩
 | true =>
  rw [hv] at HV
  have HV:=zh (show Calls prog 33 #[.agg (txA ac sq A n c)] W0 (fun e w'=>e=.returned (.bool true)∧Ext W0 w') from HV.out)
  have HVV:=zh hv
  clear hv
  go_enter func14,ntmps14
  go_wp2_with fail
  refine zcl HV.out fun w1 he1=>?_
  have HB0:=zh (HB0.out.ext he1)
  have HB1:=zh (HB1.out.ext he1)
  have HB2:=zh (HB2.out.ext he1)
  have HE:=zh (HE.out.trans he1)
  have HS:=zh (HS.out.ext he1)
  clear he1 hW0 q0 q1 q2 HV
  go_wp2_with fail
  have HSS:=zh (fun (W:World) (h:Ext w1 W)=>(⟨dM (HB0.out.ext h),(HB1.out.ext h).cell 0,(HB1.out.ext h).cell 1,(HB1.out.ext h).cell 2⟩:(∀ i,i < 8→W.cell? ⟨w.heap.size,i,none⟩=some (.int .u8 (nb8 seed i)))∧W.cell? ⟨w.heap.size+1,0,none⟩=some (.int .i64 ac)∧W.cell? ⟨w.heap.size+1,1,none⟩=some (.int .i64 sq)∧W.cell? ⟨w.heap.size+1,2,none⟩=some (.slice A n c)))
  have hX:=(Ext.refl w1).drew'
  have HNM:=zh (fun (W:World) (h:Ext w1 W)=>jP ac sq A n c L W (HS.out.ext h))
  obtain ⟨hh,hops⟩:=dX HVV.out
  have HSG:=zh (fun (W:World)=>show Calls prog 48 #[.agg (nmc seed),.int .i64 1,.int .i64 sq,.agg (nmc (cG ac sq L))] W (SigOut W (some (yW seed sq.toNat (cG ac sq L)))) from by rw [← aFR seed _ hh.2.2.1 hh.2.2.2.1];exact aCX seed _ 1 sq W)
  have HN4:=zh (show n≤4 by have:=hS0.out;omega)
  clear hh hops
  obtain ⟨sg,hsg⟩:=gx (yW seed sq.toNat (cG ac sq L))
  rw [hsg] at HSG
  have HSGE:=zh hsg
  clear hsg
  obtain ⟨nm,hnm⟩:=gx (cG ac sq L)
  rw [hnm] at HNM HSG HSGE
  have HNE:=zh hnm
  clear hnm
  go_region_held3 (fun w'=>(∀ i,i < 8→w'.cell? ⟨w.heap.size,i,none⟩=some (.int .u8 (nb8 seed i)))∧w'.cell? ⟨w.heap.size+1,0,none⟩=some (.int .i64 ac)∧w'.cell? ⟨w.heap.size+1,1,none⟩=some (.int .i64 sq)∧w'.cell? ⟨w.heap.size+1,2,none⟩=some (.slice A n c)) (first | (with_reducible exact HSS.out _ hX) | fail "KEEP") (first | (go_at_call 36;(with_reducible refine zcl (HNM.out _ hX) fun w2 he2=>?_);have hX:=hX.trans he2) | (go_at_call 48;(with_reducible refine (HSG.out _).mono ?_);rintro e w3 ⟨A3,n3,c3,rfl,hs3,he3⟩;have hX:=hX.trans he3) | fail "ARM")
  have HX3:=zh hX
  have HS3:=zh (show SlB w3 A3 n3 c3 sg from hs3)
  obtain ⟨q0,q1,q2⟩:w3.cell? ⟨w.heap.size+1,0,none⟩=some (.int .i64 ac)∧w3.cell? ⟨w.heap.size+1,1,none⟩=some (.int .i64 sq)∧w3.cell? ⟨w.heap.size+1,2,none⟩=some (.slice A n c):=(HSS.out w3 hX).2
  have HB4:=zh (HB2.out.ext HX3.out)
  have htz:=aCE HB4.out
  clear hX hs3 he2 he3
  go_wp2_with (first | (with_reducible refine oD rfl (.tmp 4) (.tmp 23) rfl (w.heap.size+2) (stA ac sq A n c A3 n3 c3) rfl rfl htz rfl (aFQ _ _ _ _ _ _ _ _) ?_))
  have HFIN:=zh (show (⟨ac,sq,A,n,c,A3,n3,c3,L,sg⟩:TxR).ok (w3.setCells (w.heap.size+2) 0 (stA ac sq A n c A3 n3 c3).toList) from by
   have g:=aB w3 (w.heap.size+2) (stA ac sq A n c A3 n3 c3).toList 0
   have hE:=Below.setCells' (HE.out.trans HX3.out) (show w.heap.size≤w.heap.size+2 by omega) (stA ac sq A n c A3 n3 c3).toList 0
   exact ⟨HSW.out.ext hE,HS3.out.grown g HB4.out⟩)
  have HVA:=zh (show (⟨ac,sq,A,n,c,A3,n3,c3,L,sg⟩:TxR).v=(ac,sq,L.map OpR.v,yW seed sq.toNat (cG ac sq L)) from by unfold TxR.v;rw [HNE.out,HSGE.out])
  exact bodyPost_ret (v:=.tuple #[.agg (stA ac sq A n c A3 n3 c3),.int .i64 0]) (gO rfl _ _ (w.heap.size+2) _ _ rfl rfl (run_loadVar_row _ _ _ _ _ (0,0) _ (aCF HB4.out (stA ac sq A n c A3 n3 c3) rfl) underlying36 rfl ab)) rfl ⟨Below.setCells' (HE.out.trans HX3.out) aa _ _,.inr ⟨HVV.out,⟨ac,sq,A,n,c,A3,n3,c3,L,sg⟩,rfl,HFIN.out,HVA.out⟩⟩
def vSg (pub:UInt64) (T:TxR):Bool:=vTx T.ac T.sq T.L && (gS pub 1 (cG T.ac T.sq T.L) T.sig && decide ((aZ T.sig 0 2:Int)=T.sq))
theorem aCr {pub m:UInt64} {l:List UInt8} (h:gS pub 1 m l=true):l.length=186:=by
 unfold gS at h
 rw [if_pos rfl] at h
 simp only [Bool.and_eq_true,decide_eq_true_eq] at h
 exact h.1
theorem aBa (pub:UInt64) (T:TxR) (w:World) (hT:T.ok w):Calls prog 61 #[.agg (nmc pub),.agg (tA T)] w fun e w'=>e=.returned (.bool (vSg pub T))∧Ext w w':=by
 have hE:=((Ext.refl w).alloc' (.cells (nmc pub) 50)).alloc' (.cells (tA T) 36)
 obtain ⟨W0,hW0⟩:=gx ((w.alloc (.cells (nmc pub) 50)).alloc (.cells (tA T) 36))
 have HB0:=zh ((Blk.new w 50 (nmc pub)).alloc (.cells (tA T) 36))
 have HB1:=zh (show Blk ((w.alloc (.cells (nmc pub) 50)).alloc (.cells (tA T) 36)) (w.heap.size+1) 36 (tA T) from Blk.newAt _ _ _ _ dr)
 have HE:=zh hE
 have HT:=zh (hT.ext hE)
 rw [hW0] at HB0 HB1 HE HT
 have HSS:=zh (fun (W:World) (h:Ext W0 W)=>(⟨dM (HB0.out.ext h),kY (HB1.out.ext h)⟩:(∀ i,i < 8→W.cell? ⟨w.heap.size,i,none⟩=some (.int .u8 (nb8 pub i)))∧W.cell? ⟨w.heap.size+1,0,none⟩=some (.int .i64 T.ac)∧W.cell? ⟨w.heap.size+1,1,none⟩=some (.int .i64 T.sq)∧W.cell? ⟨w.heap.size+1,2,none⟩=some (.slice T.A T.n T.c)∧W.cell? ⟨w.heap.size+1,3,none⟩=some (.slice T.S T.m T.d)))
 have HV:=zh (fun (W:World) (h:Ext W0 W)=>fI T.ac T.sq T.A T.n T.c T.L W (HT.out.ext h).ops)
 obtain ⟨nm,hnm⟩:=gx (cG T.ac T.sq T.L)
 have HNM:=zh (fun (W:World) (h:Ext W0 W)=>show Calls prog 31 #[.agg (txA T.ac T.sq T.A T.n T.c)] W (fun e w'=>e=.returned (.agg (nmc nm))∧Ext W w') from by rw [← hnm];exact fV T.ac T.sq T.A T.n T.c T.L W (HT.out.ext h).ops)
 have HVF:=zh (fun (W:World) (h:Ext W0 W)=>wH pub nm 1 T.S T.m T.d T.sig W (HT.out.ext h).sig)
 have HVS:=zh (show vSg pub T=(vTx T.ac T.sq T.L && (gS pub 1 nm T.sig && decide ((aZ T.sig 0 2:Int)=T.sq))) from by unfold vSg;rw [hnm])
 have hX:=(Ext.refl W0).drew'
 have HRF:=zh (Ext.refl W0)
 clear hE hT hnm
 cases hv:vTx T.ac T.sq T.L with
 | false =>
  rw [hv] at HV HVS
  have HV:=zh (show ∀ (W:World) (h:Ext W0 W),Calls prog 49 #[.agg (txA T.ac T.sq T.A T.n T.c)] W (fun e w'=>e=.returned (.int .i64 1)∧Ext W w') from HV.out)
  have HVS:=zh (show vSg pub T=false from HVS.out)
  obtain ⟨q,q0,q1,q2,q3⟩:=HSS.out W0.drew hX
  clear hv q
  go_enter func61,ntmps61
  go_wp2_with fail
  clear hW0
  first | go_region_with (first | (go_at_call 49;(with_reducible refine zcl (HV.out _ hX) fun w7 he7=>?_);have hX7:=hX.trans he7) | fail "ARM") | fail "REGION"
  all_goals (
   have HXF:=zh (HE.out.trans hX7)
   clear q0 q1 q2 q3 hX7 he7 hX
   go_wp2_with fail
   go_ret
   exact ⟨kh,HXF.out⟩)
 | true =>
  rw [hv] at HV HVS
  have HV:=zh (show ∀ (W:World) (h:Ext W0 W),Calls prog 49 #[.agg (txA T.ac T.sq T.A T.n T.c)] W (fun e w'=>e=.returned (.int .i64 0)∧Ext W w') from HV.out)
  have HLN:=zh (@aCr pub nm T.sig)
  obtain ⟨vr,hvr⟩:=gx (gS pub 1 nm T.sig)
  rw [hvr] at HVF HVS HLN
  clear hv hvr
  go_enter func61,ntmps61
  go_wp2_with fail
  clear hW0
  go_region_held3 (fun w'=>(∀ i,i < 8→w'.cell? ⟨w.heap.size,i,none⟩=some (.int .u8 (nb8 pub i)))∧w'.cell? ⟨w.heap.size+1,0,none⟩=some (.int .i64 T.ac)∧w'.cell? ⟨w.heap.size+1,1,none⟩=some (.int .i64 T.sq)∧w'.cell? ⟨w.heap.size+1,2,none⟩=some (.slice T.A T.n T.c)∧w'.cell? ⟨w.heap.size+1,3,none⟩=some (.slice T.S T.m T.d)) (first | (with_reducible exact HSS.out _ hX) | fail "KEEP") (first | (go_at_call 49;(with_reducible refine zcl (HV.out _ hX) fun wa he=>?_);have hX:=hX.trans he;clear he) | (go_at_call 31;(with_reducible refine zcl (HNM.out _ hX) fun wb he=>?_);have hX:=hX.trans he;clear he) | (go_at_call 122;(with_reducible refine zcl (HVF.out _ hX) fun wc he=>?_);have hX:=hX.trans he;clear he) | fail "ARM")
  have HXW:=zh hX
  obtain ⟨q,q0,q1,q2,q3⟩:=HSS.out _ hX
  have hsg:=(HT.out.ext hX).sig
  have HXF:=zh (HE.out.trans hX)
  clear q hX
  cases vr with
  | false =>
   clear hsg
   go_wp2_with fail
   go_ret
   exact ⟨kh,HXF.out⟩
  | true =>
   have hl:=HLN.out rfl
   have HLF:=zh (sG T.S T.m T.d T.sig _ hsg (by have:=hsg.len;omega))
   obtain ⟨x,hx⟩:=gx (aZ T.sig 0 2)
   rw [hx] at HLF HVS
   clear hsg hl hx HLN
   go_wp2_with fail
   refine HLF.out.mono ?_
   rintro e wd ⟨rfl,rfl⟩
   go_wp2_with fail
   go_ret
   exact ⟨by rw [HVS.out];simp;rw [Bool.eq_iff_iff,beq_iff_eq,decide_eq_true_eq],HXF.out⟩
end
section
open Go.ChangeShapes Go.WideShapes Go.ChangeAt Go.RowKit
theorem nM:prog.cellsOf 50=8:=by kernel_rfl
theorem aGy:prog.cellsOf 5=1:=by kernel_rfl
theorem lD {H:Type} {enc:TypeId × Value→H} {W:World} {base fuel:Nat} {held:Bool} {cs:List Value} {x:DataW H × List MemPlace}
  (h:DataW.trod enc prog W base (fun _=>true) held fuel 50 cs=some x):∃ n:UInt64,cs=(nmc n).toList:=by
 obtain ⟨xs,m,_,_,hl,hxl,hf⟩:=DataW.trod_array underlying50 h
 rw [nM] at hl
 rw [aGy] at hf
 have hb:∀ i,i < 8→∃ b:UInt8,cs[i]?=some (.int .u8 (b.toNat:Int)):=by
  intro i hi
  have h1:=hf i hi
  rw [List.getElem?_eq_getElem aa] at h1
  obtain ⟨z,e,_,wz⟩:=DataW.trod_int underlying5 h1
  have h2:=aLk wz
  refine ⟨toB z,?_⟩
  rw [← bM,Int.emod_eq_of_lt h2.1 h2.2]
  have h3:((cs.drop (i * 1)).take 1)[0]?=some (.int .u8 z):=gp
  rw [List.getElem?_take_of_lt aa,List.getElem?_drop] at h3
  simpa using h3
 have hc:∃ l:List UInt8,l.length=8∧cs=bcs l:=by
  match cs,hl,hb with
  | [c0,c1,c2,c3,c4,c5,c6,c7],_,hb =>
   obtain ⟨b0,e0⟩:=hb 0 aa
   have e0:c0=.int .u8 (b0.toNat:Int):=Option.some.inj e0
   obtain ⟨b1,e1⟩:=hb 1 aa
   have e1:c1=.int .u8 (b1.toNat:Int):=Option.some.inj e1
   obtain ⟨b2,e2⟩:=hb 2 aa
   have e2:c2=.int .u8 (b2.toNat:Int):=Option.some.inj e2
   obtain ⟨b3,e3⟩:=hb 3 aa
   have e3:c3=.int .u8 (b3.toNat:Int):=Option.some.inj e3
   obtain ⟨b4,e4⟩:=hb 4 aa
   have e4:c4=.int .u8 (b4.toNat:Int):=Option.some.inj e4
   obtain ⟨b5,e5⟩:=hb 5 aa
   have e5:c5=.int .u8 (b5.toNat:Int):=Option.some.inj e5
   obtain ⟨b6,e6⟩:=hb 6 aa
   have e6:c6=.int .u8 (b6.toNat:Int):=Option.some.inj e6
   obtain ⟨b7,e7⟩:=hb 7 aa
   have e7:c7=.int .u8 (b7.toNat:Int):=Option.some.inj e7
   exact ⟨[b0,b1,b2,b3,b4,b5,b6,b7],rfl,by rw [e0,e1,e2,e3,e4,e5,e6,e7];rfl⟩
 obtain ⟨l,hl8,rfl⟩:=hc
 exact ⟨qN l,by rw [bW,lG l hl8]⟩
end
section
open Go.ChangeShapes Go.WideShapes Go.ChangeAt Go.RowKit Go.Deep
theorem jA:prog.cellsOf 3=1:=by kernel_rfl
theorem iD {w:World} {x:Addr} {k:IntKind} {n:Int} (h:w.cell? x=some (.int k n)):x.spot=none:=by
 unfold World.cell? at h
 cases hs:x.spot with
 | none=>rfl
 | some p=>rw [hs] at h;split at h <;> simp at h
theorem aEc:prog.cellsOf 52=23:=by kernel_rfl
theorem aGt:prog.cellsOf 33=3:=by kernel_rfl
theorem aKL:prog.cellsOf 36=4:=by kernel_rfl
theorem aGu:prog.cellsOf 34=1:=by kernel_rfl
theorem aKM:prog.cellsOf 31=1:=by kernel_rfl
section
variable {H:Type} {enc:TypeId × Value→H} {w:World} {base fuel:Nat} {held:Bool} {cs:List Value} {x:DataW H × List MemPlace}
theorem tK (h:DataW.trod enc prog w base (fun _=>true) held fuel 34 cs=some x):∃ a n c l,cs=[.slice a n c]∧SlB w a n c l:=by
 rcases open_ints underlying34 underlying5 aGy h with ⟨hcs,_⟩ | ⟨x,l,c,zs,hcs,_,hl,hm,hz,_,hcell,hwz⟩
 ·exact ⟨_,_,_,[],hcs,SlB.nil w⟩
 obtain ⟨l',hs⟩:=aEC (.inr ⟨_,rfl,hl,hm,by simpa using hz,hcell,hwz⟩)
 exact ⟨_,_,_,l',hcs,hs⟩
theorem dZ {α:Type} (cs:List α) (a n:Nat):cs.drop a=(cs.drop a).take n ++ cs.drop (a+n):=by
 rw [← List.drop_drop,List.take_append_drop]
theorem aNi {α:Type} {l:List α} (h:l.length=9):∃ a b c d e f g i j,l=[a,b,c,d,e,f,g,i,j]:=by
 match l,h with
 | [a,b,c,d,e,f,g,i,j],_=>exact ⟨a,b,c,d,e,f,g,i,j,rfl⟩
theorem aKh (h:DataW.trod enc prog w base (fun _=>true) held fuel 52 cs=some x):∃ R:OpR,cs=opL R∧R.ok w:=by
 obtain ⟨xs,m,_,_,hl,hxl,hg⟩:=DataW.trod_struct underlying52 h
 rw [aEc] at hl
 obtain ⟨x0,x1,x2,x3,x4,x5,x6,x7,x8,rfl⟩:=aNi (show xs.length=9 from hxl)
 have h0:DataW.trod enc prog w base (fun _=>true) held m 3 ((cs.drop 0).take (prog.cellsOf 3))=some x0:=hg 0 _ rfl
 have h1:DataW.trod enc prog w base (fun _=>true) held m 3 ((cs.drop 1).take (prog.cellsOf 3))=some x1:=hg 1 _ rfl
 have h2:DataW.trod enc prog w base (fun _=>true) held m 3 ((cs.drop 2).take (prog.cellsOf 3))=some x2:=hg 2 _ rfl
 have h3:DataW.trod enc prog w base (fun _=>true) held m 3 ((cs.drop 3).take (prog.cellsOf 3))=some x3:=hg 3 _ rfl
 have h4:DataW.trod enc prog w base (fun _=>true) held m 3 ((cs.drop 4).take (prog.cellsOf 3))=some x4:=hg 4 _ rfl
 have h5:DataW.trod enc prog w base (fun _=>true) held m 50 ((cs.drop 5).take (prog.cellsOf 50))=some x5:=hg 5 _ rfl
 have h6:DataW.trod enc prog w base (fun _=>true) held m 50 ((cs.drop 13).take (prog.cellsOf 50))=some x6:=hg 6 _ rfl
 have h7:DataW.trod enc prog w base (fun _=>true) held m 34 ((cs.drop 21).take (prog.cellsOf 34))=some x7:=hg 7 _ rfl
 have h8:DataW.trod enc prog w base (fun _=>true) held m 34 ((cs.drop 22).take (prog.cellsOf 34))=some x8:=hg 8 _ rfl
 rw [jA] at h0 h1 h2 h3 h4
 rw [nM] at h5 h6
 rw [aGu] at h7 h8
 obtain ⟨k,e0,_,_⟩:=DataW.trod_int underlying3 h0
 obtain ⟨tO,e1,_,_⟩:=DataW.trod_int underlying3 h1
 obtain ⟨am,e2,_,_⟩:=DataW.trod_int underlying3 h2
 obtain ⟨ul,e3,_,_⟩:=DataW.trod_int underlying3 h3
 obtain ⟨va,e4,_,_⟩:=DataW.trod_int underlying3 h4
 obtain ⟨lk,e5⟩:=lD h5
 obtain ⟨hs,e6⟩:=lD h6
 obtain ⟨A1,n1,c1,pre,e7,s1⟩:=tK h7
 obtain ⟨A2,n2,c2,prf,e8,s2⟩:=tK h8
 rw [bW,eJ] at e5 e6
 refine ⟨⟨k,tO,am,ul,va,lk,hs,A1,n1,c1,pre,A2,n2,c2,prf⟩,?_,⟨s1,s2⟩⟩
 have e:cs=cs.drop 0:=rfl
 rw [e,dZ cs 0 1,e0,dZ cs (0+1) 1,e1,dZ cs (0+1+1) 1,e2,dZ cs (0+1+1+1) 1,e3,dZ cs (0+1+1+1+1) 1,e4,dZ cs (0+1+1+1+1+1) 8,e5,dZ cs (0+1+1+1+1+1+8) 8,e6,dZ cs (0+1+1+1+1+1+8+8) 1,e7,dZ cs (0+1+1+1+1+1+8+8+1) 1,e8,List.drop_of_length_le aa]
 rfl
theorem aIs {b o:Nat}:∀ (n:Nat),(∀ j,j < n→∃ y:OpR,w.rangeAt b (o+j * 23) (opL y)∧y.ok w)→∃ L:List OpR,L.length=n∧w.rangeAt b o (ocs L)∧∀ R,R ∈ L→R.ok w:=by
 intro n
 induction n with
 | zero=>intro _;exact ⟨[],rfl,fun j v hv=>by simp [ocs] at hv,fun R hR=>by cases hR⟩
 | succ n ih =>
  intro h
  obtain ⟨L,hL,hr,hok⟩:=ih (fun j hj=>h j aa)
  obtain ⟨y,hy,hyo⟩:=h n aa
  refine ⟨L ++ [y],by simp [hL],?_,?_⟩
  ·rw [aEX, oQ, aGb, List.append_nil]
   refine lA hr ?_
   rw [xJ,hL];exact hy
  exact yv
theorem aIE (h:DataW.trod enc prog w base (fun _=>true) held fuel 31 cs=some x):∃ A n c L,cs=[.slice A n c]∧SlO w A n c L:=by
 rcases open_slice underlying31 h with ⟨hcs,_⟩ | ⟨x,l,c',m,n,D,Pl,hcs,_,hl,hm,hmm,_,hi⟩
 ·exact ⟨none,0,0,[],hcs,SlO.nil w⟩
 rw [if_pos rfl] at hmm
 subst hmm
 have hcell:∀ j,j < l→∃ y:OpR,(∀ q v,(opL y)[q]?=some v→w.cell? ((x.add (j * 23)).add q)=some v)∧y.ok w:=by
  intro j hj
  obtain ⟨cs',hc,ht⟩:=hi j aa
  obtain ⟨y,rfl,hyo⟩:=aKh ht
  rw [aEc] at hc
  obtain ⟨_,hln,hat⟩:=World.cells?_some hc
  refine ⟨y,fun q v hv=>?_,hyo⟩
  have hq:=(List.getElem?_eq_some_iff.1 hv).1
  have:=hat q (by rw [iE] at hq;omega)
  rw [this,hv]
 rcases Nat.eq_zero_or_pos l with rfl | h0
 ·exact ⟨_,0,_,[],hcs,rfl,Nat.zero_le _,es,.nil,fun R hR=>by cases hR⟩
 have hx:x.spot=none:=by
  obtain ⟨y,hy,_⟩:=hcell 0 h0
  have:=hy 0 (.int .i64 y.k) rfl
  have e0:((x.add (0 * 23)).add 0)=x:=by simp [Addr.add]
  rw [e0] at this
  exact iD this
 obtain ⟨bl,ol,sp⟩:=x
 simp only at hx
 subst hx
 obtain ⟨L,hL,hr,hok⟩:=aIs (w:=w) (b:=bl) (o:=ol) l (fun j hj=>by
  exact yu)
 exact ⟨_,l,_,L,hcs,hL,hl,es,.inr ⟨bl,ol,rfl,hr⟩,hok⟩
theorem aLs {α:Type} {l:List α} (h:l.length=2):∃ a b,l=[a,b]:=by
 match l,h with
 | [a,b],_=>exact ⟨a,b,rfl⟩
theorem aIZ {α:Type} {l:List α} (h:l.length=3):∃ a b c,l=[a,b,c]:=by
 match l,h with
 | [a,b,c],_=>exact ⟨a,b,c,rfl⟩
theorem aNj {α:Type} {l:List α} (h:l.length=4):∃ a b c d,l=[a,b,c,d]:=by
 match l,h with
 | [a,b,c,d],_=>exact ⟨a,b,c,d,rfl⟩
theorem aIC (h:DataW.trod enc prog w base (fun _=>true) held fuel 33 cs=some x):∃ ac sq A n c L,cs=[.int .i64 ac,.int .i64 sq,.slice A n c]∧SlO w A n c L:=by
 obtain ⟨xs,m,_,_,hl,hxl,hf⟩:=DataW.trod_struct underlying33 h
 rw [aGt] at hl
 obtain ⟨c0,c1,c2,rfl⟩:=aIZ hl
 obtain ⟨x0,x1,x2,rfl⟩:=aIZ (show xs.length=3 from hxl)
 have h0:DataW.trod enc prog w base (fun _=>true) held m 3 (([c0,c1,c2].drop 0).take (prog.cellsOf 3))=some x0:=hf 0 _ rfl
 have h1:DataW.trod enc prog w base (fun _=>true) held m 3 (([c0,c1,c2].drop 1).take (prog.cellsOf 3))=some x1:=hf 1 _ rfl
 have h2:DataW.trod enc prog w base (fun _=>true) held m 31 (([c0,c1,c2].drop 2).take (prog.cellsOf 31))=some x2:=hf 2 _ rfl
 rw [jA] at h0 h1
 rw [aKM] at h2
 obtain ⟨ac,e0,_,_⟩:=DataW.trod_int underlying3 h0
 obtain ⟨sq,e1,_,_⟩:=DataW.trod_int underlying3 h1
 obtain ⟨A,n,c,L,e2,hs⟩:=aIE h2
 simp only [List.drop_zero,List.drop_succ_cons,List.take_succ_cons,List.take_zero,List.cons.injEq,and_true] at e0 e1 e2
 exact ⟨ac,sq,A,n,c,L,by rw [e0,e1,e2],hs⟩
theorem aID (h:DataW.trod enc prog w base (fun _=>true) held fuel 36 cs=some x):∃ T:TxR,cs=tL T∧T.ok w:=by
 obtain ⟨xs,m,_,_,hl,hxl,hf⟩:=DataW.trod_struct underlying36 h
 rw [aKL] at hl
 obtain ⟨c0,c1,c2,c3,rfl⟩:=aNj hl
 obtain ⟨x0,x1,rfl⟩:=aLs (show xs.length=2 from hxl)
 have h0:DataW.trod enc prog w base (fun _=>true) held m 33 (([c0,c1,c2,c3].drop 0).take (prog.cellsOf 33))=some x0:=hf 0 _ rfl
 have h1:DataW.trod enc prog w base (fun _=>true) held m 34 (([c0,c1,c2,c3].drop 3).take (prog.cellsOf 34))=some x1:=hf 1 _ rfl
 rw [aGt] at h0
 rw [aGu] at h1
 obtain ⟨ac,sq,A,n,c,L,e0,hs⟩:=aIC h0
 obtain ⟨S,k,d,sig,e1,hg⟩:=tK h1
 simp only [List.drop_zero,List.drop_succ_cons,List.take_succ_cons,List.take_zero,List.cons.injEq,and_true] at e0 e1
 exact ⟨⟨ac,sq,A,n,c,S,k,d,L,sig⟩,by rw [e0.1,e0.2.1,e0.2.2,e1];rfl,⟨hs,hg⟩⟩
end
theorem aDk {H:Type} {enc:TypeId × Value→H} {W:World} {base b0:Nat} {held:Bool} {v:Value} {d:DataW H} {q:List MemPlace} (hv:Value.okWide prog W .any b0 36 v)
  (h:DataW.Trod enc prog W base (fun _=>true) held 36 v d q):∃ T:TxR,v=.agg (tA T)∧T.ok W:=by
 obtain ⟨fuel,hf⟩:=h
 simp only [Value.okWide,underlying36] at hv
 obtain ⟨cs,rfl,_,_⟩:=hv
 obtain ⟨T,e,hT⟩:=aID hf
 refine ⟨T,?_,hT⟩
 congr 1
 apply Array.toList_inj.1
 exact e
end
section
open Go.RowKit
attribute [local go_sem ↓] Go.wp_at_zero Go.wp_at_succ
theorem lO {P:Program} {t:TypeId} {ops:Array Oper} {o:Oper} {a:Act} {w:World} {K:Act→World→Prop} {Q:Exit→Act→World→Prop} {X:Prop} (hgd:o.guard=none) (s x:Operand) (ho:o.op=.call { callee:=.builtin .append,args:=#[s,x],argTypes:=#[t,t] })
  (vs vx:Value) (hs:a.eval s=vs) (hx:a.eval x=vx) (v':Value) (w':World) (hr:(Builtin.append_ #[t,t] o.type #[vs,vx]).run P w=.ok v' w') (h:K (a.put o.dst v') w'):if Region.wanted o (yielded ops a.tmps)=true then Oper.wp P o a w K Q else X:=by
 have hw:Region.wanted o (yielded ops a.tmps)=true:=di
 rw [if_pos hw]
 unfold Oper.wp execOp
 simp only [ho,resolve,invoke,builtin,Sem.run_bind,Sem.run_pure,Result.andThen_ok,List.map_toArray,List.map_cons,List.map_nil,hs,hx,hr]
 exact h
theorem aHF (base g n c:Nat) (L:List DeR) (i:Nat) (w:World) (h:w.ownsRow base 92 11 (.slice (some ⟨g,0,none⟩) n c) n (gcs L)) (hn:n≤1000000000) (hi:i < n) :
  Calls prog 75 #[.slice (some ⟨g,0,none⟩) n c,.int .i64 (i:Int),.int .i64 ((i+1:Nat):Int)] w (jC w base 92 11 (some ⟨g,0,none⟩) n c (n - 1) (gcs (L.take i ++ L.drop (i+1)))):=by
 obtain ⟨hle,hcap⟩:=eI h
 have HLEN:=zh (show L.length=n from OwnG.len (e:=92) h)
 have HO:=zh h.drew
 obtain ⟨ti,hti,htz,htsz,htby⟩:=Elem.get deE
 have hsrc0:∀ k v,(gcs L)[k]?=some v→w.cell? ⟨g,k,none⟩=some v:=fun k v hv=>by
  exact BT
 have hdl:(gcs (L.drop (i+1))).length=(n - (i+1)) * 11:=sh
 have hfit:i * 11+(n - (i+1)) * 11≤n * 11:=fz
 have hxl:(gcs L).length=n * 11:=by rw [aJ,HLEN.out];rfl
 obtain ⟨ad,had⟩:∃ ad:Addr,(if c=i+1 then ⟨g,0,none⟩ else (⟨g,(i+1) * 11,none⟩:Addr))=ad:=⟨_,rfl⟩
 have hnews:∀ j u,(gcs (L.drop (i+1)))[j]?=some u→w.drew.cell? (ad.add j)=some u:=fun j u hu=>by
  exact AA
 have hrun:=fun ty=>run_append_room_cells (P:=prog) (w:=w.drew) 26 ty 92 ti (Elem.ut deE) hti g 0 i c ad (n - (i+1)) (c - (i+1)) (gcs (L.drop (i+1))) rr hnews (bP _) aa
  (fun j hj=>by rw [htsz,Nat.zero_add,h.drew.cellAt (i * 11+j) aa,List.getElem?_eq_getElem aa];rfl) (fun j hj=>qe)
 rw [htsz,Nat.zero_add,show i+(n - (i+1))=n - 1 by omega] at hrun
 have hsp:=lC (gcs (L.drop (i+1))) (i * 11) w.drew (gcs L) aa h.drew
 obtain ⟨W1,hW1⟩:=gx (w.drew.setCells g (i * 11) (gcs (L.drop (i+1))))
 rw [hW1] at hrun hsp
 have HRUN:=zh hrun
 have HG1:=zh (show w.grownBy W1 (some g) from Grown.trans (Ext.grown ((Ext.refl w).drew') _) hsp.2)
 have HO1:=zh hsp.1
 have HDC:=zh (show (splice (gcs L) (i * 11) (gcs (L.drop (i+1)))).take ((n - 1) * 11)=gcs (L.take i ++ L.drop (i+1)) from by
  have:=tT L (i:=i) gh;rw [HLEN.out] at this;exact this)
 have hcl:=fun ty=>aFU deE ae W1 ty g ((n - 1) * 11) 1 (c - (n - 1)) aa (fun j hj=>by
  have hh:=Nat.mul_le_mul_right 11 (show (n - 1)+1≤n by omega)
  rw [Nat.add_mul] at hh
  rw [HO1.out.cellAt ((n - 1) * 11+j) aa,List.getElem?_eq_getElem (by rw [HO1.out.1];omega)];rfl) (fun j hj=>HO1.out.frozenAt _)
 obtain ⟨xs',o1,o2,o3⟩:=xC (Builtin.zeroCells (Value.agg de0).cells 1).toList ((n - 1) * 11) W1 _ HO1.out
 have HEND:=zh (show (W1.setCells g ((n - 1) * 11) (Builtin.zeroCells (Value.agg de0).cells 1).toList).ownsRow base 92 11 (.slice (some ⟨g,0,none⟩) (n - 1) c) (n - 1) (gcs (L.take i ++ L.drop (i+1))) from by
  have:=vQ o1 (i:=n - 1) aa dr
  rw [o2,HDC.out] at this;exact this)
 have HG2:=zh (Grown.trans HG1.out o3)
 obtain ⟨W2,hW2⟩:=gx (W1.setCells g ((n - 1) * 11) (Builtin.zeroCells (Value.agg de0).cells 1).toList)
 rw [hW2] at hcl HEND HG2
 have HAD:=zh had
 have i0:(0:Int)≤(i:Int):=aa
 have i1:(i:Int)+1≤(n:Int):=aa
 have i2:(n:Int)≤(c:Int):=aa
 have i3:(i:Int)≤(n:Int):=aa
 have i4:¬ c=i:=aa
 have i6:(i:Int)≤(c:Int):=aa
 have i7:¬ n=i:=aa
 have i8:¬ c=n - 1:=aa
 have i9:((n - 1:Nat):Int)≤(n:Int):=aa
 have i10:(0:Int)≤(i:Int)+1:=aa
 have i11:((i:Int)+1).toNat=i+1:=aa
 have i12:¬ (i:Int)+1 < 0:=aa
 have i13:n - (n - 1)=1:=aa
 have HI:=zh hi
 clear h hsrc0 hnews hrun hsp hW1 hW2 o1 o2 o3 hti htz htsz htby hdl hfit hxl had
 go_enter func75,ntmps75
 exact us
theorem aHE (base g n c:Nat) (L:List LkR) (i:Nat) (w:World) (h:w.ownsRow base 81 19 (.slice (some ⟨g,0,none⟩) n c) n (gcs L)) (hn:n≤1000000000) (hi:i < n) :
  Calls prog 133 #[.slice (some ⟨g,0,none⟩) n c,.int .i64 (i:Int),.int .i64 ((i+1:Nat):Int)] w (jC w base 81 19 (some ⟨g,0,none⟩) n c (n - 1) (gcs (L.take i ++ L.drop (i+1)))):=by
 obtain ⟨hle,hcap⟩:=eI h
 have HLEN:=zh (show L.length=n from OwnG.len (e:=81) h)
 have HO:=zh h.drew
 obtain ⟨ti,hti,htz,htsz,htby⟩:=Elem.get lkE
 have hsrc0:∀ k v,(gcs L)[k]?=some v→w.cell? ⟨g,k,none⟩=some v:=fun k v hv=>by
  exact BT
 have hdl:(gcs (L.drop (i+1))).length=(n - (i+1)) * 19:=sh
 have hfit:i * 19+(n - (i+1)) * 19≤n * 19:=fz
 have hxl:(gcs L).length=n * 19:=by rw [aJ,HLEN.out];rfl
 obtain ⟨ad,had⟩:∃ ad:Addr,(if c=i+1 then ⟨g,0,none⟩ else (⟨g,(i+1) * 19,none⟩:Addr))=ad:=⟨_,rfl⟩
 have hnews:∀ j u,(gcs (L.drop (i+1)))[j]?=some u→w.drew.cell? (ad.add j)=some u:=fun j u hu=>by
  exact AA
 have hrun:=fun ty=>run_append_room_cells (P:=prog) (w:=w.drew) 27 ty 81 ti (Elem.ut lkE) hti g 0 i c ad (n - (i+1)) (c - (i+1)) (gcs (L.drop (i+1))) rr hnews (bP _) aa
  (fun j hj=>by rw [htsz,Nat.zero_add,h.drew.cellAt (i * 19+j) aa,List.getElem?_eq_getElem aa];rfl) (fun j hj=>qe)
 rw [htsz,Nat.zero_add,show i+(n - (i+1))=n - 1 by omega] at hrun
 have hsp:=lC (gcs (L.drop (i+1))) (i * 19) w.drew (gcs L) aa h.drew
 obtain ⟨W1,hW1⟩:=gx (w.drew.setCells g (i * 19) (gcs (L.drop (i+1))))
 rw [hW1] at hrun hsp
 have HRUN:=zh hrun
 have HG1:=zh (show w.grownBy W1 (some g) from Grown.trans (Ext.grown ((Ext.refl w).drew') _) hsp.2)
 have HO1:=zh hsp.1
 have HDC:=zh (show (splice (gcs L) (i * 19) (gcs (L.drop (i+1)))).take ((n - 1) * 19)=gcs (L.take i ++ L.drop (i+1)) from by
  have:=tT L (i:=i) gh;rw [HLEN.out] at this;exact this)
 have hcl:=fun ty=>aFU lkE ae W1 ty g ((n - 1) * 19) 1 (c - (n - 1)) aa (fun j hj=>by
  have hh:=Nat.mul_le_mul_right 19 (show (n - 1)+1≤n by omega)
  rw [Nat.add_mul] at hh
  rw [HO1.out.cellAt ((n - 1) * 19+j) aa,List.getElem?_eq_getElem (by rw [HO1.out.1];omega)];rfl) (fun j hj=>HO1.out.frozenAt _)
 obtain ⟨xs',o1,o2,o3⟩:=xC (Builtin.zeroCells (Value.agg lk0).cells 1).toList ((n - 1) * 19) W1 _ HO1.out
 have HEND:=zh (show (W1.setCells g ((n - 1) * 19) (Builtin.zeroCells (Value.agg lk0).cells 1).toList).ownsRow base 81 19 (.slice (some ⟨g,0,none⟩) (n - 1) c) (n - 1) (gcs (L.take i ++ L.drop (i+1))) from by
  have:=vQ o1 (i:=n - 1) aa dr
  rw [o2,HDC.out] at this;exact this)
 have HG2:=zh (Grown.trans HG1.out o3)
 obtain ⟨W2,hW2⟩:=gx (W1.setCells g ((n - 1) * 19) (Builtin.zeroCells (Value.agg lk0).cells 1).toList)
 rw [hW2] at hcl HEND HG2
 have HAD:=zh had
 have i0:(0:Int)≤(i:Int):=aa
 have i1:(i:Int)+1≤(n:Int):=aa
 have i2:(n:Int)≤(c:Int):=aa
 have i3:(i:Int)≤(n:Int):=aa
 have i4:¬ c=i:=aa
 have i6:(i:Int)≤(c:Int):=aa
 have i7:¬ n=i:=aa
 have i8:¬ c=n - 1:=aa
 have i9:((n - 1:Nat):Int)≤(n:Int):=aa
 have i10:(0:Int)≤(i:Int)+1:=aa
 have i11:((i:Int)+1).toNat=i+1:=aa
 have i12:¬ (i:Int)+1 < 0:=aa
 have i13:n - (n - 1)=1:=aa
 have HI:=zh hi
 clear h hsrc0 hnews hrun hsp hW1 hW2 o1 o2 o3 hti htz htsz htby hdl hfit hxl had
 go_enter func133,ntmps133
 exact us
end
end Go.Proofs.YtgmnmjeccfnmbaaGreat
