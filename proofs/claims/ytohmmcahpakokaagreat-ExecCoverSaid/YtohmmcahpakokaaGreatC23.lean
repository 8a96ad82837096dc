/- slices.IndexFunc at entries, locks and names: the first element of which a function value says yes, or -1. -/
import Derived.Deep.Cut
import Derived.ArgAppend
import Derived.Test.YtohmmcahpakokaaGreatC03
import Derived.Test.YtohmmcahpakokaaGreatC22
set_option maxRecDepth 100000
set_option maxHeartbeats 8000000
set_option linter.unusedVariables false
set_option linter.unusedSimpArgs false
namespace Go.Proofs.YtohmmcahpakokaaGreat
open Go.RowKit
attribute [local go_sem ↓] Go.wp_at_zero Go.wp_at_succ
section
variable {α:Type} [RowT α] {q:α→Bool} {L:List α} {r:Int} {n:Nat}
def IxIs (q:α→Bool) (L:List α) (r:Int):Prop:=(r=-1∧∀ k,k < L.length→q (nthG L k)=false) ∨ ∃ k:Nat,r=(k:Int)∧k < L.length∧q (nthG L k)=true∧∀ j,j < k→q (nthG L j)=false
theorem ix_cases (q:α→Bool) (L:List α):(∀ k,k < L.length→q (nthG L k)=false) ∨ ∃ k:Nat,k < L.length∧q (nthG L k)=true∧∀ j,j < k→q (nthG L j)=false:=by
 suffices H:∀ n,n≤L.length→(∀ k,k < n→q (nthG L k)=false) ∨ ∃ k:Nat,k < n∧q (nthG L k)=true∧∀ j,j < k→q (nthG L j)=false from H _ (Nat.le_refl _)
 intro n
 induction n with
 | zero=>intro _;exact .inl (fun k hk=>absurd hk (Nat.not_lt_zero _))
 | succ n ih =>
  intro hn
  rcases ih (by omega) with h | ⟨k,h1,h2,h3⟩
  ·cases hq : q (nthG L n) with
   | false=>exact .inl (fun k hk=>by
     by_cases e:k=n
     ·rw [e];exact hq
     ·exact h k (by omega))
   | true=>exact .inr ⟨n,by omega,hq,h⟩
  ·exact .inr ⟨k,by omega,h2,h3⟩
theorem IxIs.hit (h:IxIs q L r) {k:Nat} (hk:k < L.length) (h1:q (nthG L k)=true) (h2:∀ j,j < k→q (nthG L j)=false):r=(k:Int):=by
 rcases h with ⟨rfl,h⟩ | ⟨m,rfl,hm,h3,h4⟩
 ·rw [h k hk] at h1;cases h1
 ·rcases Nat.lt_trichotomy k m with e | e | e
  ·rw [h4 k e] at h1;cases h1
  ·rw [e]
  ·rw [h2 m e] at h3;cases h3
theorem IxIs.none (h:IxIs q L r) (h2:∀ j,j < L.length→q (nthG L j)=false):r=-1:=by
 rcases h with ⟨rfl,h⟩ | ⟨m,rfl,hm,h3,h4⟩
 ·rfl
 ·rw [h2 m hm] at h3;cases h3
theorem all_next {k:Nat} (h:∀ j,j < k→q (nthG L j)=false) (hk:q (nthG L k)=false):∀ j,j < k+1→q (nthG L j)=false:=fun j hj=>by
 by_cases e:j=k
 ·rw [e];exact hk
 ·exact h j (by omega)
end
structure Says {α:Type} [RowT α] (arr:α→Array Value) (fn:Nat) (caps:Array Value) (q:α→Bool) (w0:World):Prop where
 eg:∀ args w,(callFunc fn args).run Tryz.prog w=.ok (.enter fn args) w
 says:∀ x W,Ext w0 W→RowT.ok x W→Calls Tryz.prog fn (#[.agg (arr x)] ++ caps) W fun e w'=>e=.returned (.bool (q x))∧Ext W w'
theorem Says.at {α:Type} [RowT α] {arr:α→Array Value} {fn:Nat} {caps:Array Value} {q:α→Bool} {w0:World} (h:Says arr fn caps q w0) {w:World} {A:Option Addr} {n c:Nat} {L:List α} (hS:SlG w A n c L) (hE:Ext w0 w) {k:Nat} (hk:k < n) (v:Value) (hv:Value.agg (arr (nthG L k))=v) (b:Bool) (hb:q (nthG L k)=b) :
  Hid (Calls Tryz.prog fn (#[v] ++ caps) w fun e w'=>e=.returned (.bool b)∧Ext w w'):=by
 subst hv;subst hb
 exact zh (h.says _ w hE (hS.nth hk))
theorem ixDe_any {fn:Nat} {caps:Array Value} {q:DeR→Bool} {w0:World} (ht:Says deA fn caps q w0) (w:World) (A:Option Addr) (n c:Nat) (L:List DeR) (h:SlG w A n c L) (hE:Ext w0 w) (r:Int) (hr:IxIs q L r) :
  Calls Tryz.prog 157 #[.slice A n c,.func (.func fn) #[] caps] w fun e w'=>e=.returned (.int .i64 r)∧Ext w w':=by
 have eg:=ht.eg
 have hcap:=h.cap
 have hle:=h.le
 have HT:=zh ht
 have HS:=zh h
 have HE0:=zh hE
 have HR:=zh hr
 have HLEN:=zh h.len
 clear ht h hE hr
 go_enter Tryz.func157,Tryz.ntmps157
 go_wp2_with fail
 go_loopw [8] (fun vi wr=>∃ k:Nat,vi=.int .i64 (k:Int)∧k≤n∧Hid (∀ j,j < k→q (nthG L j)=false)∧Hid (Ext w wr)) (fun i _=>n - (intOf i).toNat)
 case atStart=>exact ⟨0,rfl,Nat.zero_le _,zh (fun j hj=>absurd hj (Nat.not_lt_zero _)),zh (Ext.refl w)⟩
 case round =>
  obtain ⟨k,rfl,hk,HN,HE⟩:=hrel
  by_cases hlt:k < n
  ·have HS2 := zh (HS.out.ext HE.out)
   have HE3:=zh (HE0.out.trans HE.out)
   obtain ⟨b,o,rfl,hrow,-⟩:=HS2.out.at (by omega)
   have i1:(k:Int) < (n:Int):=by omega
   have i0:(0:Int)≤(k:Int):=by omega
   have hr:wr.rangeAt b (o+k * 11) (RowT.enc (nthG L k)):=el_at (k:=k) hrow (by rw [HLEN.out];exact hlt)
   clear hrow
   obtain ⟨vx,hvx⟩:∃ v,Value.agg (deA (nthG L k))=v:=⟨_,rfl⟩
   cases hb:q (nthG L k) with
   | false =>
    have HN2:=zh (all_next HN.out hb)
    have HC:=HT.out.at HS2.out HE3.out hlt vx hvx false hb
    obtain ⟨R,hR⟩:∃ R,nthG L k=R:=⟨_,rfl⟩
    rw [hR] at hr hvx
    have HVX:=zh hvx
    clear hvx hb hR
    go_wp2_with (first | (with_reducible refine wpList_loadG deP rfl (.tmp 14) rfl b (o+k * 11) rfl R vx HVX.out hr ?_))
    refine HC.out.mono ?_
    rintro e w3 ⟨rfl,he3⟩
    have HE2:=zh (HE.out.trans he3)
    clear HC HVX he3 hr HS2 HE3
    go_wp2_with fail
    go_roundw
    case rel=>exact ⟨k+1,by go_num,hlt,HN2,HE2⟩
    case measure=>simp [intOf];omega
   | true =>
    have HQ:=zh (HR.out.hit (by rw [HLEN.out];exact hlt) hb HN.out)
    have HC:=HT.out.at HS2.out HE3.out hlt vx hvx true hb
    obtain ⟨R,hR⟩:∃ R,nthG L k=R:=⟨_,rfl⟩
    rw [hR] at hr hvx
    have HVX:=zh hvx
    clear hvx hb hR
    go_wp2_with (first | (with_reducible refine wpList_loadG deP rfl (.tmp 14) rfl b (o+k * 11) rfl R vx HVX.out hr ?_))
    refine HC.out.mono ?_
    rintro e w3 ⟨rfl,he3⟩
    have HE2:=zh (HE.out.trans he3)
    clear HC HVX he3 hr HS2 HE3
    go_wp2_with fail
    go_ret
    exact ⟨by rw [HQ.out];rfl,HE2.out⟩
  ·have i1 : ¬ (k : Int) < (n : Int) := by omega
   have HQ:=zh (HR.out.none (fun j hj=>HN.out j (by rw [HLEN.out] at hj;omega)))
   go_wp2_with fail
   go_ret
   exact ⟨by rw [HQ.out];rfl,HE.out⟩
theorem ixLk_any {fn:Nat} {caps:Array Value} {q:LkR→Bool} {w0:World} (ht:Says lkA fn caps q w0) (w:World) (A:Option Addr) (n c:Nat) (L:List LkR) (h:SlG w A n c L) (hE:Ext w0 w) (r:Int) (hr:IxIs q L r) :
  Calls Tryz.prog 212 #[.slice A n c,.func (.func fn) #[] caps] w fun e w'=>e=.returned (.int .i64 r)∧Ext w w':=by
 have eg:=ht.eg
 have hcap:=h.cap
 have hle:=h.le
 have HT:=zh ht
 have HS:=zh h
 have HE0:=zh hE
 have HR:=zh hr
 have HLEN:=zh h.len
 clear ht h hE hr
 go_enter Tryz.func212,Tryz.ntmps212
 go_wp2_with fail
 go_loopw [8] (fun vi wr=>∃ k:Nat,vi=.int .i64 (k:Int)∧k≤n∧Hid (∀ j,j < k→q (nthG L j)=false)∧Hid (Ext w wr)) (fun i _=>n - (intOf i).toNat)
 case atStart=>exact ⟨0,rfl,Nat.zero_le _,zh (fun j hj=>absurd hj (Nat.not_lt_zero _)),zh (Ext.refl w)⟩
 case round =>
  obtain ⟨k,rfl,hk,HN,HE⟩:=hrel
  by_cases hlt:k < n
  ·have HS2 := zh (HS.out.ext HE.out)
   have HE3:=zh (HE0.out.trans HE.out)
   obtain ⟨b,o,rfl,hrow,-⟩:=HS2.out.at (by omega)
   have i1:(k:Int) < (n:Int):=by omega
   have i0:(0:Int)≤(k:Int):=by omega
   have hr:wr.rangeAt b (o+k * 19) (RowT.enc (nthG L k)):=el_at (k:=k) hrow (by rw [HLEN.out];exact hlt)
   clear hrow
   obtain ⟨vx,hvx⟩:∃ v,Value.agg (lkA (nthG L k))=v:=⟨_,rfl⟩
   cases hb:q (nthG L k) with
   | false =>
    have HN2:=zh (all_next HN.out hb)
    have HC:=HT.out.at HS2.out HE3.out hlt vx hvx false hb
    obtain ⟨R,hR⟩:∃ R,nthG L k=R:=⟨_,rfl⟩
    rw [hR] at hr hvx
    have HVX:=zh hvx
    clear hvx hb hR
    go_wp2_with (first | (with_reducible refine wpList_loadG lkP rfl (.tmp 14) rfl b (o+k * 19) rfl R vx HVX.out hr ?_))
    refine HC.out.mono ?_
    rintro e w3 ⟨rfl,he3⟩
    have HE2:=zh (HE.out.trans he3)
    clear HC HVX he3 hr HS2 HE3
    go_wp2_with fail
    go_roundw
    case rel=>exact ⟨k+1,by go_num,hlt,HN2,HE2⟩
    case measure=>simp [intOf];omega
   | true =>
    have HQ:=zh (HR.out.hit (by rw [HLEN.out];exact hlt) hb HN.out)
    have HC:=HT.out.at HS2.out HE3.out hlt vx hvx true hb
    obtain ⟨R,hR⟩:∃ R,nthG L k=R:=⟨_,rfl⟩
    rw [hR] at hr hvx
    have HVX:=zh hvx
    clear hvx hb hR
    go_wp2_with (first | (with_reducible refine wpList_loadG lkP rfl (.tmp 14) rfl b (o+k * 19) rfl R vx HVX.out hr ?_))
    refine HC.out.mono ?_
    rintro e w3 ⟨rfl,he3⟩
    have HE2:=zh (HE.out.trans he3)
    clear HC HVX he3 hr HS2 HE3
    go_wp2_with fail
    go_ret
    exact ⟨by rw [HQ.out];rfl,HE2.out⟩
  ·have i1 : ¬ (k : Int) < (n : Int) := by omega
   have HQ:=zh (HR.out.none (fun j hj=>HN.out j (by rw [HLEN.out] at hj;omega)))
   go_wp2_with fail
   go_ret
   exact ⟨by rw [HQ.out];rfl,HE.out⟩
theorem ixNm_any {fn:Nat} {caps:Array Value} {q:UInt64→Bool} {w0:World} (ht:Says nmc fn caps q w0) (w:World) (A:Option Addr) (n c:Nat) (L:List UInt64) (h:SlG w A n c L) (hE:Ext w0 w) (r:Int) (hr:IxIs q L r) :
  Calls Tryz.prog 164 #[.slice A n c,.func (.func fn) #[] caps] w fun e w'=>e=.returned (.int .i64 r)∧Ext w w':=by
 have eg:=ht.eg
 have hcap:=h.cap
 have hle:=h.le
 have HT:=zh ht
 have HS:=zh h
 have HE0:=zh hE
 have HR:=zh hr
 have HLEN:=zh h.len
 clear ht h hE hr
 go_enter Tryz.func164,Tryz.ntmps164
 go_wp2_with fail
 go_loopw [8] (fun vi wr=>∃ k:Nat,vi=.int .i64 (k:Int)∧k≤n∧Hid (∀ j,j < k→q (nthG L j)=false)∧Hid (Ext w wr)) (fun i _=>n - (intOf i).toNat)
 case atStart=>exact ⟨0,rfl,Nat.zero_le _,zh (fun j hj=>absurd hj (Nat.not_lt_zero _)),zh (Ext.refl w)⟩
 case round =>
  obtain ⟨k,rfl,hk,HN,HE⟩:=hrel
  by_cases hlt:k < n
  ·have HS2 := zh (HS.out.ext HE.out)
   have HE3:=zh (HE0.out.trans HE.out)
   obtain ⟨b,o,rfl,hrow,-⟩:=HS2.out.at (by omega)
   have i1:(k:Int) < (n:Int):=by omega
   have i0:(0:Int)≤(k:Int):=by omega
   have hr:wr.rangeAt b (o+k * 8) (RowT.enc (nthG L k)):=el_at (k:=k) hrow (by rw [HLEN.out];exact hlt)
   clear hrow
   obtain ⟨vx,hvx⟩:∃ v,Value.agg (nmc (nthG L k))=v:=⟨_,rfl⟩
   cases hb:q (nthG L k) with
   | false =>
    have HN2:=zh (all_next HN.out hb)
    have HC:=HT.out.at HS2.out HE3.out hlt vx hvx false hb
    obtain ⟨R,hR⟩:∃ R,nthG L k=R:=⟨_,rfl⟩
    rw [hR] at hr hvx
    have HVX:=zh hvx
    clear hvx hb hR
    go_wp2_with (first | (with_reducible refine wpList_loadG nmP rfl (.tmp 14) rfl b (o+k * 8) rfl R vx HVX.out hr ?_))
    refine HC.out.mono ?_
    rintro e w3 ⟨rfl,he3⟩
    have HE2:=zh (HE.out.trans he3)
    clear HC HVX he3 hr HS2 HE3
    go_wp2_with fail
    go_roundw
    case rel=>exact ⟨k+1,by go_num,hlt,HN2,HE2⟩
    case measure=>simp [intOf];omega
   | true =>
    have HQ:=zh (HR.out.hit (by rw [HLEN.out];exact hlt) hb HN.out)
    have HC:=HT.out.at HS2.out HE3.out hlt vx hvx true hb
    obtain ⟨R,hR⟩:∃ R,nthG L k=R:=⟨_,rfl⟩
    rw [hR] at hr hvx
    have HVX:=zh hvx
    clear hvx hb hR
    go_wp2_with (first | (with_reducible refine wpList_loadG nmP rfl (.tmp 14) rfl b (o+k * 8) rfl R vx HVX.out hr ?_))
    refine HC.out.mono ?_
    rintro e w3 ⟨rfl,he3⟩
    have HE2:=zh (HE.out.trans he3)
    clear HC HVX he3 hr HS2 HE3
    go_wp2_with fail
    go_ret
    exact ⟨by rw [HQ.out];rfl,HE2.out⟩
  ·have i1 : ¬ (k : Int) < (n : Int) := by omega
   have HQ:=zh (HR.out.none (fun j hj=>HN.out j (by rw [HLEN.out] at hj;omega)))
   go_wp2_with fail
   go_ret
   exact ⟨by rw [HQ.out];rfl,HE.out⟩
end Go.Proofs.YtohmmcahpakokaaGreat
namespace Go.Proofs.YtohmmcahpakokaaGreat
open Go.RowKit
theorem bv_has (g:Int) {k:Nat} (hk:k≤9):(BitVec.ofInt 64 g).getLsbD k=hasM g k:=by
 have h1:(BitVec.ofInt 64 g).toNat=(g % 2 ^ 64).toNat:=by simp [BitVec.toNat_ofInt]
 show (BitVec.ofInt 64 g).toNat.testBit k=_
 rw [Nat.testBit_eq_decide_div_mod_eq,h1]
 unfold hasM
 have h2:(0:Int)≤g % 2 ^ 64:=Int.emod_nonneg _ (by decide)
 apply decide_eq_decide.2
 obtain rfl | rfl | rfl | rfl | rfl | rfl | rfl | rfl | rfl | rfl:k=0 ∨ k=1 ∨ k=2 ∨ k=3 ∨ k=4 ∨ k=5 ∨ k=6 ∨ k=7 ∨ k=8 ∨ k=9:=by omega
 all_goals omega
theorem bv_pow {k:Nat} (hk:k≤9):BitVec.ofInt 64 ((2:Int) ^ k)=BitVec.twoPow 64 k:=by
 obtain rfl | rfl | rfl | rfl | rfl | rfl | rfl | rfl | rfl | rfl:k=0 ∨ k=1 ∨ k=2 ∨ k=3 ∨ k=4 ∨ k=5 ∨ k=6 ∨ k=7 ∨ k=8 ∨ k=9:=by omega
 all_goals rfl
theorem bits_and_pow (g:Int) {k:Nat} (hk:k≤9):bits .and .i64 g (2 ^ k)=if hasM g k=true then 2 ^ k else 0:=by
 show IntKind.i64.wrap ((BitVec.ofInt 64 g &&& BitVec.ofInt 64 (2 ^ k)).toNat:Int)=_
 rw [bv_pow hk,BitVec.and_twoPow,bv_has g hk]
 by_cases h:hasM g k=true
 ·rw [if_pos h, if_pos h]
  obtain rfl | rfl | rfl | rfl | rfl | rfl | rfl | rfl | rfl | rfl:k=0 ∨ k=1 ∨ k=2 ∨ k=3 ∨ k=4 ∨ k=5 ∨ k=6 ∨ k=7 ∨ k=8 ∨ k=9:=by omega
  all_goals rfl
 ·rw [if_neg h,if_neg h];rfl
theorem wfI_addM {G:Int} (h:wfI G) {k:Nat} (hk:k≤9):wfI (addM G k):=by
 unfold addM hasM
 by_cases h1:G / 2 ^ k % 2=1
 ·rw [if_pos (by simpa using h1)];exact h
 ·rw [if_neg (by simpa using h1)]
  rw [wfI_in] at *
  unfold in64 at *
  obtain rfl | rfl | rfl | rfl | rfl | rfl | rfl | rfl | rfl | rfl:k=0 ∨ k=1 ∨ k=2 ∨ k=3 ∨ k=4 ∨ k=5 ∨ k=6 ∨ k=7 ∨ k=8 ∨ k=9:=by omega
  all_goals omega
theorem bits_or_pow {g:Int} (hg:wfI g) {k:Nat} (hk:k≤9):bits .or .i64 g (2 ^ k)=addM g k:=by
 have hw:∀ z:Int,wfI z→IntKind.i64.wrap (((BitVec.ofInt 64 z).toNat:Nat):Int)=z:=by
  intro z hz
  have h1:(((BitVec.ofInt 64 z).toNat:Nat):Int)=z % 2 ^ 64:=by
   rw [BitVec.toNat_ofInt]
   exact Int.toNat_of_nonneg (Int.emod_nonneg _ (by decide))
  rw [h1]
  rw [wfI_in] at hz
  unfold in64 at hz
  rw [IntKind.wrap_i64]
  omega
 show IntKind.i64.wrap ((BitVec.ofInt 64 g ||| BitVec.ofInt 64 (2 ^ k)).toNat:Int)=_
 have h0:=bv_has g hk
 unfold addM
 by_cases h:hasM g k=true
 ·rw [if_pos h]
  have:BitVec.ofInt 64 g ||| BitVec.ofInt 64 (2 ^ k)=BitVec.ofInt 64 g:=by
   rw [bv_pow hk]
   apply BitVec.eq_of_getLsbD_eq
   intro i hi
   rw [BitVec.getLsbD_or,BitVec.getLsbD_twoPow]
   by_cases e:k=i
   ·subst e;rw [h0,h];rfl
   ·simp [e]
  rw [this];exact hw g hg
 ·rw [if_neg h]
  have h2:hasM g k=false:=by simpa using h
  have:BitVec.ofInt 64 g ||| BitVec.ofInt 64 (2 ^ k)=BitVec.ofInt 64 (g+2 ^ k):=by
   rw [BitVec.ofInt_add]
   refine (BitVec.add_eq_or_of_and_eq_zero _ _ ?_).symm
   rw [bv_pow hk,BitVec.and_twoPow,h0,h2];rfl
  rw [this]
  refine hw _ ?_
  have:=wfI_addM hg hk
  unfold addM at this;rwa [if_neg h] at this
end Go.Proofs.YtohmmcahpakokaaGreat
namespace Go.Proofs.YtohmmcahpakokaaGreat
open Go.RowKit
attribute [local go_sem ↓] Go.wp_at_zero Go.wp_at_succ
theorem sigU_in (seed m:UInt64) {sq:Int} (h0:0≤sq) (h1:sq≤31):sigU seed 1 sq m=some (sig1 seed sq.toNat m):=by
 unfold sigU
 rw [if_pos ⟨rfl,h0,by omega⟩]
theorem SlB.grown {w w':World} {A:Option Addr} {n c X:Nat} {l:List UInt8} {ac sq:Int} {A1 A2:Option Addr} {n1 c1 n2 c2:Nat} {t:TypeId} (h:SlB w A n c l) (hg:w.grownBy w' (some X)) (hb:Blk w X t (stA ac sq A1 n1 c1 A2 n2 c2)):SlB w' A n c l:=by
 refine ⟨h.len,h.le,h.cap,?_⟩
 by_cases hx:bcs l=[]
 ·exact .inl hx
 ·obtain ⟨b, o, e, hr, hlt⟩ := h.rd.at hx
  refine .inr ⟨b,o,e,rangeAt_keep hr (hg.block b hlt ?_)⟩
  intro e2
  injection e2 with e2
  subst e2
  cases l with
  | nil=>exact hx rfl
  | cons x r =>
   have h0:=hr 0 (bv x) rfl
   rw [Nat.add_zero,hb.cell o] at h0
   match o,h0 with
   | 0,h0=>simp [bv] at h0
   | 1,h0=>simp [bv] at h0
   | 2,h0=>simp [bv] at h0
   | 3,h0=>simp [bv] at h0
   | o+4,h0=>simp at h0
def SgOut (w:World) (seed:UInt64) (ac sq:Int) (L:List OpR) (e:Ending) (w':World):Prop :=
 Ext w w'∧((vTx ac sq L=false∧e=.returned (.tuple #[.agg zero4,.int .i64 1])) ∨ (vTx ac sq L=true∧∃ T:TxR,e=.returned (.tuple #[.agg (tA T),.int .i64 0])∧T.ok w'∧T.v=(ac,sq,L.map OpR.v,sig1 seed sq.toNat (txNm ac sq L))))
end Go.Proofs.YtohmmcahpakokaaGreat
namespace Go.Proofs.YtohmmcahpakokaaGreat
open Go.RowKit
def chkO (na nv:Nat) (ht:Int) (H:List UInt8→UInt64) (ev:OpR→Bool) (ac:Int) (R:OpR) (S:StV):Int :=
 if R.k=3 then match fdK S.K R.lk with
  | none=>6
  | some l=>if R.tO ≠ l.tO ∨ R.am ≠ getC S.C (lckC R.lk) then 7 else if H R.pre ≠ l.hs then 12 else if l.ul≤ht then 102 else 0
 else if R.k=4 then match fdK S.K R.lk with
  | none=>6
  | some l=>if R.tO ≠ l.ow ∨ R.am ≠ getC S.C (lckC R.lk) then 7 else if ht < l.ul then 102 else 0
 else if R.k=6 then (if (nv:Int)≤R.va then 1 else if hasM S.G R.va.toNat=true then 7 else if ev R=true then 0 else 12)
 else if R.k=5∧(nv:Int)≤R.va then 1
 else if R.k=5∧hasM S.G R.va.toNat=true then 7
 else if R.k ≠ 5∧(na:Int)≤R.tO then 1
 else if R.k=2∧R.ul≤ht then 102
 else if getC S.C (balC ac) < R.am then 100 else 0
def errN (chk:OpR→StV→Int) (ac sq:Int) (L:List OpR) (S:StV):Nat→Int
 | 0=>0
 | n+1=>if errN chk ac sq L S n ≠ 0 then errN chk ac sq L S n else chk (nthO L n) (doN ac sq L S n)
theorem errN_stay {chk:OpR→StV→Int} {ac sq:Int} {L:List OpR} {S:StV} {k:Nat} (h:errN chk ac sq L S k ≠ 0):∀ n,k≤n→errN chk ac sq L S n=errN chk ac sq L S k:=by
  intro n
  induction n with
  | zero => intro hk; have : k = 0 := by omega
            subst this;rfl
  | succ n ih =>
    intro hk
    by_cases e:k=n+1
    · subst e;rfl
    · have e1 := ih (by omega)
      show (if _ then _ else _)=_
      rw [if_pos (by rw [e1];exact h),e1]
end Go.Proofs.YtohmmcahpakokaaGreat
namespace Go.Proofs.YtohmmcahpakokaaGreat
open Go.RowKit
attribute [local go_sem ↓] Go.wp_at_zero Go.wp_at_succ
theorem ssA_all (s:StR):(ssA s).all (·.oneCell')=true:=by simp [Value.oneCell']
section
variable {ops:Array Oper} {o:Oper} {a:Act} {w:World} {K:Act→World→Prop} {Q:Exit→Act→World→Prop} {X:Prop}
theorem step_storeSs (hgd:o.guard=none) (x y:Operand) (ho:o.op=.store 44 x y) (g:Nat) (v:Value) (s:StR) (hv:Value.agg (ssA s)=v) (hx:a.eval x=.pointer (some ⟨g,0,none⟩)) (hy:a.eval y=v) {z:StR} (hb:Blk w g 44 (ssA z))
  (h:∀ W,Hid (w.setCells g 0 (ssA s).toList=W∧Blk W g 44 (ssA s))→K (a.put o.dst undef) W):if Region.wanted o (yielded ops a.tmps)=true then Oper.wp Tryz.prog o a w K Q else X:=by
 have hw:Region.wanted o (yielded ops a.tmps)=true:=by simp [Region.wanted,hgd]
 rw [if_pos hw]
 exact wp_store_mid (P:=Tryz.prog) (Q:=Q) (op:=o) (K:=K) 44 x y ho g 0 (ssA s) hx (by rw [hy,hv]) (show w.there g 0 (ssA z).size from there_of_blk hb) (by kernel_rfl) (ssA_all s) (h _ (zh ⟨rfl,blk_whole (ds:=ssA s) hb rfl⟩))
end
theorem stClone_any (s:StR) (w:World) (h:s.ok w) (hn:s.n1≤1000000∧s.n2≤1000000∧s.n3≤1000000∧s.n4≤1000000):Calls Tryz.prog 51 #[.agg (ssA s)] w (StOut w s.V):=by
 have HP:=zh (show Blk ((w.alloc (.cells (ssA s) 44)).alloc (.cells (ssA ss0) 44)).drew w.heap.size 44 (ssA s) from ((Blk.new w 44 (ssA s)).alloc _).drew)
 have HZ:=zh (show Blk ((w.alloc (.cells (ssA s) 44)).alloc (.cells (ssA ss0) 44)).drew (w.heap.size+1) 44 (ssA ss0) from Blk.drew (Blk.newAt _ _ _ _ (by simp)))
 have HEW:=zh (show Ext w ((w.alloc (.cells (ssA s) 44)).alloc (.cells (ssA ss0) 44)).drew from (((Ext.refl w).alloc' _).alloc' _).drew')
 have HS:=zh (h.ext HEW.out)
 have HW:=zh HEW.out.size
 have HO:=zh h
 have hn1:s.n1≤1000000000:=by omega
 have hn2:s.n2≤1000000000:=by omega
 have hn3:s.n3≤1000000000:=by omega
 have hn4:s.n4≤1000000000:=by omega
 clear h hn
 go_enter Tryz.func51,Tryz.ntmps51
 go_wp2_with fail
 refine wp_region_held_drew (S:=fun W=>Blk W w.heap.size 44 (ssA s)∧(∃ z,Blk W (w.heap.size+1) 44 (ssA z))∧Ext w W) (by kernel_rfl) (⟨HP.out,⟨ss0,HZ.out⟩,HEW.out⟩) (fun hHeld=>?_)
 refine zz0 [0,1,3,4,6,7,9,10,12,13] ?_;repeat first | refine zz1 ?_ (hy:=by intro W hSW;obtain ⟨c0,c1,c2,c3,c4⟩:=ss_facts hSW.1;go_simp <;> with_reducible rfl) | refine zz2 ?_ | refine zz9 ?_
 refine zzj (VV 2 (fun v W=>∃ A c,v=.slice A s.n1 c∧W.ownsRow w.heap.size 34 11 (.slice A s.n1 c) s.n1 (gcs s.C)) (VV 5 (fun v W=>∃ A c,v=.slice A s.n2 c∧W.ownsRow w.heap.size 3 1 (.slice A s.n2 c) s.n2 (gcs s.Q)) (VV 8 (fun v W=>∃ A c,v=.slice A s.n3 c∧W.ownsRow w.heap.size 94 19 (.slice A s.n3 c) s.n3 (gcs s.K)) (VV 11 (fun v W=>∃ A c,v=.slice A s.n4 c∧W.ownsRow w.heap.size 30 8 (.slice A s.n4 c) s.n4 (gcs s.P)) VN)))) [(2,some 5),(5,some 8),(8,some 11),(11,some 14)] 2 (fun W W' h e=>⟨h.1.ext e,(by obtain ⟨z,hz⟩:=h.2.1;exact ⟨z,hz.ext e⟩),h.2.2.trans e⟩) (VV.ext (fun v w w' ⟨A,c,h1,h2⟩ e=>⟨A,c,h1,own_ext h2 e⟩) (VV.ext (fun v w w' ⟨A,c,h1,h2⟩ e=>⟨A,c,h1,own_ext h2 e⟩) (VV.ext (fun v w w' ⟨A,c,h1,h2⟩ e=>⟨A,c,h1,own_ext h2 e⟩) (VV.ext (fun v w w' ⟨A,c,h1,h2⟩ e=>⟨A,c,h1,own_ext h2 e⟩) VN.ext)))) (zzc ?_ (zzc ?_ (zzc ?_ (zzc ?_ zzn)))) ?_
 ·refine zzp fun W hE hS K hK => ?_
  go_simp
  go_at_call 90
  refine (cloneDe_any s.A1 s.n1 s.c1 s.C _ (HO.out.ext hS.2.2).s1 hn1).mono ?_
  rintro e w5 ⟨A5,c5,rfl,ho5,he5⟩
  exact zzK (hK.out (.slice A5 s.n1 c5) _ (he5) (⟨A5,c5,rfl,own_mono ho5 (Nat.le_trans HW.out hE.size)⟩))
 ·refine zzp fun W hE hS K hK => ?_
  go_simp
  go_at_call 91
  refine (cloneIn_any s.A2 s.n2 s.c2 s.Q _ (HO.out.ext hS.2.2).s2 hn2).mono ?_
  rintro e w5 ⟨A5,c5,rfl,ho5,he5⟩
  exact zzK (hK.out (.slice A5 s.n2 c5) _ (he5) (⟨A5,c5,rfl,own_mono ho5 (Nat.le_trans HW.out hE.size)⟩))
 ·refine zzp fun W hE hS K hK => ?_
  go_simp
  go_at_call 92
  refine (cloneLk_any s.A3 s.n3 s.c3 s.K _ (HO.out.ext hS.2.2).s3 hn3).mono ?_
  rintro e w5 ⟨A5,c5,rfl,ho5,he5⟩
  exact zzK (hK.out (.slice A5 s.n3 c5) _ (he5) (⟨A5,c5,rfl,own_mono ho5 (Nat.le_trans HW.out hE.size)⟩))
 ·refine zzp fun W hE hS K hK => ?_
  go_simp
  go_at_call 93
  refine (cloneNm_any s.A4 s.n4 s.c4 s.P _ (HO.out.ext hS.2.2).s4 hn4).mono ?_
  rintro e w5 ⟨A5,c5,rfl,ho5,he5⟩
  exact zzK (hK.out (.slice A5 s.n4 c5) _ (he5) (⟨A5,c5,rfl,own_mono ho5 (Nat.le_trans HW.out hE.size)⟩))
 ·intro env W hE hS hV
  obtain ⟨h2,h5,h8,h11,-⟩:=zzV hV
  clear hV
  simp only [layj]
  generalize env 2=x2 at h2 ⊢
  generalize env 5=x5 at h5 ⊢
  generalize env 8=x8 at h8 ⊢
  generalize env 11=x11 at h11 ⊢
  obtain ⟨A1,c1,rfl,k1⟩:=h2
  obtain ⟨A2,c2,rfl,k2⟩:=h5
  obtain ⟨A3,c3,rfl,k3⟩:=h8
  obtain ⟨A4,c4,rfl,k4⟩:=h11
  have HK1:=zh k1
  have HK2:=zh k2
  have HK3:=zh k3
  have HK4:=zh k4
  clear k1 k2 k3 k4
  have hHeld:=hS
  refine zt 14 hHeld ?_
  refine za 15 (fun K hK=>?_)
  (obtain ⟨z6,hz6⟩:=hHeld.2.1;refine step_storeSs rfl (.tmp 2) (.tmp 17) (by rfl) (w.heap.size+1) (.agg (ssA ⟨A1,s.n1,c1,s.C,A2,s.n2,c2,s.Q,A3,s.n3,c3,s.K,A4,s.n4,c4,s.P,s.G⟩)) ⟨A1,s.n1,c1,s.C,A2,s.n2,c2,s.Q,A3,s.n3,c3,s.K,A4,s.n4,c4,s.P,s.G⟩ rfl (by rfl) (by rfl) hz6 ?_;intro W6 h6)
  refine hK.out _ _ (⟨hHeld.1.grown (by rw [← h6.out.1];exact grown_setCells' _ _ _ _) (fun e=>by injection e;omega),⟨_,h6.out.2⟩,by rw [← h6.out.1];exact Below.setCells' hHeld.2.2 (Nat.le_succ _) _ _⟩) (fun hHeld=>?_)
  clear hK K
  try simp only [lays]
  refine wpAnyH_done (by kernel_rfl) ?_ _
  have hst:=h6.out.2
  have HOW:=zh (show OwnS W6 w.heap.size ⟨A1,s.n1,c1,s.C,A2,s.n2,c2,s.Q,A3,s.n3,c3,s.K,A4,s.n4,c4,s.P,s.G⟩ from by
   refine OwnS.kept (X:=w.heap.size+1) ⟨HK1.out,HK2.out,HK3.out,HK4.out,HO.out.s1.ok,HO.out.s2.ok,HO.out.s3.ok,HO.out.g⟩ (by rw [← h6.out.1];exact grown_setCells' _ _ _ _) hz6 (by decide) (by decide) (by decide) (by decide))
  have HX:=zh hHeld.2.2
  clear h6 hz6 hS hE hHeld
  go_wp2_with fail
  exact bodyPost_ret (v:=.agg (ssA ⟨A1,s.n1,c1,s.C,A2,s.n2,c2,s.Q,A3,s.n3,c3,s.K,A4,s.n4,c4,s.P,s.G⟩)) (retC rfl _ _ (w.heap.size+1) _ rfl (run_loadVar_row _ _ _ _ _ (0,0) _ hst Tryz.underlying44 rfl (by kernel_rfl))) rfl ⟨_,rfl,HOW.out,rfl,HX.out⟩
end Go.Proofs.YtohmmcahpakokaaGreat
