/- slices.IndexFunc at entries, locks and names: the first element of which a function value says yes, or -1. -/
import Derived.ArgAppend
import Derived.Test.YtohmmcahpakokaaGreatH21
set_option maxRecDepth 100000
set_option maxHeartbeats 8000000
set_option linter.unusedVariables false
set_option linter.unusedSimpArgs false
namespace Go.Proofs.YtohmmcahpakokaaGreat
section
open Go.RowKit
attribute [local go_sem ↓] Go.wp_at_zero Go.wp_at_succ
section
variable {α:Type} [RowT α] {q:α→Bool} {L:List α} {r:Int} {n:Nat}
def IxIs (q:α→Bool) (L:List α) (r:Int):Prop:=(r=-1∧∀ k,k < L.length→q (aM L k)=false) ∨ ∃ k:Nat,r=(k:Int)∧k < L.length∧q (aM L k)=true∧∀ j,j < k→q (aM L j)=false
theorem jA (q:α→Bool) (L:List α):(∀ k,k < L.length→q (aM L k)=false) ∨ ∃ k:Nat,k < L.length∧q (aM L k)=true∧∀ j,j < k→q (aM L j)=false:=by
 suffices H:∀ n,n≤L.length→(∀ k,k < n→q (aM L k)=false) ∨ ∃ k:Nat,k < n∧q (aM L k)=true∧∀ j,j < k→q (aM L j)=false from H _ (Nat.le_refl _)
 intro n
 induction n with
 | zero=>intro _;exact .inl (fun k hk=>absurd hk (Nat.not_lt_zero _))
 | succ n ih =>
  intro hn
  rcases ih (by omega) with h | ⟨k,h1,h2,h3⟩
  ·cases hq : q (aM L n) with
   | false=>exact .inl (fun k hk=>by
     by_cases e:k=n
     ·rw [e];exact hq
     exact h k (by omega))
   | true=>exact .inr ⟨n,by omega,hq,h⟩
  exact .inr ⟨k,by omega,h2,h3⟩
theorem IxIs.hit (h:IxIs q L r) {k:Nat} (hk:k < L.length) (h1:q (aM L k)=true) (h2:∀ j,j < k→q (aM L j)=false):r=(k:Int):=by
 rcases h with ⟨rfl,h⟩ | ⟨m,rfl,hm,h3,h4⟩
 ·rw [h k hk] at h1;cases h1
 rcases Nat.lt_trichotomy k m with e | e | e
 ·rw [h4 k e] at h1;cases h1
 ·rw [e]
 rw [h2 m e] at h3;cases h3
theorem IxIs.none (h:IxIs q L r) (h2:∀ j,j < L.length→q (aM L j)=false):r=-1:=by
 rcases h with ⟨rfl,h⟩ | ⟨m,rfl,hm,h3,h4⟩
 ·rfl
 rw [h2 m hm] at h3;cases h3
theorem vW {k:Nat} (h:∀ j,j < k→q (aM L j)=false) (hk:q (aM L k)=false):∀ j,j < k+1→q (aM L j)=false:=fun j hj=>by
 by_cases e:j=k
 ·rw [e];exact hk
 exact h j (by omega)
end
structure Says {α:Type} [RowT α] (arr:α→Array Value) (fn:Nat) (caps:Array Value) (q:α→Bool) (w0:World):Prop where
 eg:∀ args w,(callFunc fn args).run Tryz.prog w=.ok (.enter fn args) w
 says:∀ x W,Ext w0 W→RowT.ok x W→Calls Tryz.prog fn (#[.agg (arr x)] ++ caps) W fun e w'=>e=.returned (.bool (q x))∧Ext W w'
theorem Says.at {α:Type} [RowT α] {arr:α→Array Value} {fn:Nat} {caps:Array Value} {q:α→Bool} {w0:World} (h:Says arr fn caps q w0) {w:World} {A:Option Addr} {n c:Nat} {L:List α} (hS:SlG w A n c L) (hE:Ext w0 w) {k:Nat} (hk:k < n) (v:Value) (hv:Value.agg (arr (aM L k))=v) (b:Bool) (hb:q (aM L k)=b) :
  Hid (Calls Tryz.prog fn (#[v] ++ caps) w fun e w'=>e=.returned (.bool b)∧Ext w w'):=by
 subst hv;subst hb
 exact zh (h.says _ w hE (hS.nth hk))
theorem uV {fn:Nat} {caps:Array Value} {q:DeR→Bool} {w0:World} (ht:Says deA fn caps q w0) (w:World) (A:Option Addr) (n c:Nat) (L:List DeR) (h:SlG w A n c L) (hE:Ext w0 w) (r:Int) (hr:IxIs q L r) :
  Calls Tryz.prog 157 #[.slice A n c,.func (.func fn) #[] caps] w fun e w'=>e=.returned (.int .i64 r)∧Ext w w':=by
 have eg:=ht.eg
 have hcap:=h.cap
 have hle:=h.le
 have HT:=zh ht
 have HS:=zh h
 have HE0:=zh hE
 have HR:=zh hr
 have HLEN:=zh h.len
 clear ht h hE hr
 go_enter Tryz.func157,Tryz.ntmps157
 go_wp2_with fail
 go_loopw [8] (fun vi wr=>∃ k:Nat,vi=.int .i64 (k:Int)∧k≤n∧Hid (∀ j,j < k→q (aM L j)=false)∧Hid (Ext w wr)) (fun i _=>n - (intOf i).toNat)
 case atStart=>exact ⟨0,rfl,Nat.zero_le _,zh (fun j hj=>absurd hj (Nat.not_lt_zero _)),zh (Ext.refl w)⟩
 case round =>
  obtain ⟨k,rfl,hk,HN,HE⟩:=hrel
  by_cases hlt:k < n
  ·have HS2 := zh (HS.out.ext HE.out)
   have HE3:=zh (HE0.out.trans HE.out)
   obtain ⟨b,o,rfl,hrow,-⟩:=HS2.out.at (by omega)
   have i1:(k:Int) < (n:Int):=by omega
   have i0:(0:Int)≤(k:Int):=by omega
   have hr:wr.rangeAt b (o+k * 11) (RowT.enc (aM L k)):=cP (k:=k) hrow (by rw [HLEN.out];exact hlt)
   clear hrow
   obtain ⟨vx,hvx⟩:∃ v,Value.agg (deA (aM L k))=v:=⟨_,rfl⟩
   cases hb:q (aM L k) with
   | false =>
    have HN2:=zh (vW HN.out hb)
    have HC:=HT.out.at HS2.out HE3.out hlt vx hvx false hb
    obtain ⟨R,hR⟩:∃ R,aM L k=R:=⟨_,rfl⟩
    rw [hR] at hr hvx
    have HVX:=zh hvx
    clear hvx hb hR
    go_wp2_with (first | (with_reducible refine aC deP rfl (.tmp 14) rfl b (o+k * 11) rfl R vx HVX.out hr ?_))
    refine HC.out.mono ?_
    rintro e w3 ⟨rfl,he3⟩
    have HE2:=zh (HE.out.trans he3)
    clear HC HVX he3 hr HS2 HE3
    go_wp2_with fail
    go_roundw
    case rel=>exact ⟨k+1,by go_num,hlt,HN2,HE2⟩
    case measure=>simp [intOf];omega
   | true =>
    have HQ:=zh (HR.out.hit (by rw [HLEN.out];exact hlt) hb HN.out)
    have HC:=HT.out.at HS2.out HE3.out hlt vx hvx true hb
    obtain ⟨R,hR⟩:∃ R,aM L k=R:=⟨_,rfl⟩
    rw [hR] at hr hvx
    have HVX:=zh hvx
    clear hvx hb hR
    go_wp2_with (first | (with_reducible refine aC deP rfl (.tmp 14) rfl b (o+k * 11) rfl R vx HVX.out hr ?_))
    refine HC.out.mono ?_
    rintro e w3 ⟨rfl,he3⟩
    have HE2:=zh (HE.out.trans he3)
    clear HC HVX he3 hr HS2 HE3
    go_wp2_with fail
    go_ret
    exact ⟨by rw [HQ.out];rfl,HE2.out⟩
  have i1:¬ (k:Int) < (n:Int):=by omega
  have HQ:=zh (HR.out.none (fun j hj=>HN.out j (by rw [HLEN.out] at hj;omega)))
  go_wp2_with fail
  go_ret
  exact ⟨by rw [HQ.out];rfl,HE.out⟩
theorem uU {fn:Nat} {caps:Array Value} {q:LkR→Bool} {w0:World} (ht:Says lkA fn caps q w0) (w:World) (A:Option Addr) (n c:Nat) (L:List LkR) (h:SlG w A n c L) (hE:Ext w0 w) (r:Int) (hr:IxIs q L r) :
  Calls Tryz.prog 212 #[.slice A n c,.func (.func fn) #[] caps] w fun e w'=>e=.returned (.int .i64 r)∧Ext w w':=by
 have eg:=ht.eg
 have hcap:=h.cap
 have hle:=h.le
 have HT:=zh ht
 have HS:=zh h
 have HE0:=zh hE
 have HR:=zh hr
 have HLEN:=zh h.len
 clear ht h hE hr
 go_enter Tryz.func212,Tryz.ntmps212
 go_wp2_with fail
 go_loopw [8] (fun vi wr=>∃ k:Nat,vi=.int .i64 (k:Int)∧k≤n∧Hid (∀ j,j < k→q (aM L j)=false)∧Hid (Ext w wr)) (fun i _=>n - (intOf i).toNat)
 case atStart=>exact ⟨0,rfl,Nat.zero_le _,zh (fun j hj=>absurd hj (Nat.not_lt_zero _)),zh (Ext.refl w)⟩
 case round =>
  obtain ⟨k,rfl,hk,HN,HE⟩:=hrel
  by_cases hlt:k < n
  ·have HS2 := zh (HS.out.ext HE.out)
   have HE3:=zh (HE0.out.trans HE.out)
   obtain ⟨b,o,rfl,hrow,-⟩:=HS2.out.at (by omega)
   have i1:(k:Int) < (n:Int):=by omega
   have i0:(0:Int)≤(k:Int):=by omega
   have hr:wr.rangeAt b (o+k * 19) (RowT.enc (aM L k)):=cP (k:=k) hrow (by rw [HLEN.out];exact hlt)
   clear hrow
   obtain ⟨vx,hvx⟩:∃ v,Value.agg (lkA (aM L k))=v:=⟨_,rfl⟩
   cases hb:q (aM L k) with
   | false =>
    have HN2:=zh (vW HN.out hb)
    have HC:=HT.out.at HS2.out HE3.out hlt vx hvx false hb
    obtain ⟨R,hR⟩:∃ R,aM L k=R:=⟨_,rfl⟩
    rw [hR] at hr hvx
    have HVX:=zh hvx
    clear hvx hb hR
    go_wp2_with (first | (with_reducible refine aC lkP rfl (.tmp 14) rfl b (o+k * 19) rfl R vx HVX.out hr ?_))
    refine HC.out.mono ?_
    rintro e w3 ⟨rfl,he3⟩
    have HE2:=zh (HE.out.trans he3)
    clear HC HVX he3 hr HS2 HE3
    go_wp2_with fail
    go_roundw
    case rel=>exact ⟨k+1,by go_num,hlt,HN2,HE2⟩
    case measure=>simp [intOf];omega
   | true =>
    have HQ:=zh (HR.out.hit (by rw [HLEN.out];exact hlt) hb HN.out)
    have HC:=HT.out.at HS2.out HE3.out hlt vx hvx true hb
    obtain ⟨R,hR⟩:∃ R,aM L k=R:=⟨_,rfl⟩
    rw [hR] at hr hvx
    have HVX:=zh hvx
    clear hvx hb hR
    go_wp2_with (first | (with_reducible refine aC lkP rfl (.tmp 14) rfl b (o+k * 19) rfl R vx HVX.out hr ?_))
    refine HC.out.mono ?_
    rintro e w3 ⟨rfl,he3⟩
    have HE2:=zh (HE.out.trans he3)
    clear HC HVX he3 hr HS2 HE3
    go_wp2_with fail
    go_ret
    exact ⟨by rw [HQ.out];rfl,HE2.out⟩
  have i1:¬ (k:Int) < (n:Int):=by omega
  have HQ:=zh (HR.out.none (fun j hj=>HN.out j (by rw [HLEN.out] at hj;omega)))
  go_wp2_with fail
  go_ret
  exact ⟨by rw [HQ.out];rfl,HE.out⟩
theorem aBs {fn:Nat} {caps:Array Value} {q:UInt64→Bool} {w0:World} (ht:Says nmc fn caps q w0) (w:World) (A:Option Addr) (n c:Nat) (L:List UInt64) (h:SlG w A n c L) (hE:Ext w0 w) (r:Int) (hr:IxIs q L r) :
  Calls Tryz.prog 164 #[.slice A n c,.func (.func fn) #[] caps] w fun e w'=>e=.returned (.int .i64 r)∧Ext w w':=by
 have eg:=ht.eg
 have hcap:=h.cap
 have hle:=h.le
 have HT:=zh ht
 have HS:=zh h
 have HE0:=zh hE
 have HR:=zh hr
 have HLEN:=zh h.len
 clear ht h hE hr
 go_enter Tryz.func164,Tryz.ntmps164
 go_wp2_with fail
 go_loopw [8] (fun vi wr=>∃ k:Nat,vi=.int .i64 (k:Int)∧k≤n∧Hid (∀ j,j < k→q (aM L j)=false)∧Hid (Ext w wr)) (fun i _=>n - (intOf i).toNat)
 case atStart=>exact ⟨0,rfl,Nat.zero_le _,zh (fun j hj=>absurd hj (Nat.not_lt_zero _)),zh (Ext.refl w)⟩
 case round =>
  obtain ⟨k,rfl,hk,HN,HE⟩:=hrel
  by_cases hlt:k < n
  ·have HS2 := zh (HS.out.ext HE.out)
   have HE3:=zh (HE0.out.trans HE.out)
   obtain ⟨b,o,rfl,hrow,-⟩:=HS2.out.at (by omega)
   have i1:(k:Int) < (n:Int):=by omega
   have i0:(0:Int)≤(k:Int):=by omega
   have hr:wr.rangeAt b (o+k * 8) (RowT.enc (aM L k)):=cP (k:=k) hrow (by rw [HLEN.out];exact hlt)
   clear hrow
   obtain ⟨vx,hvx⟩:∃ v,Value.agg (nmc (aM L k))=v:=⟨_,rfl⟩
   cases hb:q (aM L k) with
   | false =>
    have HN2:=zh (vW HN.out hb)
    have HC:=HT.out.at HS2.out HE3.out hlt vx hvx false hb
    obtain ⟨R,hR⟩:∃ R,aM L k=R:=⟨_,rfl⟩
    rw [hR] at hr hvx
    have HVX:=zh hvx
    clear hvx hb hR
    go_wp2_with (first | (with_reducible refine aC nmP rfl (.tmp 14) rfl b (o+k * 8) rfl R vx HVX.out hr ?_))
    refine HC.out.mono ?_
    rintro e w3 ⟨rfl,he3⟩
    have HE2:=zh (HE.out.trans he3)
    clear HC HVX he3 hr HS2 HE3
    go_wp2_with fail
    go_roundw
    case rel=>exact ⟨k+1,by go_num,hlt,HN2,HE2⟩
    case measure=>simp [intOf];omega
   | true =>
    have HQ:=zh (HR.out.hit (by rw [HLEN.out];exact hlt) hb HN.out)
    have HC:=HT.out.at HS2.out HE3.out hlt vx hvx true hb
    obtain ⟨R,hR⟩:∃ R,aM L k=R:=⟨_,rfl⟩
    rw [hR] at hr hvx
    have HVX:=zh hvx
    clear hvx hb hR
    go_wp2_with (first | (with_reducible refine aC nmP rfl (.tmp 14) rfl b (o+k * 8) rfl R vx HVX.out hr ?_))
    refine HC.out.mono ?_
    rintro e w3 ⟨rfl,he3⟩
    have HE2:=zh (HE.out.trans he3)
    clear HC HVX he3 hr HS2 HE3
    go_wp2_with fail
    go_ret
    exact ⟨by rw [HQ.out];rfl,HE2.out⟩
  have i1:¬ (k:Int) < (n:Int):=by omega
  have HQ:=zh (HR.out.none (fun j hj=>HN.out j (by rw [HLEN.out] at hj;omega)))
  go_wp2_with fail
  go_ret
  exact ⟨by rw [HQ.out];rfl,HE.out⟩
theorem jY {P:Program} {t:TypeId} {ops:Array Oper} {o:Oper} {a:Act} {w:World} {K:Act→World→Prop} {Q:Exit→Act→World→Prop} {X:Prop} (hgd:o.guard=none) (s x:Operand) (ho:o.op=.call { callee:=.builtin .append,args:=#[s,x],argTypes:=#[t,t] })
  (vs vx:Value) (hs:a.eval s=vs) (hx:a.eval x=vx) (v':Value) (w':World) (hr:(Builtin.append_ #[t,t] o.type #[vs,vx]).run P w=.ok v' w') (h:K (a.put o.dst v') w'):if Region.wanted o (yielded ops a.tmps)=true then Oper.wp P o a w K Q else X:=by
 have hw:Region.wanted o (yielded ops a.tmps)=true:=by simp [Region.wanted,hgd]
 rw [if_pos hw]
 unfold Oper.wp execOp
 simp only [ho,resolve,invoke,builtin,Sem.run_bind,Sem.run_pure,Result.andThen_ok,List.map_toArray,List.map_cons,List.map_nil,hs,hx,hr]
 exact h
theorem aFb (base g n c:Nat) (L:List DeR) (i:Nat) (w:World) (h:w.ownsRow base 34 11 (.slice (some ⟨g,0,none⟩) n c) n (gcs L)) (hn:n≤1000000000) (hi:i < n) :
  Calls Tryz.prog 102 #[.slice (some ⟨g,0,none⟩) n c,.int .i64 (i:Int),.int .i64 ((i+1:Nat):Int)] w (gX w base 34 11 (some ⟨g,0,none⟩) n c (n - 1) (gcs (L.take i ++ L.drop (i+1)))):=by
 obtain ⟨hle,hcap⟩:=dO h
 have HLEN:=zh (show L.length=n from OwnG.len (e:=34) h)
 have HO:=zh h.drew
 obtain ⟨ti,hti,htz,htsz,htby⟩:=Elem.get deE
 have hsrc0:∀ k v,(gcs L)[k]?=some v→w.cell? ⟨g,k,none⟩=some v:=fun k v hv=>by
  obtain ⟨g',hgg,_,hra⟩:=cI h (by omega)
  obtain rfl:g=g':=by injection hgg with h1;injection h1
  have:=hra k v hv;rwa [Nat.zero_add] at this
 have hdl:(gcs (L.drop (i+1))).length=(n - (i+1)) * 11:=by rw [aH,List.length_drop,HLEN.out];rfl
 have hfit:i * 11+(n - (i+1)) * 11≤n * 11:=by rw [← Nat.add_mul];exact Nat.mul_le_mul_right _ (by omega)
 have hxl:(gcs L).length=n * 11:=by rw [aH,HLEN.out];rfl
 obtain ⟨ad,had⟩:∃ ad:Addr,(if c=i+1 then ⟨g,0,none⟩ else (⟨g,(i+1) * 11,none⟩:Addr))=ad:=⟨_,rfl⟩
 have hnews:∀ j u,(gcs (L.drop (i+1)))[j]?=some u→w.drew.cell? (ad.add j)=some u:=fun j u hu=>by
  have hj:=(List.getElem?_eq_some_iff.1 hu).1
  rw [hdl] at hj
  by_cases hc:c=i+1
  ·have : n - (i + 1) = 0 := by omega
   rw [this] at hj;omega
  rw [← had,if_neg hc,Addr.add_mid]
  show w.cell? _=_
  refine hsrc0 _ u ?_
  rw [← eF,List.getElem?_drop] at hu
  exact hu
 have hrun:=fun ty=>run_append_room_cells (P:=Tryz.prog) (w:=w.drew) 27 ty 34 ti (Elem.ut deE) hti g 0 i c ad (n - (i+1)) (c - (i+1)) (gcs (L.drop (i+1))) (by rw [htsz];exact hdl) hnews (bF _) (by omega)
  (fun j hj=>by rw [htsz,Nat.zero_add,h.drew.cellAt (i * 11+j) (by omega),List.getElem?_eq_getElem (by omega)];rfl) (fun j hj=>by rw [htsz,Nat.zero_add];exact h.drew.frozenAt _)
 rw [htsz,Nat.zero_add,show i+(n - (i+1))=n - 1 by omega] at hrun
 have hsp:=jR (gcs (L.drop (i+1))) (i * 11) w.drew (gcs L) (by omega) h.drew
 obtain ⟨W1,hW1⟩:∃ W1,w.drew.setCells g (i * 11) (gcs (L.drop (i+1)))=W1:=⟨_,rfl⟩
 rw [hW1] at hrun hsp
 have HRUN:=zh hrun
 have HG1:=zh (show w.grownBy W1 (some g) from Grown.trans (Ext.grown ((Ext.refl w).drew') _) hsp.2)
 have HO1:=zh hsp.1
 have HDC:=zh (show (splice (gcs L) (i * 11) (gcs (L.drop (i+1)))).take ((n - 1) * 11)=gcs (L.take i ++ L.drop (i+1)) from by
  have:=rG L (i:=i) (by rw [HLEN.out];exact hi);rw [HLEN.out] at this;exact this)
 have hcl:=fun ty=>aDC deE (by decide) W1 ty g ((n - 1) * 11) 1 (c - (n - 1)) (by omega) (fun j hj=>by
  have hh:=Nat.mul_le_mul_right 11 (show (n - 1)+1≤n by omega)
  rw [Nat.add_mul] at hh
  rw [HO1.out.cellAt ((n - 1) * 11+j) (by omega),List.getElem?_eq_getElem (by rw [HO1.out.1];omega)];rfl) (fun j hj=>HO1.out.frozenAt _)
 obtain ⟨xs',o1,o2,o3⟩:=uD (Builtin.zeroCells (Value.agg de0).cells 1).toList ((n - 1) * 11) W1 _ HO1.out
 have HEND:=zh (show (W1.setCells g ((n - 1) * 11) (Builtin.zeroCells (Value.agg de0).cells 1).toList).ownsRow base 34 11 (.slice (some ⟨g,0,none⟩) (n - 1) c) (n - 1) (gcs (L.take i ++ L.drop (i+1))) from by
  have:=sS o1 (i:=n - 1) (by omega) (by simp)
  rw [o2,HDC.out] at this;exact this)
 have HG2:=zh (Grown.trans HG1.out o3)
 obtain ⟨W2,hW2⟩:∃ W2,W1.setCells g ((n - 1) * 11) (Builtin.zeroCells (Value.agg de0).cells 1).toList=W2:=⟨_,rfl⟩
 rw [hW2] at hcl HEND HG2
 have HAD:=zh had
 have i0:(0:Int)≤(i:Int):=by omega
 have i1:(i:Int)+1≤(n:Int):=by omega
 have i2:(n:Int)≤(c:Int):=by omega
 have i3:(i:Int)≤(n:Int):=by omega
 have i4:¬ c=i:=by omega
 have i6:(i:Int)≤(c:Int):=by omega
 have i7:¬ n=i:=by omega
 have i8:¬ c=n - 1:=by omega
 have i9:((n - 1:Nat):Int)≤(n:Int):=by omega
 have i10:(0:Int)≤(i:Int)+1:=by omega
 have i11:((i:Int)+1).toNat=i+1:=by omega
 have i12:¬ (i:Int)+1 < 0:=by omega
 have i13:n - (n - 1)=1:=by omega
 have HI:=zh hi
 clear h hsrc0 hnews hrun hsp hW1 hW2 o1 o2 o3 hti htz htsz htby hdl hfit hxl had
 go_enter Tryz.func102,Tryz.ntmps102
 go_wp2_with fail
 refine wp_region_held_drew (S:=fun W=>True) (by kernel_rfl) (trivial) (fun aA=>?_)
 refine zzr [0,1,2,3,4] ?_
 refine zu 5 (v:=.slice (some ad) (n - (i+1)) (c - (i+1))) aA ?_ (hy:=by (rcases Classical.em (c=i+1) with hc | hc <;> (refine Or.inl ⟨by rfl,fun W _=>?_⟩;rw [← HAD.out];(first | rw [if_pos hc] | rw [if_neg hc]);go_simp <;> with_reducible rfl)))
 refine za 6 (fun K hK=>?_)
 (refine jY rfl (.tmp 22) (.tmp 25) rfl (.slice (some ⟨g,0,none⟩) i c) (.slice (some ad) (n - (i+1)) (c - (i+1))) (by rfl) (by rfl) _ _ (HRUN.out _) ?_)
 refine hK.out _ _ (trivial) (fun aA=>?_)
 clear hK K
 try simp only [bH]
 refine zt 7 aA ?_
 refine wpAnyH_done (by kernel_rfl) ?_ _
 clear HRUN
 go_wp2_with fail
 go_ret
 exact ⟨some ⟨g,0,none⟩,c,rfl,HEND.out,HG2.out⟩
theorem aFa (base g n c:Nat) (L:List LkR) (i:Nat) (w:World) (h:w.ownsRow base 94 19 (.slice (some ⟨g,0,none⟩) n c) n (gcs L)) (hn:n≤1000000000) (hi:i < n) :
  Calls Tryz.prog 156 #[.slice (some ⟨g,0,none⟩) n c,.int .i64 (i:Int),.int .i64 ((i+1:Nat):Int)] w (gX w base 94 19 (some ⟨g,0,none⟩) n c (n - 1) (gcs (L.take i ++ L.drop (i+1)))):=by
 obtain ⟨hle,hcap⟩:=dO h
 have HLEN:=zh (show L.length=n from OwnG.len (e:=94) h)
 have HO:=zh h.drew
 obtain ⟨ti,hti,htz,htsz,htby⟩:=Elem.get lkE
 have hsrc0:∀ k v,(gcs L)[k]?=some v→w.cell? ⟨g,k,none⟩=some v:=fun k v hv=>by
  obtain ⟨g',hgg,_,hra⟩:=cI h (by omega)
  obtain rfl:g=g':=by injection hgg with h1;injection h1
  have:=hra k v hv;rwa [Nat.zero_add] at this
 have hdl:(gcs (L.drop (i+1))).length=(n - (i+1)) * 19:=by rw [aH,List.length_drop,HLEN.out];rfl
 have hfit:i * 19+(n - (i+1)) * 19≤n * 19:=by rw [← Nat.add_mul];exact Nat.mul_le_mul_right _ (by omega)
 have hxl:(gcs L).length=n * 19:=by rw [aH,HLEN.out];rfl
 obtain ⟨ad,had⟩:∃ ad:Addr,(if c=i+1 then ⟨g,0,none⟩ else (⟨g,(i+1) * 19,none⟩:Addr))=ad:=⟨_,rfl⟩
 have hnews:∀ j u,(gcs (L.drop (i+1)))[j]?=some u→w.drew.cell? (ad.add j)=some u:=fun j u hu=>by
  have hj:=(List.getElem?_eq_some_iff.1 hu).1
  rw [hdl] at hj
  by_cases hc:c=i+1
  ·have : n - (i + 1) = 0 := by omega
   rw [this] at hj;omega
  rw [← had,if_neg hc,Addr.add_mid]
  show w.cell? _=_
  refine hsrc0 _ u ?_
  rw [← eF,List.getElem?_drop] at hu
  exact hu
 have hrun:=fun ty=>run_append_room_cells (P:=Tryz.prog) (w:=w.drew) 41 ty 94 ti (Elem.ut lkE) hti g 0 i c ad (n - (i+1)) (c - (i+1)) (gcs (L.drop (i+1))) (by rw [htsz];exact hdl) hnews (bF _) (by omega)
  (fun j hj=>by rw [htsz,Nat.zero_add,h.drew.cellAt (i * 19+j) (by omega),List.getElem?_eq_getElem (by omega)];rfl) (fun j hj=>by rw [htsz,Nat.zero_add];exact h.drew.frozenAt _)
 rw [htsz,Nat.zero_add,show i+(n - (i+1))=n - 1 by omega] at hrun
 have hsp:=jR (gcs (L.drop (i+1))) (i * 19) w.drew (gcs L) (by omega) h.drew
 obtain ⟨W1,hW1⟩:∃ W1,w.drew.setCells g (i * 19) (gcs (L.drop (i+1)))=W1:=⟨_,rfl⟩
 rw [hW1] at hrun hsp
 have HRUN:=zh hrun
 have HG1:=zh (show w.grownBy W1 (some g) from Grown.trans (Ext.grown ((Ext.refl w).drew') _) hsp.2)
 have HO1:=zh hsp.1
 have HDC:=zh (show (splice (gcs L) (i * 19) (gcs (L.drop (i+1)))).take ((n - 1) * 19)=gcs (L.take i ++ L.drop (i+1)) from by
  have:=rG L (i:=i) (by rw [HLEN.out];exact hi);rw [HLEN.out] at this;exact this)
 have hcl:=fun ty=>aDC lkE (by decide) W1 ty g ((n - 1) * 19) 1 (c - (n - 1)) (by omega) (fun j hj=>by
  have hh:=Nat.mul_le_mul_right 19 (show (n - 1)+1≤n by omega)
  rw [Nat.add_mul] at hh
  rw [HO1.out.cellAt ((n - 1) * 19+j) (by omega),List.getElem?_eq_getElem (by rw [HO1.out.1];omega)];rfl) (fun j hj=>HO1.out.frozenAt _)
 obtain ⟨xs',o1,o2,o3⟩:=uD (Builtin.zeroCells (Value.agg lk0).cells 1).toList ((n - 1) * 19) W1 _ HO1.out
 have HEND:=zh (show (W1.setCells g ((n - 1) * 19) (Builtin.zeroCells (Value.agg lk0).cells 1).toList).ownsRow base 94 19 (.slice (some ⟨g,0,none⟩) (n - 1) c) (n - 1) (gcs (L.take i ++ L.drop (i+1))) from by
  have:=sS o1 (i:=n - 1) (by omega) (by simp)
  rw [o2,HDC.out] at this;exact this)
 have HG2:=zh (Grown.trans HG1.out o3)
 obtain ⟨W2,hW2⟩:∃ W2,W1.setCells g ((n - 1) * 19) (Builtin.zeroCells (Value.agg lk0).cells 1).toList=W2:=⟨_,rfl⟩
 rw [hW2] at hcl HEND HG2
 have HAD:=zh had
 have i0:(0:Int)≤(i:Int):=by omega
 have i1:(i:Int)+1≤(n:Int):=by omega
 have i2:(n:Int)≤(c:Int):=by omega
 have i3:(i:Int)≤(n:Int):=by omega
 have i4:¬ c=i:=by omega
 have i6:(i:Int)≤(c:Int):=by omega
 have i7:¬ n=i:=by omega
 have i8:¬ c=n - 1:=by omega
 have i9:((n - 1:Nat):Int)≤(n:Int):=by omega
 have i10:(0:Int)≤(i:Int)+1:=by omega
 have i11:((i:Int)+1).toNat=i+1:=by omega
 have i12:¬ (i:Int)+1 < 0:=by omega
 have i13:n - (n - 1)=1:=by omega
 have HI:=zh hi
 clear h hsrc0 hnews hrun hsp hW1 hW2 o1 o2 o3 hti htz htsz htby hdl hfit hxl had
 go_enter Tryz.func156,Tryz.ntmps156
 go_wp2_with fail
 refine wp_region_held_drew (S:=fun W=>True) (by kernel_rfl) (trivial) (fun aA=>?_)
 refine zzr [0,1,2,3,4] ?_
 refine zu 5 (v:=.slice (some ad) (n - (i+1)) (c - (i+1))) aA ?_ (hy:=by (rcases Classical.em (c=i+1) with hc | hc <;> (refine Or.inl ⟨by rfl,fun W _=>?_⟩;rw [← HAD.out];(first | rw [if_pos hc] | rw [if_neg hc]);go_simp <;> with_reducible rfl)))
 refine za 6 (fun K hK=>?_)
 (refine jY rfl (.tmp 22) (.tmp 25) rfl (.slice (some ⟨g,0,none⟩) i c) (.slice (some ad) (n - (i+1)) (c - (i+1))) (by rfl) (by rfl) _ _ (HRUN.out _) ?_)
 refine hK.out _ _ (trivial) (fun aA=>?_)
 clear hK K
 try simp only [bH]
 refine zt 7 aA ?_
 refine wpAnyH_done (by kernel_rfl) ?_ _
 clear HRUN
 go_wp2_with fail
 go_ret
 exact ⟨some ⟨g,0,none⟩,c,rfl,HEND.out,HG2.out⟩
end
end Go.Proofs.YtohmmcahpakokaaGreat
