/- Rows of elements of whatever type: one text for all. -/
import Derived.Sort.Grow
import Derived.Test.YtohmmcahpakokaaGreatJ08
set_option maxRecDepth 100000
set_option maxHeartbeats 8000000
set_option linter.unusedVariables false
set_option linter.unusedSimpArgs false
namespace Go.Proofs.YtohmmcahpakokaaGreat
section
open Go.RowKit
class RowT (α:Type) where
 sz:Nat
 z:α
 enc:α→List Value
 ok:α→World→Prop
 pos:0 < sz
 len:∀ x,(enc x).length=sz
 one:∀ x,∀ u ∈ enc x,u.oneCell'=true
 ext:∀ x w w',ok x w→Ext w w'→ok x w'
section
variable {α:Type} [RowT α]
def gcs (L:List α):List Value:=L.flatMap RowT.enc
theorem aEq:gcs ([]:List α)=[]:=rfl
theorem cW (x:α) (r:List α):gcs (x :: r)=RowT.enc x ++ gcs r:=by simp [gcs]
theorem fQ (x:α):gcs [x]=RowT.enc x:=by simp [gcs]
theorem bS (a b:List α):gcs (a ++ b)=gcs a ++ gcs b:=by simp [gcs]
theorem aH (L:List α):(gcs L).length=L.length * RowT.sz α:=by
 induction L with
 | nil=>simp [gcs]
 | cons x r ih=>rw [cW,List.length_append,RowT.len,ih,List.length_cons,Nat.add_mul,Nat.one_mul,Nat.add_comm]
theorem cD (L:List α):∀ u ∈ gcs L,u.oneCell'=true:=by
 intro u hu
 simp only [gcs,List.mem_flatMap] at hu
 obtain ⟨x,_,h⟩:=hu
 exact RowT.one x u h
theorem eC (L:List α) (k:Nat):(gcs L).drop (k * RowT.sz α)=gcs (L.drop k):=by
 induction k generalizing L with
 | zero=>simp
 | succ k ih =>
  cases L with
  | nil=>simp [gcs]
  | cons n r =>
   rw [cW,List.drop_succ_cons,← ih r,show (k+1) * RowT.sz α=(RowT.enc n).length+k * RowT.sz α from by rw [RowT.len,Nat.add_mul,Nat.one_mul,Nat.add_comm],List.drop_append,List.drop_of_length_le (by omega)]
   simp
theorem iT (L:List α) (k:Nat):(gcs L).take (k * RowT.sz α)=gcs (L.take k):=by
 induction k generalizing L with
 | zero=>simp [gcs]
 | succ k ih =>
  cases L with
  | nil=>simp [gcs]
  | cons n r =>
   rw [cW,List.take_succ_cons,cW,← ih r,show (k+1) * RowT.sz α=(RowT.enc n).length+k * RowT.sz α from by rw [RowT.len,Nat.add_mul,Nat.one_mul,Nat.add_comm],List.take_append,List.take_of_length_le (by omega)]
   simp
def nthG (L:List α) (k:Nat):α:=L.getD k (RowT.z)
theorem cC {L:List α} {k:Nat} (h:k < L.length):L[k]=nthG L k:=by simp [nthG,h]
theorem aHp {L:List α} {k:Nat} (h:k < L.length):((gcs L).drop (k * RowT.sz α)).take (RowT.sz α)=RowT.enc (nthG L k):=by
 rw [eC,List.drop_eq_getElem_cons h,cW,List.take_append_of_le_length (by rw [RowT.len];omega),List.take_of_length_le (by rw [RowT.len];omega),cC h]
theorem fX {L:List α} {k:Nat} (h:k < L.length):L.take (k+1)=L.take k ++ [nthG L k]:=by
 rw [List.take_succ_eq_append_getElem h,cC h]
theorem gE {L:List α} {k:Nat} (h:k < L.length):nthG L k ∈ L:=by
 rw [← cC h];exact List.getElem_mem _
structure SlG (w:World) (A:Option Addr) (n c:Nat) (L:List α):Prop where
 len:L.length=n
 le:n≤c
 cap:c≤9223372036854775807
 rd:Rd w A (gcs L)
 ok:∀ R,R ∈ L→RowT.ok R w
variable {w w':World} {A:Option Addr} {n c:Nat} {L:List α}
theorem SlG.ext (h:SlG w A n c L) (e:Ext w w'):SlG w' A n c L:=⟨h.len,h.le,h.cap,h.rd.ext e,fun R hR=>RowT.ext _ _ _ (h.ok R hR) e⟩
theorem SlG.at (h:SlG w A n c L) (hn:0 < n):∃ b o,A=some ⟨b,o,none⟩∧w.rangeAt b o (gcs L)∧b < w.heap.size :=
 h.rd.at (by
  intro e
  have:=congrArg List.length e
  rw [aH,h.len] at this
  have:=Nat.mul_pos hn (RowT.pos (α:=α))
  simp at *;omega)
theorem SlG.nil (w:World):SlG w none 0 0 ([]:List α):=⟨rfl,Nat.le_refl _,Nat.zero_le _,.nil,fun R hR=>by cases hR⟩
theorem SlG.nth (h:SlG w A n c L) {k:Nat} (hk:k < n):RowT.ok (nthG L k) w:=h.ok _ (gE (by rw [h.len];exact hk))
theorem cG {b o k:Nat} (h:w.rangeAt b o (gcs L)) (hk:k < L.length):w.rangeAt b (o+k * RowT.sz α) (RowT.enc (nthG L k)):=by
 have h1:=aU (k:=RowT.sz α) (bR (k:=k * RowT.sz α) h)
 rwa [aHp hk] at h1
theorem SlG.upto (h:SlG w A n c L) {k c':Nat} (hk:k≤n) (hc:k≤c') (hc':c'≤9223372036854775807):SlG w A k c' (L.take k):=by
 refine ⟨by rw [List.length_take,h.len];omega,hc,hc',?_,fun R hR=>h.ok R (List.mem_of_mem_take hR)⟩
 rw [← iT];exact h.rd.take _
theorem SlG.cut (h:SlG w A n c L) {k:Nat} (hk:k≤n) (hkc:k < c):SlG w (A.map (·.add (k * RowT.sz α))) (n - k) (c - k) (L.drop k):=by
 refine ⟨by rw [List.length_drop,h.len],by have:=h.le;omega,by have:=h.cap;omega,?_,fun R hR=>h.ok R (List.mem_of_mem_drop hR)⟩
 have:=h.rd.cut (n:=n) (k:=k) (c:=c) (size:=RowT.sz α) (by rw [aH,h.len]) hk h.le
 rwa [if_neg (by omega),eC] at this
def OwnG (w:World) (base:Nat) (e:TypeId) (A:Option Addr) (n c:Nat) (L:List α):Prop:=w.ownsRow base e (RowT.sz α) (.slice A n c) n (gcs L)
section
variable {base:Nat} {e:TypeId}
theorem OwnG.len (h:OwnG w base e A n c L):L.length=n:=by
 have:=h.1;rw [aH] at this;exact Nat.eq_of_mul_eq_mul_right RowT.pos this
theorem OwnG.sl (h:OwnG w base e A n c L) (ok:∀ R,R ∈ L→RowT.ok R w):SlG w A n c L:=by
 obtain ⟨h1,h2⟩:=dN h
 exact ⟨h.len,h1,h2,Rd.of_own h,ok⟩
theorem OwnG.nil (w:World) (base:Nat) (e:TypeId):OwnG w base e none 0 0 ([]:List α):=World.ownsRow_nil w base e _
theorem OwnG.ext (h:OwnG w base e A n c L) (he:Ext w w'):OwnG w' base e A n c L:=bA h he
theorem OwnG.mono {base':Nat} (h:OwnG w base e A n c L) (hb:base'≤base):OwnG w base' e A n c L:=bB h hb
end
theorem aJR {sz:Nat} (hsz:RowT.sz α=sz) {b o:Nat}:∀ (n:Nat),(∀ j,j < n→∃ y:α,w.rangeAt b (o+j * sz) (RowT.enc y)∧RowT.ok y w)→∃ L:List α,L.length=n∧w.rangeAt b o (gcs L)∧∀ R,R ∈ L→RowT.ok R w:=by
 intro n
 subst hsz
 induction n with
 | zero=>intro _;exact ⟨[],rfl,fun j v hv=>by simp [gcs] at hv,fun R hR=>by cases hR⟩
 | succ n ih =>
  intro h
  obtain ⟨L,hL,hr,hok⟩:=ih (fun j hj=>h j (by omega))
  obtain ⟨y,hy,hyo⟩:=h n (by omega)
  refine ⟨L ++ [y],by simp [hL],?_,?_⟩
  ·rw [bS, fQ]
   refine mN hr ?_
   rw [aH,hL];exact hy
  intro R hR
  rcases List.mem_append.1 hR with hR | hR
  ·exact hok R hR
  rw [List.mem_singleton.1 hR];exact hyo
end
def Grw (w w':World):Prop:=Ext w w'∧w.drawn≤w'.drawn
theorem Grw.refl (w:World):Grw w w:=⟨Ext.refl w,Nat.le_refl _⟩
theorem Grw.ext {w w':World} (h:Grw w w'):Ext w w':=h.1
theorem Grw.trans {a b c:World} (h:Grw a b) (k:Grw b c):Grw a c:=⟨h.1.trans k.1,Nat.le_trans h.2 k.2⟩
theorem Grw.drew {a b:World} (h:Grw a b):Grw a b.drew:=⟨h.1.drew',by have:=h.2;show a.drawn≤b.drawn+1;omega⟩
theorem Grw.drewN {a b:World} (h:Grw a b) (n:Nat):Grw a (b.drewN n):=⟨⟨h.1.os,h.1.tape,h.1.output,h.1.size,h.1.block⟩,by have:=h.2;show a.drawn≤b.drawn+n;omega⟩
theorem Grw.alloc {a b:World} (h:Grw a b) (o:Obj):Grw a (b.alloc o):=⟨h.1.alloc' o,h.2⟩
theorem Grw.set {a b:World} (h:Grw a b) {p:Addr} (hp:a.heap.size≤p.block) (u:Value):Grw a (b.setCell p u):=⟨h.1.setCell hp u,h.2⟩
theorem Grw.grow {a b:World} (h:Grw a b):∃ q os,b=Sort.grow (a.drewN q) os:=by
 obtain ⟨⟨h1,h2,h3,h4,h5⟩,h6⟩:=h
 refine ⟨b.drawn - a.drawn,b.heap.extract a.heap.size b.heap.size,?_⟩
 obtain ⟨bh,bt,bd,bo,bu⟩:=b
 obtain ⟨ah,at',ad,ao,au⟩:=a
 simp only at h1 h2 h3 h4 h5 h6
 subst h1;subst h2;subst h3
 simp only [Sort.grow,World.drewN,World.mk.injEq,true_and,and_true]
 refine ⟨?_,by omega⟩
 apply Array.ext_getElem?
 intro i
 by_cases hi:i < ah.size
 ·rw [Array.getElem?_append_left hi,h5 i hi]
 rw [Array.getElem?_append_right (by omega)]
 simp [Array.getElem?_extract]
 by_cases hb:i < bh.size
 ·rw [if_pos (by omega),show ah.size+(i - ah.size)=i from by omega]
 rw [if_neg (by omega)];simp;omega
end
section
open Go.RowKit
attribute [local go_sem ↓] Go.wp_at_zero Go.wp_at_succ
structure SlZ (w:World) (A:Option Addr) (n c:Nat) (l:List Int):Prop where
 len:l.length=n
 le:n≤c
 cap:c≤9223372036854775807
 rd:Rd w A (ics l)
def pR (l:List Int) (k:Nat):Int:=l.getD k 0
section
variable {w w':World} {A:Option Addr} {n c:Nat} {l:List Int}
theorem SlZ.ext (h:SlZ w A n c l) (e:Ext w w'):SlZ w' A n c l:=⟨h.len,h.le,h.cap,h.rd.ext e⟩
theorem SlZ.nil (w:World):SlZ w none 0 0 []:=⟨rfl,Nat.le_refl _,Nat.zero_le _,.nil⟩
theorem SlZ.at (h:SlZ w A n c l) (hn:0 < n):∃ b o,A=some ⟨b,o,none⟩∧w.rangeAt b o (ics l)∧b < w.heap.size :=
 h.rd.at (by intro e;have:=congrArg List.length e;rw [aDw,h.len] at this;simp at this;omega)
theorem aKd {b o k:Nat} (h:w.rangeAt b o (ics l)) (hk:k < l.length):w.cell? ⟨b,o+k,none⟩=some (.int .i64 (pR l k)):=by
 refine h k _ ?_
 simp [ics,iv,pR,List.getD,hk]
end
abbrev dT (N Z:Int) (A1:Option Addr) (n1 c1:Nat) (A2:Option Addr) (n2 c2:Nat) (A3:Option Addr) (n3 c3:Nat):Array Value:=#[.int .i64 N,.int .i64 Z,.slice A1 n1 c1,.slice A2 n2 c2,.slice A3 n3 c3]
def sS (z:Int):Bool:=decide (0≤z∧z≤1099511627776)
def yD (N Z:Int) (n1 n2 n3:Nat):Prop:=1≤N∧N≤7∧1≤n1∧n1≤10∧N≤(n1:Int)∧1≤n2∧n2≤16∧n3=n2∧0≤Z∧Z≤1099511627776
instance (N Z:Int) (n1 n2 n3:Nat):Decidable (yD N Z n1 n2 n3):=by unfold yD;infer_instance
def iX (N Z:Int) (n1 n2 n3:Nat) (l:List Int):Bool:=decide (yD N Z n1 n2 n3) && decide (∀ k,k < l.length→sS (pR l k)=true)
theorem iW {N Z:Int} {n1 n2 n3:Nat} {l:List Int} (h:¬ yD N Z n1 n2 n3):iX N Z n1 n2 n3 l=false:=by
 unfold iX;rw [decide_eq_false h,Bool.false_and]
theorem aHM {N Z:Int} {n1 n2 n3:Nat} {l:List Int} {k:Nat} (hk:k < l.length) (h:sS (pR l k)=false):iX N Z n1 n2 n3 l=false:=by
 unfold iX;rw [decide_eq_false (p:=∀ k,k < l.length→sS (pR l k)=true) (fun hh=>by rw [hh k hk] at h;cases h),Bool.and_false]
theorem aGf {N Z:Int} {n1 n2 n3:Nat} {l:List Int} (h:yD N Z n1 n2 n3) (h2:∀ k,k < l.length→sS (pR l k)=true):iX N Z n1 n2 n3 l=true:=by
 unfold iX;rw [decide_eq_true h,decide_eq_true h2];rfl
def lX (b:Bool):Int:=if b then 0 else 1
theorem wB (z:Int) (h:0≤z∧z≤1099511627776) (w:World):Calls Tryz.prog 144 #[.int .i64 z] w fun e w'=>e=.returned (.bool true)∧w=w':=by
 obtain ⟨h1,h2⟩:=h
 go_enter Tryz.func144,Tryz.ntmps144
 go_wp2_with fail
 go_ret
 exact ⟨rfl,rfl⟩
theorem yQ (z:Int) (h:z < 0 ∨ 1099511627776 < z) (w:World):Calls Tryz.prog 144 #[.int .i64 z] w fun e w'=>e=.returned (.bool false)∧w=w':=by
 by_cases h1:0≤z
 ·have h2 : decide (z ≤ 1099511627776) = false := decide_eq_false (by omega)
  go_enter Tryz.func144,Tryz.ntmps144
  go_wp2_with fail
  go_ret
  exact ⟨rfl,rfl⟩
 have h2:decide (0≤z)=false:=decide_eq_false h1
 go_enter Tryz.func144,Tryz.ntmps144
 go_wp2_with fail
 go_ret
 exact ⟨rfl,rfl⟩
theorem aDR (z:Int) (w:World):Calls Tryz.prog 144 #[.int .i64 z] w fun e w'=>e=.returned (.bool (sS z))∧w=w':=by
 by_cases h:0≤z∧z≤1099511627776
 ·rw [show sS z=true from decide_eq_true h];exact wB z h w
 rw [show sS z=false from decide_eq_false h];exact yQ z (by omega) w
theorem tF (N Z:Int) (A1:Option Addr) (n1 c1:Nat) (A2:Option Addr) (n2 c2:Nat) (A3:Option Addr) (n3 c3:Nat) (l:List Int) (w:World) (hS:SlZ w A3 n3 c3 l) (hm1:n1≤9223372036854775807) (hm2:n2≤9223372036854775807) :
  Calls Tryz.prog 88 #[.agg (dT N Z A1 n1 c1 A2 n2 c2 A3 n3 c3)] w fun e w'=>e=.returned (.int .i64 (lX (iX N Z n1 n2 n3 l)))∧Ext w w':=by
 have hlen:=hS.len
 have hle:=hS.le
 have hcap:=hS.cap
 have HE:=zh ((Ext.refl w).alloc' (.cells (dT N Z A1 n1 c1 A2 n2 c2 A3 n3 c3) 40))
 have HB:=zh (Blk.new w 40 (dT N Z A1 n1 c1 A2 n2 c2 A3 n3 c3))
 have HS:=zh hS
 have HLEN:=zh hlen
 clear hS hlen
 by_cases t0:1≤N
 ·have d0 : decide (N < 1) = false := decide_eq_false (by omega)
  by_cases t1:N≤7
  ·have d1 : decide (7 < N) = false := decide_eq_false (by omega)
   by_cases t2:(1:Int)≤(n1:Int)
   ·have d2 : decide ((n1 : Int) < 1) = false := decide_eq_false (by omega)
    by_cases t3:(n1:Int)≤10
    ·have d3 : decide ((10 : Int) < (n1 : Int)) = false := decide_eq_false (by omega)
     by_cases t4:N≤(n1:Int)
     ·have d4 : decide ((n1 : Int) < N) = false := decide_eq_false (by omega)
      by_cases t5:(1:Int)≤(n2:Int)
      ·have d5 : decide ((n2 : Int) < 1) = false := decide_eq_false (by omega)
       by_cases t6:(n2:Int)≤16
       ·have d6 : decide ((16 : Int) < (n2 : Int)) = false := decide_eq_false (by omega)
        by_cases t7:n3=n2
        ·subst t7
         by_cases t8:0≤Z∧Z≤1099511627776
         ·have HH := zh (show yD N Z n1 n3 n3 from ⟨t0, t1, by omega, by omega, t4, by omega, by omega, rfl, t8.1, t8.2⟩)
          have HM:=zh (wB Z t8)
          obtain ⟨b,o,rfl,hr,hb⟩:=HS.out.at (by omega)
          have HR:=zh hr
          have HBL:=zh hb
          clear hr hb t8
          go_enter Tryz.func88,Tryz.ntmps88
          go_wp2_with fail
          go_quiet (fail)
          go_wp2_with (go_at_call 144;(with_reducible refine (HM.out _).mono ?_);rintro e wv ⟨rfl,rfl⟩)
          go_loopw [59] (fun i wr=>∃ q:Nat,q≤n3∧i=.int .i64 (q:Int)∧Hid (∀ j,j < q→sS (pR l j)=true)∧Ext (w.alloc (.cells (dT N Z A1 n1 c1 A2 n3 c2 (some ⟨b,o,none⟩) n3 c3) 40)) wr) (fun i _=>n3 - (intOf i).toNat)
          case atStart=>exact ⟨0,Nat.zero_le _,rfl,zh (fun j hj=>by omega),eM _ _⟩
          case round =>
           obtain ⟨q,hq,rfl,HP,hX⟩:=hrel
           have HX:=zh hX
           have hra:=aX HR.out ((HE.out.trans hX).block b HBL.out)
           clear hX
           by_cases hlt:q < n3
           ·have hid := aKd hra (k := q) (by rw [HLEN.out]; exact hlt)
            have HQ:=zh (fun (hx:sS (pR l q)=true)=>show ∀ j,j < q+1→sS (pR l j)=true from fun j hj=>by
             rcases Nat.lt_or_ge j q with h | h
             ·exact HP.out j h
             obtain rfl:j=q:=by omega
             exact hx)
            have HN:=zh (fun (hx:sS (pR l q)=false)=>show lX (iX N Z n1 n3 n3 l)=1 by rw [aHM (by rw [HLEN.out];exact hlt) hx];rfl)
            have HA:=zh (aDR (pR l q))
            have i0:(0:Int)≤(q:Int):=by omega
            have i1:(q:Int) < (n3:Int):=by omega
            clear hra
            rcases hx:sS (pR l q) with _ | _
            ·have HXX := zh (HN.out hx)
             rw [hx] at HA
             generalize pR l q=z at *
             clear hx HN HQ
             go_wp2_with fail
             refine (HA.out _).mono ?_
             rintro e wv ⟨rfl,rfl⟩
             go_wp2_with fail
             go_ret
             exact ⟨by rw [HXX.out];rfl,HE.out.trans HX.out⟩
            have HXX:=zh (HQ.out hx)
            rw [hx] at HA
            generalize pR l q=z at hid HA
            clear hx HN HQ
            go_wp2_with fail
            refine (HA.out _).mono ?_
            rintro e wv ⟨rfl,rfl⟩
            go_wp2_with fail
            go_roundw
            case rel=>exact ⟨q+1,by omega,by go_num,HXX,HX.out⟩
            case measure=>simp [intOf];omega
           obtain rfl:q=n3:=by omega
           have HF:=zh (show lX (iX N Z n1 q q l)=0 by rw [aGf HH.out (fun k hk=>HP.out k (by rw [HLEN.out] at hk;exact hk))];rfl)
           go_wp2_with fail
           go_ret
           exact ⟨by rw [HF.out];rfl,HE.out.trans HX.out⟩
         have HM:=zh (yQ Z (by omega))
         have HF:=zh (show lX (iX N Z n1 n3 n3 l)=1 by rw [iW (fun h=>t8 ⟨h.2.2.2.2.2.2.2.2.1,h.2.2.2.2.2.2.2.2.2⟩)];rfl)
         clear HS
         go_enter Tryz.func88,Tryz.ntmps88
         go_wp2_with fail
         go_quiet (fail)
         go_wp2_with (go_at_call 144;(with_reducible refine (HM.out _).mono ?_);rintro e wv ⟨rfl,rfl⟩)
         go_ret
         exact ⟨by rw [HF.out];rfl,HE.out.trans (eM _ _)⟩
        have d7:((n3:Int) != (n2:Int))=true:=by simp;omega
        have d8:¬ (n3:Int)=(n2:Int):=by omega
        have HF:=zh (show lX (iX N Z n1 n2 n3 l)=1 by rw [iW (fun h=>t7 h.2.2.2.2.2.2.2.1)];rfl)
        clear HS
        go_enter Tryz.func88,Tryz.ntmps88
        go_wp2_with fail
        go_quiet (fail)
        go_wp2_with fail
        go_ret
        exact ⟨by rw [HF.out];rfl,HE.out.trans (eM _ _)⟩
       have e6:(16:Int) < (n2:Int):=by omega
       have HF:=zh (show lX (iX N Z n1 n2 n3 l)=1 by rw [iW (fun h=>t6 (by have:=h.2.2.2.2.2.2.1;omega))];rfl)
       clear HS
       go_enter Tryz.func88,Tryz.ntmps88
       go_wp2_with fail
       go_quiet (fail)
       go_wp2_with fail
       go_ret
       exact ⟨by rw [HF.out];rfl,HE.out.trans (eM _ _)⟩
      have e5:(n2:Int) < 1:=by omega
      have HF:=zh (show lX (iX N Z n1 n2 n3 l)=1 by rw [iW (fun h=>t5 (by have:=h.2.2.2.2.2.1;omega))];rfl)
      clear HS
      go_enter Tryz.func88,Tryz.ntmps88
      go_wp2_with fail
      go_quiet (fail)
      go_wp2_with fail
      go_ret
      exact ⟨by rw [HF.out];rfl,HE.out.trans (eM _ _)⟩
     have e4:(n1:Int) < N:=by omega
     have HF:=zh (show lX (iX N Z n1 n2 n3 l)=1 by rw [iW (fun h=>t4 (by have:=h.2.2.2.2.1;omega))];rfl)
     clear HS
     go_enter Tryz.func88,Tryz.ntmps88
     go_wp2_with fail
     go_quiet (fail)
     go_wp2_with fail
     go_ret
     exact ⟨by rw [HF.out];rfl,HE.out.trans (eM _ _)⟩
    have e3:(10:Int) < (n1:Int):=by omega
    have HF:=zh (show lX (iX N Z n1 n2 n3 l)=1 by rw [iW (fun h=>t3 (by have:=h.2.2.2.1;omega))];rfl)
    clear HS
    go_enter Tryz.func88,Tryz.ntmps88
    go_wp2_with fail
    go_quiet (fail)
    go_wp2_with fail
    go_ret
    exact ⟨by rw [HF.out];rfl,HE.out.trans (eM _ _)⟩
   have e2:(n1:Int) < 1:=by omega
   have HF:=zh (show lX (iX N Z n1 n2 n3 l)=1 by rw [iW (fun h=>t2 (by have:=h.2.2.1;omega))];rfl)
   clear HS
   go_enter Tryz.func88,Tryz.ntmps88
   go_wp2_with fail
   go_quiet (fail)
   go_wp2_with fail
   go_ret
   exact ⟨by rw [HF.out];rfl,HE.out.trans (eM _ _)⟩
  have e1:7 < N:=by omega
  have HF:=zh (show lX (iX N Z n1 n2 n3 l)=1 by rw [iW (fun h=>t1 (by have:=h.2.1;omega))];rfl)
  clear HS
  go_enter Tryz.func88,Tryz.ntmps88
  go_wp2_with fail
  go_quiet (fail)
  go_wp2_with fail
  go_ret
  exact ⟨by rw [HF.out];rfl,HE.out.trans (eM _ _)⟩
 have e0:N < 1:=by omega
 have HF:=zh (show lX (iX N Z n1 n2 n3 l)=1 by rw [iW (fun h=>t0 (by have:=h.1;omega))];rfl)
 clear HS
 go_enter Tryz.func88,Tryz.ntmps88
 go_wp2_with fail
 go_quiet (fail)
 go_wp2_with fail
 go_ret
 exact ⟨by rw [HF.out];rfl,HE.out.trans (eM _ _)⟩
theorem aGj {R:OpR} (h:¬ (1≤R.k∧R.k≤6)):vOp R=false:=by unfold vOp;rw [decide_eq_false h,Bool.false_and]
theorem aV:nmc 0=#[.int .u8 0,.int .u8 0,.int .u8 0,.int .u8 0,.int .u8 0,.int .u8 0,.int .u8 0,.int .u8 0]:=sT.symm
theorem iA (b1 b2 b3 b4 b5 b6 b7 b8:Bool):b1=false ∨ (b1=true∧b2=false) ∨ (b1=true∧b2=true∧b3=false) ∨ (b1=true∧b2=true∧b3=true∧b4=false) ∨ (b1=true∧b2=true∧b3=true∧b4=true∧b5=false) ∨ (b1=true∧b2=true∧b3=true∧b4=true∧b5=true∧b6=false) ∨ (b1=true∧b2=true∧b3=true∧b4=true∧b5=true∧b6=true∧b7=false) ∨ (b1=true∧b2=true∧b3=true∧b4=true∧b5=true∧b6=true∧b7=true∧b8=false) ∨ (b1=true∧b2=true∧b3=true∧b4=true∧b5=true∧b6=true∧b7=true∧b8=true):=by
 cases b1 <;> simp
 cases b2 <;> simp
 cases b3 <;> simp
 cases b4 <;> simp
 cases b5 <;> simp
 cases b6 <;> simp
 cases b7 <;> simp
theorem aCM (R:OpR) (h:¬ (1≤R.k∧R.k≤6)) (w:World) :
  Calls Tryz.prog 81 #[.agg (opA R)] w fun e w'=>e=.returned (.bool false)∧Ext w w':=by
 have HU:=zh (fun W=>dX R.k W)
 rw [aAX h] at HU
 have HE:=zh ((Ext.refl w).alloc' (.cells (opA R) 69))
 clear h
 go_enter Tryz.func81,Tryz.ntmps81
 simp only [gA,iR]
 go_wp2_with (go_at_call 141;(with_reducible refine (HU.out _).mono ?_);rintro e wv ⟨rfl,rfl⟩)
 go_ret
 exact ⟨rfl,HE.out⟩
theorem aEM (R:OpR) (h:R.k=1) (w:World) (hR:R.ok w) :
  Calls Tryz.prog 81 #[.agg (opA R)] w fun e w'=>e=.returned (.bool (vOp R))∧Ext w w':=by
 have HU:=zh (fun W=>dX R.k W)
 rw [show jI R.k=5 from by rw [h];decide] at HU
 have l1:(R.n1:Int)≤9223372036854775807:=by have:=hR.pre.le;have:=hR.pre.cap;omega
 have l2:(R.n2:Int)≤9223372036854775807:=by have:=hR.prf.le;have:=hR.prf.cap;omega
 obtain ⟨b1,e1⟩:∃ b,aQ true R.tO 0 15=b:=⟨_,rfl⟩
 have H1:=zh (fun W=>aL true R.tO 0 15 W)
 rw [e1] at H1
 obtain ⟨b2,e2⟩:∃ b,aQ true R.am 1 1099511627776=b:=⟨_,rfl⟩
 have H2:=zh (fun W=>aL true R.am 1 1099511627776 W)
 rw [e2] at H2
 obtain ⟨b3,e3⟩:∃ b,aQ false R.ul 1 1000=b:=⟨_,rfl⟩
 have H3:=zh (fun W=>aL false R.ul 1 1000 W)
 rw [e3] at H3
 obtain ⟨b4,e4⟩:∃ b,aQ false R.va 0 9=b:=⟨_,rfl⟩
 have H4:=zh (fun W=>aL false R.va 0 9 W)
 rw [e4] at H4
 obtain ⟨b5,e5⟩:∃ b,aQ false (R.n1:Int) 0 32=b:=⟨_,rfl⟩
 have H5:=zh (fun W=>aL false (R.n1:Int) 0 32 W)
 rw [e5] at H5
 obtain ⟨b6,e6⟩:∃ b,aQ false (R.n2:Int) 1 2000=b:=⟨_,rfl⟩
 have H6:=zh (fun W=>aL false (R.n2:Int) 1 2000 W)
 rw [e6] at H6
 have E7:=zh (fun W=>cO R.hs 0 W)
 have E8:=zh (fun W=>cO R.lk 0 W)
 obtain ⟨b7,e7⟩:∃ b,decide (R.hs=0)=b:=⟨_,rfl⟩
 obtain ⟨b8,e8⟩:∃ b,decide (R.lk=0)=b:=⟨_,rfl⟩
 have HV:=zh (show vOp R=(b1 && (b2 && (b3 && (b4 && (b5 && (b6 && (b7 && b8))))))) by
  rw [← e1,← e2,← e3,← e4,← e5,← e6,← e7,← e8];unfold vOp;rw [h];rfl)
 rw [e7] at E7
 rw [e8] at E8
 have q7:=E7.out
 have q8:=E8.out
 rw [aV] at q7 q8
 have HE:=zh ((Ext.refl w).alloc' (.cells (opA R) 69))
 have hc:=iA b1 b2 b3 b4 b5 b6 b7 b8
 clear hR h e1 e2 e3 e4 e5 e6 E7 E8
 rcases hc with rfl | ⟨rfl,rfl⟩ | ⟨rfl,rfl,rfl⟩ | ⟨rfl,rfl,rfl,rfl⟩ | ⟨rfl,rfl,rfl,rfl,rfl⟩ | ⟨rfl,rfl,rfl,rfl,rfl,rfl⟩ | ⟨rfl,rfl,rfl,rfl,rfl,rfl,rfl⟩ | ⟨rfl,rfl,rfl,rfl,rfl,rfl,rfl,rfl⟩ | ⟨rfl,rfl,rfl,rfl,rfl,rfl,rfl,rfl⟩
 all_goals first
  | (exfalso;first | exact absurd e7 (by decide) | exact absurd e8 (by decide))
  | (
   clear e7 e8
   go_enter Tryz.func81,Tryz.ntmps81
   simp only [gA,iR]
   go_wp2_with (first | (go_at_call 141;(with_reducible refine (HU.out _).mono ?_);rintro e wv ⟨rfl,rfl⟩) | (go_at_call 142;(first | (with_reducible refine (H1.out _).mono ?_) | (with_reducible refine (H2.out _).mono ?_) | (with_reducible refine (H3.out _).mono ?_) | (with_reducible refine (H4.out _).mono ?_) | (with_reducible refine (H5.out _).mono ?_) | (with_reducible refine (H6.out _).mono ?_));rintro e wv ⟨rfl,rfl⟩))
   go_ret
   exact ⟨by rw [HV.out];rfl,HE.out⟩)
theorem aEL (R:OpR) (h:R.k=2) (w:World) (hR:R.ok w) :
  Calls Tryz.prog 81 #[.agg (opA R)] w fun e w'=>e=.returned (.bool (vOp R))∧Ext w w':=by
 have HU:=zh (fun W=>dX R.k W)
 rw [show jI R.k=29 from by rw [h];decide] at HU
 have l1:(R.n1:Int)≤9223372036854775807:=by have:=hR.pre.le;have:=hR.pre.cap;omega
 have l2:(R.n2:Int)≤9223372036854775807:=by have:=hR.prf.le;have:=hR.prf.cap;omega
 obtain ⟨b1,e1⟩:∃ b,aQ true R.tO 0 15=b:=⟨_,rfl⟩
 have H1:=zh (fun W=>aL true R.tO 0 15 W)
 rw [e1] at H1
 obtain ⟨b2,e2⟩:∃ b,aQ true R.am 1 1099511627776=b:=⟨_,rfl⟩
 have H2:=zh (fun W=>aL true R.am 1 1099511627776 W)
 rw [e2] at H2
 obtain ⟨b3,e3⟩:∃ b,aQ true R.ul 1 1000=b:=⟨_,rfl⟩
 have H3:=zh (fun W=>aL true R.ul 1 1000 W)
 rw [e3] at H3
 obtain ⟨b4,e4⟩:∃ b,aQ false R.va 0 9=b:=⟨_,rfl⟩
 have H4:=zh (fun W=>aL false R.va 0 9 W)
 rw [e4] at H4
 obtain ⟨b5,e5⟩:∃ b,aQ false (R.n1:Int) 0 32=b:=⟨_,rfl⟩
 have H5:=zh (fun W=>aL false (R.n1:Int) 0 32 W)
 rw [e5] at H5
 obtain ⟨b6,e6⟩:∃ b,aQ false (R.n2:Int) 1 2000=b:=⟨_,rfl⟩
 have H6:=zh (fun W=>aL false (R.n2:Int) 1 2000 W)
 rw [e6] at H6
 have E7:=zh (fun W=>cO R.hs 0 W)
 have E8:=zh (fun W=>cO R.lk 0 W)
 obtain ⟨b7,e7⟩:∃ b,true=b:=⟨_,rfl⟩
 obtain ⟨b8,e8⟩:∃ b,decide (R.lk=0)=b:=⟨_,rfl⟩
 have HV:=zh (show vOp R=(b1 && (b2 && (b3 && (b4 && (b5 && (b6 && (b7 && b8))))))) by
  rw [← e1,← e2,← e3,← e4,← e5,← e6,← e7,← e8];unfold vOp;rw [h];rfl)
 rw [e8] at E8
 have q7:=E7.out
 have q8:=E8.out
 rw [aV] at q7 q8
 have HE:=zh ((Ext.refl w).alloc' (.cells (opA R) 69))
 have hc:=iA b1 b2 b3 b4 b5 b6 b7 b8
 clear hR h e1 e2 e3 e4 e5 e6 E7 E8
 rcases hc with rfl | ⟨rfl,rfl⟩ | ⟨rfl,rfl,rfl⟩ | ⟨rfl,rfl,rfl,rfl⟩ | ⟨rfl,rfl,rfl,rfl,rfl⟩ | ⟨rfl,rfl,rfl,rfl,rfl,rfl⟩ | ⟨rfl,rfl,rfl,rfl,rfl,rfl,rfl⟩ | ⟨rfl,rfl,rfl,rfl,rfl,rfl,rfl,rfl⟩ | ⟨rfl,rfl,rfl,rfl,rfl,rfl,rfl,rfl⟩
 all_goals first
  | (exfalso;first | exact absurd e7 (by decide) | exact absurd e8 (by decide))
  | (
   clear e7 e8
   go_enter Tryz.func81,Tryz.ntmps81
   simp only [gA,iR]
   go_wp2_with (first | (go_at_call 141;(with_reducible refine (HU.out _).mono ?_);rintro e wv ⟨rfl,rfl⟩) | (go_at_call 142;(first | (with_reducible refine (H1.out _).mono ?_) | (with_reducible refine (H2.out _).mono ?_) | (with_reducible refine (H3.out _).mono ?_) | (with_reducible refine (H4.out _).mono ?_) | (with_reducible refine (H5.out _).mono ?_) | (with_reducible refine (H6.out _).mono ?_));rintro e wv ⟨rfl,rfl⟩))
   go_ret
   exact ⟨by rw [HV.out];rfl,HE.out⟩)
theorem aEK (R:OpR) (h:R.k=3) (w:World) (hR:R.ok w) :
  Calls Tryz.prog 81 #[.agg (opA R)] w fun e w'=>e=.returned (.bool (vOp R))∧Ext w w':=by
 have HU:=zh (fun W=>dX R.k W)
 rw [show jI R.k=101 from by rw [h];decide] at HU
 have l1:(R.n1:Int)≤9223372036854775807:=by have:=hR.pre.le;have:=hR.pre.cap;omega
 have l2:(R.n2:Int)≤9223372036854775807:=by have:=hR.prf.le;have:=hR.prf.cap;omega
 obtain ⟨b1,e1⟩:∃ b,aQ true R.tO 0 15=b:=⟨_,rfl⟩
 have H1:=zh (fun W=>aL true R.tO 0 15 W)
 rw [e1] at H1
 obtain ⟨b2,e2⟩:∃ b,aQ true R.am 1 1099511627776=b:=⟨_,rfl⟩
 have H2:=zh (fun W=>aL true R.am 1 1099511627776 W)
 rw [e2] at H2
 obtain ⟨b3,e3⟩:∃ b,aQ false R.ul 1 1000=b:=⟨_,rfl⟩
 have H3:=zh (fun W=>aL false R.ul 1 1000 W)
 rw [e3] at H3
 obtain ⟨b4,e4⟩:∃ b,aQ false R.va 0 9=b:=⟨_,rfl⟩
 have H4:=zh (fun W=>aL false R.va 0 9 W)
 rw [e4] at H4
 obtain ⟨b5,e5⟩:∃ b,aQ true (R.n1:Int) 0 32=b:=⟨_,rfl⟩
 have H5:=zh (fun W=>aL true (R.n1:Int) 0 32 W)
 rw [e5] at H5
 obtain ⟨b6,e6⟩:∃ b,aQ false (R.n2:Int) 1 2000=b:=⟨_,rfl⟩
 have H6:=zh (fun W=>aL false (R.n2:Int) 1 2000 W)
 rw [e6] at H6
 have E7:=zh (fun W=>cO R.hs 0 W)
 have E8:=zh (fun W=>cO R.lk 0 W)
 obtain ⟨b7,e7⟩:∃ b,decide (R.hs=0)=b:=⟨_,rfl⟩
 obtain ⟨b8,e8⟩:∃ b,true=b:=⟨_,rfl⟩
 have HV:=zh (show vOp R=(b1 && (b2 && (b3 && (b4 && (b5 && (b6 && (b7 && b8))))))) by
  rw [← e1,← e2,← e3,← e4,← e5,← e6,← e7,← e8];unfold vOp;rw [h];rfl)
 rw [e7] at E7
 have q7:=E7.out
 have q8:=E8.out
 rw [aV] at q7 q8
 have HE:=zh ((Ext.refl w).alloc' (.cells (opA R) 69))
 have hc:=iA b1 b2 b3 b4 b5 b6 b7 b8
 clear hR h e1 e2 e3 e4 e5 e6 E7 E8
 rcases hc with rfl | ⟨rfl,rfl⟩ | ⟨rfl,rfl,rfl⟩ | ⟨rfl,rfl,rfl,rfl⟩ | ⟨rfl,rfl,rfl,rfl,rfl⟩ | ⟨rfl,rfl,rfl,rfl,rfl,rfl⟩ | ⟨rfl,rfl,rfl,rfl,rfl,rfl,rfl⟩ | ⟨rfl,rfl,rfl,rfl,rfl,rfl,rfl,rfl⟩ | ⟨rfl,rfl,rfl,rfl,rfl,rfl,rfl,rfl⟩
 all_goals first
  | (exfalso;first | exact absurd e7 (by decide) | exact absurd e8 (by decide))
  | (
   clear e7 e8
   go_enter Tryz.func81,Tryz.ntmps81
   simp only [gA,iR]
   go_wp2_with (first | (go_at_call 141;(with_reducible refine (HU.out _).mono ?_);rintro e wv ⟨rfl,rfl⟩) | (go_at_call 142;(first | (with_reducible refine (H1.out _).mono ?_) | (with_reducible refine (H2.out _).mono ?_) | (with_reducible refine (H3.out _).mono ?_) | (with_reducible refine (H4.out _).mono ?_) | (with_reducible refine (H5.out _).mono ?_) | (with_reducible refine (H6.out _).mono ?_));rintro e wv ⟨rfl,rfl⟩))
   go_ret
   exact ⟨by rw [HV.out];rfl,HE.out⟩)
theorem aEJ (R:OpR) (h:R.k=4) (w:World) (hR:R.ok w) :
  Calls Tryz.prog 81 #[.agg (opA R)] w fun e w'=>e=.returned (.bool (vOp R))∧Ext w w':=by
 have HU:=zh (fun W=>dX R.k W)
 rw [show jI R.k=37 from by rw [h];decide] at HU
 have l1:(R.n1:Int)≤9223372036854775807:=by have:=hR.pre.le;have:=hR.pre.cap;omega
 have l2:(R.n2:Int)≤9223372036854775807:=by have:=hR.prf.le;have:=hR.prf.cap;omega
 obtain ⟨b1,e1⟩:∃ b,aQ true R.tO 0 15=b:=⟨_,rfl⟩
 have H1:=zh (fun W=>aL true R.tO 0 15 W)
 rw [e1] at H1
 obtain ⟨b2,e2⟩:∃ b,aQ true R.am 1 1099511627776=b:=⟨_,rfl⟩
 have H2:=zh (fun W=>aL true R.am 1 1099511627776 W)
 rw [e2] at H2
 obtain ⟨b3,e3⟩:∃ b,aQ false R.ul 1 1000=b:=⟨_,rfl⟩
 have H3:=zh (fun W=>aL false R.ul 1 1000 W)
 rw [e3] at H3
 obtain ⟨b4,e4⟩:∃ b,aQ false R.va 0 9=b:=⟨_,rfl⟩
 have H4:=zh (fun W=>aL false R.va 0 9 W)
 rw [e4] at H4
 obtain ⟨b5,e5⟩:∃ b,aQ false (R.n1:Int) 0 32=b:=⟨_,rfl⟩
 have H5:=zh (fun W=>aL false (R.n1:Int) 0 32 W)
 rw [e5] at H5
 obtain ⟨b6,e6⟩:∃ b,aQ false (R.n2:Int) 1 2000=b:=⟨_,rfl⟩
 have H6:=zh (fun W=>aL false (R.n2:Int) 1 2000 W)
 rw [e6] at H6
 have E7:=zh (fun W=>cO R.hs 0 W)
 have E8:=zh (fun W=>cO R.lk 0 W)
 obtain ⟨b7,e7⟩:∃ b,decide (R.hs=0)=b:=⟨_,rfl⟩
 obtain ⟨b8,e8⟩:∃ b,true=b:=⟨_,rfl⟩
 have HV:=zh (show vOp R=(b1 && (b2 && (b3 && (b4 && (b5 && (b6 && (b7 && b8))))))) by
  rw [← e1,← e2,← e3,← e4,← e5,← e6,← e7,← e8];unfold vOp;rw [h];rfl)
 rw [e7] at E7
 have q7:=E7.out
 have q8:=E8.out
 rw [aV] at q7 q8
 have HE:=zh ((Ext.refl w).alloc' (.cells (opA R) 69))
 have hc:=iA b1 b2 b3 b4 b5 b6 b7 b8
 clear hR h e1 e2 e3 e4 e5 e6 E7 E8
 rcases hc with rfl | ⟨rfl,rfl⟩ | ⟨rfl,rfl,rfl⟩ | ⟨rfl,rfl,rfl,rfl⟩ | ⟨rfl,rfl,rfl,rfl,rfl⟩ | ⟨rfl,rfl,rfl,rfl,rfl,rfl⟩ | ⟨rfl,rfl,rfl,rfl,rfl,rfl,rfl⟩ | ⟨rfl,rfl,rfl,rfl,rfl,rfl,rfl,rfl⟩ | ⟨rfl,rfl,rfl,rfl,rfl,rfl,rfl,rfl⟩
 all_goals first
  | (exfalso;first | exact absurd e7 (by decide) | exact absurd e8 (by decide))
  | (
   clear e7 e8
   go_enter Tryz.func81,Tryz.ntmps81
   simp only [gA,iR]
   go_wp2_with (first | (go_at_call 141;(with_reducible refine (HU.out _).mono ?_);rintro e wv ⟨rfl,rfl⟩) | (go_at_call 142;(first | (with_reducible refine (H1.out _).mono ?_) | (with_reducible refine (H2.out _).mono ?_) | (with_reducible refine (H3.out _).mono ?_) | (with_reducible refine (H4.out _).mono ?_) | (with_reducible refine (H5.out _).mono ?_) | (with_reducible refine (H6.out _).mono ?_));rintro e wv ⟨rfl,rfl⟩))
   go_ret
   exact ⟨by rw [HV.out];rfl,HE.out⟩)
theorem aEI (R:OpR) (h:R.k=5) (w:World) (hR:R.ok w) :
  Calls Tryz.prog 81 #[.agg (opA R)] w fun e w'=>e=.returned (.bool (vOp R))∧Ext w w':=by
 have HU:=zh (fun W=>dX R.k W)
 rw [show jI R.k=6 from by rw [h];decide] at HU
 have l1:(R.n1:Int)≤9223372036854775807:=by have:=hR.pre.le;have:=hR.pre.cap;omega
 have l2:(R.n2:Int)≤9223372036854775807:=by have:=hR.prf.le;have:=hR.prf.cap;omega
 obtain ⟨b1,e1⟩:∃ b,aQ false R.tO 0 15=b:=⟨_,rfl⟩
 have H1:=zh (fun W=>aL false R.tO 0 15 W)
 rw [e1] at H1
 obtain ⟨b2,e2⟩:∃ b,aQ true R.am 1 1099511627776=b:=⟨_,rfl⟩
 have H2:=zh (fun W=>aL true R.am 1 1099511627776 W)
 rw [e2] at H2
 obtain ⟨b3,e3⟩:∃ b,aQ false R.ul 1 1000=b:=⟨_,rfl⟩
 have H3:=zh (fun W=>aL false R.ul 1 1000 W)
 rw [e3] at H3
 obtain ⟨b4,e4⟩:∃ b,aQ true R.va 0 9=b:=⟨_,rfl⟩
 have H4:=zh (fun W=>aL true R.va 0 9 W)
 rw [e4] at H4
 obtain ⟨b5,e5⟩:∃ b,aQ false (R.n1:Int) 0 32=b:=⟨_,rfl⟩
 have H5:=zh (fun W=>aL false (R.n1:Int) 0 32 W)
 rw [e5] at H5
 obtain ⟨b6,e6⟩:∃ b,aQ false (R.n2:Int) 1 2000=b:=⟨_,rfl⟩
 have H6:=zh (fun W=>aL false (R.n2:Int) 1 2000 W)
 rw [e6] at H6
 have E7:=zh (fun W=>cO R.hs 0 W)
 have E8:=zh (fun W=>cO R.lk 0 W)
 obtain ⟨b7,e7⟩:∃ b,decide (R.hs=0)=b:=⟨_,rfl⟩
 obtain ⟨b8,e8⟩:∃ b,decide (R.lk=0)=b:=⟨_,rfl⟩
 have HV:=zh (show vOp R=(b1 && (b2 && (b3 && (b4 && (b5 && (b6 && (b7 && b8))))))) by
  rw [← e1,← e2,← e3,← e4,← e5,← e6,← e7,← e8];unfold vOp;rw [h];rfl)
 rw [e7] at E7
 rw [e8] at E8
 have q7:=E7.out
 have q8:=E8.out
 rw [aV] at q7 q8
 have HE:=zh ((Ext.refl w).alloc' (.cells (opA R) 69))
 have hc:=iA b1 b2 b3 b4 b5 b6 b7 b8
 clear hR h e1 e2 e3 e4 e5 e6 E7 E8
 rcases hc with rfl | ⟨rfl,rfl⟩ | ⟨rfl,rfl,rfl⟩ | ⟨rfl,rfl,rfl,rfl⟩ | ⟨rfl,rfl,rfl,rfl,rfl⟩ | ⟨rfl,rfl,rfl,rfl,rfl,rfl⟩ | ⟨rfl,rfl,rfl,rfl,rfl,rfl,rfl⟩ | ⟨rfl,rfl,rfl,rfl,rfl,rfl,rfl,rfl⟩ | ⟨rfl,rfl,rfl,rfl,rfl,rfl,rfl,rfl⟩
 all_goals first
  | (exfalso;first | exact absurd e7 (by decide) | exact absurd e8 (by decide))
  | (
   clear e7 e8
   go_enter Tryz.func81,Tryz.ntmps81
   simp only [gA,iR]
   go_wp2_with (first | (go_at_call 141;(with_reducible refine (HU.out _).mono ?_);rintro e wv ⟨rfl,rfl⟩) | (go_at_call 142;(first | (with_reducible refine (H1.out _).mono ?_) | (with_reducible refine (H2.out _).mono ?_) | (with_reducible refine (H3.out _).mono ?_) | (with_reducible refine (H4.out _).mono ?_) | (with_reducible refine (H5.out _).mono ?_) | (with_reducible refine (H6.out _).mono ?_));rintro e wv ⟨rfl,rfl⟩))
   go_ret
   exact ⟨by rw [HV.out];rfl,HE.out⟩)
theorem aEH (R:OpR) (h:R.k=6) (w:World) (hR:R.ok w) :
  Calls Tryz.prog 81 #[.agg (opA R)] w fun e w'=>e=.returned (.bool (vOp R))∧Ext w w':=by
 have HU:=zh (fun W=>dX R.k W)
 rw [show jI R.k=130 from by rw [h];decide] at HU
 have l1:(R.n1:Int)≤9223372036854775807:=by have:=hR.pre.le;have:=hR.pre.cap;omega
 have l2:(R.n2:Int)≤9223372036854775807:=by have:=hR.prf.le;have:=hR.prf.cap;omega
 obtain ⟨b1,e1⟩:∃ b,aQ false R.tO 0 15=b:=⟨_,rfl⟩
 have H1:=zh (fun W=>aL false R.tO 0 15 W)
 rw [e1] at H1
 obtain ⟨b2,e2⟩:∃ b,aQ false R.am 1 1099511627776=b:=⟨_,rfl⟩
 have H2:=zh (fun W=>aL false R.am 1 1099511627776 W)
 rw [e2] at H2
 obtain ⟨b3,e3⟩:∃ b,aQ false R.ul 1 1000=b:=⟨_,rfl⟩
 have H3:=zh (fun W=>aL false R.ul 1 1000 W)
 rw [e3] at H3
 obtain ⟨b4,e4⟩:∃ b,aQ true R.va 0 9=b:=⟨_,rfl⟩
 have H4:=zh (fun W=>aL true R.va 0 9 W)
 rw [e4] at H4
 obtain ⟨b5,e5⟩:∃ b,aQ false (R.n1:Int) 0 32=b:=⟨_,rfl⟩
 have H5:=zh (fun W=>aL false (R.n1:Int) 0 32 W)
 rw [e5] at H5
 obtain ⟨b6,e6⟩:∃ b,aQ true (R.n2:Int) 1 2000=b:=⟨_,rfl⟩
 have H6:=zh (fun W=>aL true (R.n2:Int) 1 2000 W)
 rw [e6] at H6
 have E7:=zh (fun W=>cO R.hs 0 W)
 have E8:=zh (fun W=>cO R.lk 0 W)
 obtain ⟨b7,e7⟩:∃ b,decide (R.hs=0)=b:=⟨_,rfl⟩
 obtain ⟨b8,e8⟩:∃ b,decide (R.lk=0)=b:=⟨_,rfl⟩
 have HV:=zh (show vOp R=(b1 && (b2 && (b3 && (b4 && (b5 && (b6 && (b7 && b8))))))) by
  rw [← e1,← e2,← e3,← e4,← e5,← e6,← e7,← e8];unfold vOp;rw [h];rfl)
 rw [e7] at E7
 rw [e8] at E8
 have q7:=E7.out
 have q8:=E8.out
 rw [aV] at q7 q8
 have HE:=zh ((Ext.refl w).alloc' (.cells (opA R) 69))
 have hc:=iA b1 b2 b3 b4 b5 b6 b7 b8
 clear hR h e1 e2 e3 e4 e5 e6 E7 E8
 rcases hc with rfl | ⟨rfl,rfl⟩ | ⟨rfl,rfl,rfl⟩ | ⟨rfl,rfl,rfl,rfl⟩ | ⟨rfl,rfl,rfl,rfl,rfl⟩ | ⟨rfl,rfl,rfl,rfl,rfl,rfl⟩ | ⟨rfl,rfl,rfl,rfl,rfl,rfl,rfl⟩ | ⟨rfl,rfl,rfl,rfl,rfl,rfl,rfl,rfl⟩ | ⟨rfl,rfl,rfl,rfl,rfl,rfl,rfl,rfl⟩
 all_goals first
  | (exfalso;first | exact absurd e7 (by decide) | exact absurd e8 (by decide))
  | (
   clear e7 e8
   go_enter Tryz.func81,Tryz.ntmps81
   simp only [gA,iR]
   go_wp2_with (first | (go_at_call 141;(with_reducible refine (HU.out _).mono ?_);rintro e wv ⟨rfl,rfl⟩) | (go_at_call 142;(first | (with_reducible refine (H1.out _).mono ?_) | (with_reducible refine (H2.out _).mono ?_) | (with_reducible refine (H3.out _).mono ?_) | (with_reducible refine (H4.out _).mono ?_) | (with_reducible refine (H5.out _).mono ?_) | (with_reducible refine (H6.out _).mono ?_));rintro e wv ⟨rfl,rfl⟩))
   go_ret
   exact ⟨by rw [HV.out];rfl,HE.out⟩)
theorem aAV (R:OpR) (w:World) (hR:R.ok w) :
  Calls Tryz.prog 81 #[.agg (opA R)] w fun e w'=>e=.returned (.bool (vOp R))∧Ext w w':=by
 rcases iC R.k with h | h | h | h | h | h | h
 ·exact aEM R h w hR
 ·exact aEL R h w hR
 ·exact aEK R h w hR
 ·exact aEJ R h w hR
 ·exact aEI R h w hR
 ·exact aEH R h w hR
 rw [aGj h];exact aCM R h w
end
end Go.Proofs.YtohmmcahpakokaaGreat
