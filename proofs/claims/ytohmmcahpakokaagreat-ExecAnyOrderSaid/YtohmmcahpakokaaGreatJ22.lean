/- slices.Clone at entries, numbers, locks and names; a state as a value. -/
import Derived.Test.YtohmmcahpakokaaGreatJ18
set_option maxRecDepth 100000
set_option maxHeartbeats 8000000
set_option linter.unusedVariables false
set_option linter.unusedSimpArgs false
namespace Go.Proofs.YtohmmcahpakokaaGreat
section
open Go.RowKit
attribute [local go_sem ↓] Go.wp_at_zero Go.wp_at_succ
theorem qD {α:Type} [RowT α] {L:List α} (h:gcs L=[]):L=[]:=by
 have:=congrArg List.length h
 rw [aH] at this
 rcases Nat.mul_eq_zero.1 this with h | h
 ·exact List.length_eq_zero_iff.1 h
 exact absurd h (Nat.ne_of_gt RowT.pos)
theorem aCp (A:Option Addr) (n c:Nat) (L:List DeR) (w:World) (h:SlG w A n c L) (hn:n≤1000000000) :
  Calls Tryz.prog 90 #[.slice A n c] w fun e w'=>∃ A' c',e=.returned (.slice A' n c')∧w'.ownsRow w.heap.size 34 11 (.slice A' n c') n (gcs L)∧Ext w w':=by
 rcases A with _ | ad
 ·have hl:L=[]:=by
   rcases h.rd with h | ⟨b,o,h,_⟩
   ·exact qD h
   cases h
  subst hl
  obtain rfl:n=0:=by have:=h.len;simpa using this.symm
  have hq:=run_eql_slice_nil (P:=Tryz.prog) w 27 34 none 0 c Tryz.underlying27
  go_enter Tryz.func90,Tryz.ntmps90
  go_wp2_with fail
  go_ret
  exact ⟨_,_,rfl,World.ownsRow_nil _ _ _ _,Ext.refl _⟩
 have hq:=run_eql_slice_nil (P:=Tryz.prog) w 27 34 (some ad) n c Tryz.underlying27
 have HO0:=zh (show (w.alloc (.cells #[] 34)).ownsRow w.heap.size 34 11 (.slice (some ⟨w.heap.size,0,none⟩) 0 0) 0 [] from World.ownsRow_made w #[] 0 (Nat.le_refl _) (Nat.zero_le _) rfl)
 have HS:=zh (h.ext ((Ext.refl w).alloc' (.cells #[] 34)))
 have HX:=zh ((Ext.refl w).alloc' (.cells #[] 34))
 have HL:=zh (show (gcs L).length=n * 11 by rw [aH,h.len];rfl)
 clear h
 go_enter Tryz.func90,Tryz.ntmps90
 go_wp2_with (at_builtin;go_must (refine bO deE rfl (.tmp 5) (.tmp 6) rfl w.heap.size _ _ _ [] rfl HO0.out _ n c (gcs L) rfl HS.out.rd HL.out (cD L) (by omega) (by omega) HX.out.size ?_;intro A' c' w' hO hg))
 go_ret
 exact ⟨_,_,rfl,by simpa using hO,Below.grown HX.out hg HX.out.size (fun k hk=>(World.ownsRow.lt HO0.out k hk).1)⟩
theorem aCo (A:Option Addr) (n c:Nat) (L:List Int) (w:World) (h:SlG w A n c L) (hn:n≤1000000000) :
  Calls Tryz.prog 91 #[.slice A n c] w fun e w'=>∃ A' c',e=.returned (.slice A' n c')∧w'.ownsRow w.heap.size 3 1 (.slice A' n c') n (gcs L)∧Ext w w':=by
 rcases A with _ | ad
 ·have hl:L=[]:=by
   rcases h.rd with h | ⟨b,o,h,_⟩
   ·exact qD h
   cases h
  subst hl
  obtain rfl:n=0:=by have:=h.len;simpa using this.symm
  have hq:=run_eql_slice_nil (P:=Tryz.prog) w 38 3 none 0 c Tryz.underlying38
  go_enter Tryz.func91,Tryz.ntmps91
  go_wp2_with fail
  go_ret
  exact ⟨_,_,rfl,World.ownsRow_nil _ _ _ _,Ext.refl _⟩
 have hq:=run_eql_slice_nil (P:=Tryz.prog) w 38 3 (some ad) n c Tryz.underlying38
 have HO0:=zh (show (w.alloc (.cells #[] 3)).ownsRow w.heap.size 3 1 (.slice (some ⟨w.heap.size,0,none⟩) 0 0) 0 [] from World.ownsRow_made w #[] 0 (Nat.le_refl _) (Nat.zero_le _) rfl)
 have HS:=zh (h.ext ((Ext.refl w).alloc' (.cells #[] 3)))
 have HX:=zh ((Ext.refl w).alloc' (.cells #[] 3))
 have HL:=zh (show (gcs L).length=n * 1 by rw [aH,h.len];rfl)
 clear h
 go_enter Tryz.func91,Tryz.ntmps91
 go_wp2_with (at_builtin;go_must (refine bO inE rfl (.tmp 5) (.tmp 6) rfl w.heap.size _ _ _ [] rfl HO0.out _ n c (gcs L) rfl HS.out.rd HL.out (cD L) (by omega) (by omega) HX.out.size ?_;intro A' c' w' hO hg))
 go_ret
 exact ⟨_,_,rfl,by simpa using hO,Below.grown HX.out hg HX.out.size (fun k hk=>(World.ownsRow.lt HO0.out k hk).1)⟩
theorem aCn (A:Option Addr) (n c:Nat) (L:List LkR) (w:World) (h:SlG w A n c L) (hn:n≤1000000000) :
  Calls Tryz.prog 92 #[.slice A n c] w fun e w'=>∃ A' c',e=.returned (.slice A' n c')∧w'.ownsRow w.heap.size 94 19 (.slice A' n c') n (gcs L)∧Ext w w':=by
 rcases A with _ | ad
 ·have hl:L=[]:=by
   rcases h.rd with h | ⟨b,o,h,_⟩
   ·exact qD h
   cases h
  subst hl
  obtain rfl:n=0:=by have:=h.len;simpa using this.symm
  have hq:=run_eql_slice_nil (P:=Tryz.prog) w 41 94 none 0 c Tryz.underlying41
  go_enter Tryz.func92,Tryz.ntmps92
  go_wp2_with fail
  go_ret
  exact ⟨_,_,rfl,World.ownsRow_nil _ _ _ _,Ext.refl _⟩
 have hq:=run_eql_slice_nil (P:=Tryz.prog) w 41 94 (some ad) n c Tryz.underlying41
 have HO0:=zh (show (w.alloc (.cells #[] 94)).ownsRow w.heap.size 94 19 (.slice (some ⟨w.heap.size,0,none⟩) 0 0) 0 [] from World.ownsRow_made w #[] 0 (Nat.le_refl _) (Nat.zero_le _) rfl)
 have HS:=zh (h.ext ((Ext.refl w).alloc' (.cells #[] 94)))
 have HX:=zh ((Ext.refl w).alloc' (.cells #[] 94))
 have HL:=zh (show (gcs L).length=n * 19 by rw [aH,h.len];rfl)
 clear h
 go_enter Tryz.func92,Tryz.ntmps92
 go_wp2_with (at_builtin;go_must (refine bO lkE rfl (.tmp 5) (.tmp 6) rfl w.heap.size _ _ _ [] rfl HO0.out _ n c (gcs L) rfl HS.out.rd HL.out (cD L) (by omega) (by omega) HX.out.size ?_;intro A' c' w' hO hg))
 go_ret
 exact ⟨_,_,rfl,by simpa using hO,Below.grown HX.out hg HX.out.size (fun k hk=>(World.ownsRow.lt HO0.out k hk).1)⟩
theorem aCm (A:Option Addr) (n c:Nat) (L:List UInt64) (w:World) (h:SlG w A n c L) (hn:n≤1000000000) :
  Calls Tryz.prog 93 #[.slice A n c] w fun e w'=>∃ A' c',e=.returned (.slice A' n c')∧w'.ownsRow w.heap.size 30 8 (.slice A' n c') n (gcs L)∧Ext w w':=by
 rcases A with _ | ad
 ·have hl:L=[]:=by
   rcases h.rd with h | ⟨b,o,h,_⟩
   ·exact qD h
   cases h
  subst hl
  obtain rfl:n=0:=by have:=h.len;simpa using this.symm
  have hq:=run_eql_slice_nil (P:=Tryz.prog) w 37 30 none 0 c Tryz.underlying37
  go_enter Tryz.func93,Tryz.ntmps93
  go_wp2_with fail
  go_ret
  exact ⟨_,_,rfl,World.ownsRow_nil _ _ _ _,Ext.refl _⟩
 have hq:=run_eql_slice_nil (P:=Tryz.prog) w 37 30 (some ad) n c Tryz.underlying37
 have HO0:=zh (show (w.alloc (.cells #[] 30)).ownsRow w.heap.size 30 8 (.slice (some ⟨w.heap.size,0,none⟩) 0 0) 0 [] from World.ownsRow_made w #[] 0 (Nat.le_refl _) (Nat.zero_le _) rfl)
 have HS:=zh (h.ext ((Ext.refl w).alloc' (.cells #[] 30)))
 have HX:=zh ((Ext.refl w).alloc' (.cells #[] 30))
 have HL:=zh (show (gcs L).length=n * 8 by rw [aH,h.len];rfl)
 clear h
 go_enter Tryz.func93,Tryz.ntmps93
 go_wp2_with (at_builtin;go_must (refine bO dC rfl (.tmp 5) (.tmp 6) rfl w.heap.size _ _ _ [] rfl HO0.out _ n c (gcs L) rfl HS.out.rd HL.out (cD L) (by omega) (by omega) HX.out.size ?_;intro A' c' w' hO hg))
 go_ret
 exact ⟨_,_,rfl,by simpa using hO,Below.grown HX.out hg HX.out.size (fun k hk=>(World.ownsRow.lt HO0.out k hk).1)⟩
structure StR where
 A1:Option Addr
 n1:Nat
 c1:Nat
 C:List DeR
 A2:Option Addr
 n2:Nat
 c2:Nat
 Q:List Int
 A3:Option Addr
 n3:Nat
 c3:Nat
 K:List LkR
 A4:Option Addr
 n4:Nat
 c4:Nat
 P:List UInt64
 G:Int
def StR.V (s:StR):StV:=⟨s.C,s.Q,s.K,s.P,s.G⟩
abbrev ssA (s:StR):Array Value:=#[.slice s.A1 s.n1 s.c1,.slice s.A2 s.n2 s.c2,.slice s.A3 s.n3 s.c3,.slice s.A4 s.n4 s.c4,.int .i64 s.G]
structure StR.ok (s:StR) (w:World):Prop where
 s1:SlG w s.A1 s.n1 s.c1 s.C
 s2:SlG w s.A2 s.n2 s.c2 s.Q
 s3:SlG w s.A3 s.n3 s.c3 s.K
 s4:SlG w s.A4 s.n4 s.c4 s.P
 g:wfI s.G
theorem StR.ok.ext {s:StR} {w w':World} (h:s.ok w) (e:Ext w w'):s.ok w':=⟨h.s1.ext e,h.s2.ext e,h.s3.ext e,h.s4.ext e,h.g⟩
structure OwnS (w:World) (base:Nat) (s:StR):Prop where
 o1:w.ownsRow base 34 11 (.slice s.A1 s.n1 s.c1) s.n1 (gcs s.C)
 o2:w.ownsRow base 3 1 (.slice s.A2 s.n2 s.c2) s.n2 (gcs s.Q)
 o3:w.ownsRow base 94 19 (.slice s.A3 s.n3 s.c3) s.n3 (gcs s.K)
 o4:w.ownsRow base 30 8 (.slice s.A4 s.n4 s.c4) s.n4 (gcs s.P)
 k1:∀ d ∈ s.C,deW d
 k2:∀ z ∈ s.Q,wfI z
 k3:∀ l ∈ s.K,lkW l
 g:wfI s.G
theorem OwnS.ok {w:World} {base:Nat} {s:StR} (h:OwnS w base s):s.ok w :=
 ⟨OwnG.sl (e:=34) h.o1 h.k1,OwnG.sl (e:=3) h.o2 h.k2,OwnG.sl (e:=94) h.o3 h.k3,OwnG.sl (e:=30) h.o4 (fun _ _=>trivial),h.g⟩
theorem OwnS.ext {w w':World} {base:Nat} {s:StR} (h:OwnS w base s) (e:Ext w w'):OwnS w' base s:=⟨bA h.o1 e,bA h.o2 e,bA h.o3 e,bA h.o4 e,h.k1,h.k2,h.k3,h.g⟩
theorem OwnS.mono {w:World} {base base':Nat} {s:StR} (h:OwnS w base s) (hb:base'≤base):OwnS w base' s:=⟨bB h.o1 hb,bB h.o2 hb,bB h.o3 hb,bB h.o4 hb,h.k1,h.k2,h.k3,h.g⟩
theorem OwnS.kept {w w':World} {base:Nat} {s:StR} {X:Nat} {t:TypeId} {cs:Array Value} (h:OwnS w base s) (hg:w.grownBy w' (some X)) (hb:Blk w X t cs) (h1:t ≠ 34) (h2:t ≠ 3) (h3:t ≠ 94) (h4:t ≠ 30):OwnS w' base s :=
 ⟨h.o1.kept hg (.inr (Ne.symm (aI h.o1 hb h1))),h.o2.kept hg (.inr (Ne.symm (aI h.o2 hb h2))),h.o3.kept hg (.inr (Ne.symm (aI h.o3 hb h3))),h.o4.kept hg (.inr (Ne.symm (aI h.o4 hb h4))),h.k1,h.k2,h.k3,h.g⟩
theorem OwnS.l1 {w:World} {base:Nat} {s:StR} (h:OwnS w base s):s.C.length=s.n1:=OwnG.len (e:=34) h.o1
theorem OwnS.l2 {w:World} {base:Nat} {s:StR} (h:OwnS w base s):s.Q.length=s.n2:=OwnG.len (e:=3) h.o2
theorem OwnS.l3 {w:World} {base:Nat} {s:StR} (h:OwnS w base s):s.K.length=s.n3:=OwnG.len (e:=94) h.o3
theorem OwnS.l4 {w:World} {base:Nat} {s:StR} (h:OwnS w base s):s.P.length=s.n4:=OwnG.len (e:=30) h.o4
theorem aE {w:World} {g:Nat} {t:TypeId} {s:StR} (h:Blk w g t (ssA s)):w.cell? ⟨g,0,none⟩=some (.slice s.A1 s.n1 s.c1)∧w.cell? ⟨g,1,none⟩=some (.slice s.A2 s.n2 s.c2)∧w.cell? ⟨g,2,none⟩=some (.slice s.A3 s.n3 s.c3)∧w.cell? ⟨g,3,none⟩=some (.slice s.A4 s.n4 s.c4)∧w.cell? ⟨g,4,none⟩=some (.int .i64 s.G) :=
 ⟨h.cell 0,h.cell 1,h.cell 2,h.cell 3,h.cell 4⟩
def ss0:StR:=⟨none,0,0,[],none,0,0,[],none,0,0,[],none,0,0,[],0⟩
def lZ (w:World) (V:StV) (e:Ending) (w':World):Prop:=∃ s,e=.returned (.agg (ssA s))∧OwnS w' w.heap.size s∧s.V=V∧Ext w w'
section
variable {α:Type} [RowT α] {q:α→Bool} {L:List α} {r:Int} {n:Nat}
def IxIs (q:α→Bool) (L:List α) (r:Int):Prop:=(r=-1∧∀ k,k < L.length→q (nthG L k)=false) ∨ ∃ k:Nat,r=(k:Int)∧k < L.length∧q (nthG L k)=true∧∀ j,j < k→q (nthG L j)=false
theorem iS (q:α→Bool) (L:List α):(∀ k,k < L.length→q (nthG L k)=false) ∨ ∃ k:Nat,k < L.length∧q (nthG L k)=true∧∀ j,j < k→q (nthG L j)=false:=by
 suffices H:∀ n,n≤L.length→(∀ k,k < n→q (nthG L k)=false) ∨ ∃ k:Nat,k < n∧q (nthG L k)=true∧∀ j,j < k→q (nthG L j)=false from H _ (Nat.le_refl _)
 intro n
 induction n with
 | zero=>intro _;exact .inl (fun k hk=>absurd hk (Nat.not_lt_zero _))
 | succ n ih =>
  intro hn
  rcases ih (by omega) with h | ⟨k,h1,h2,h3⟩
  ·cases hq : q (nthG L n) with
   | false=>exact .inl (fun k hk=>by
     by_cases e:k=n
     ·rw [e];exact hq
     exact h k (by omega))
   | true=>exact .inr ⟨n,by omega,hq,h⟩
  exact .inr ⟨k,by omega,h2,h3⟩
theorem IxIs.hit (h:IxIs q L r) {k:Nat} (hk:k < L.length) (h1:q (nthG L k)=true) (h2:∀ j,j < k→q (nthG L j)=false):r=(k:Int):=by
 rcases h with ⟨rfl,h⟩ | ⟨m,rfl,hm,h3,h4⟩
 ·rw [h k hk] at h1;cases h1
 rcases Nat.lt_trichotomy k m with e | e | e
 ·rw [h4 k e] at h1;cases h1
 ·rw [e]
 rw [h2 m e] at h3;cases h3
theorem IxIs.none (h:IxIs q L r) (h2:∀ j,j < L.length→q (nthG L j)=false):r=-1:=by
 rcases h with ⟨rfl,h⟩ | ⟨m,rfl,hm,h3,h4⟩
 ·rfl
 rw [h2 m hm] at h3;cases h3
theorem wC {k:Nat} (h:∀ j,j < k→q (nthG L j)=false) (hk:q (nthG L k)=false):∀ j,j < k+1→q (nthG L j)=false:=fun j hj=>by
 by_cases e:j=k
 ·rw [e];exact hk
 exact h j (by omega)
end
structure Says {α:Type} [RowT α] (arr:α→Array Value) (fn:Nat) (caps:Array Value) (q:α→Bool) (w0:World):Prop where
 eg:∀ args w,(callFunc fn args).run Tryz.prog w=.ok (.enter fn args) w
 says:∀ x W,Ext w0 W→RowT.ok x W→Calls Tryz.prog fn (#[.agg (arr x)] ++ caps) W fun e w'=>e=.returned (.bool (q x))∧Ext W w'
theorem Says.at {α:Type} [RowT α] {arr:α→Array Value} {fn:Nat} {caps:Array Value} {q:α→Bool} {w0:World} (h:Says arr fn caps q w0) {w:World} {A:Option Addr} {n c:Nat} {L:List α} (hS:SlG w A n c L) (hE:Ext w0 w) {k:Nat} (hk:k < n) (v:Value) (hv:Value.agg (arr (nthG L k))=v) (b:Bool) (hb:q (nthG L k)=b) :
  Hid (Calls Tryz.prog fn (#[v] ++ caps) w fun e w'=>e=.returned (.bool b)∧Ext w w'):=by
 subst hv;subst hb
 exact zh (h.says _ w hE (hS.nth hk))
theorem uZ {fn:Nat} {caps:Array Value} {q:DeR→Bool} {w0:World} (ht:Says deA fn caps q w0) (w:World) (A:Option Addr) (n c:Nat) (L:List DeR) (h:SlG w A n c L) (hE:Ext w0 w) (r:Int) (hr:IxIs q L r) :
  Calls Tryz.prog 157 #[.slice A n c,.func (.func fn) #[] caps] w fun e w'=>e=.returned (.int .i64 r)∧Ext w w':=by
 have eg:=ht.eg
 have hcap:=h.cap
 have hle:=h.le
 have HT:=zh ht
 have HS:=zh h
 have HE0:=zh hE
 have HR:=zh hr
 have HLEN:=zh h.len
 clear ht h hE hr
 go_enter Tryz.func157,Tryz.ntmps157
 go_wp2_with fail
 go_loopw [8] (fun vi wr=>∃ k:Nat,vi=.int .i64 (k:Int)∧k≤n∧Hid (∀ j,j < k→q (nthG L j)=false)∧Hid (Ext w wr)) (fun i _=>n - (intOf i).toNat)
 case atStart=>exact ⟨0,rfl,Nat.zero_le _,zh (fun j hj=>absurd hj (Nat.not_lt_zero _)),zh (Ext.refl w)⟩
 case round =>
  obtain ⟨k,rfl,hk,HN,HE⟩:=hrel
  by_cases hlt:k < n
  ·have HS2 := zh (HS.out.ext HE.out)
   have HE3:=zh (HE0.out.trans HE.out)
   obtain ⟨b,o,rfl,hrow,-⟩:=HS2.out.at (by omega)
   have i1:(k:Int) < (n:Int):=by omega
   have i0:(0:Int)≤(k:Int):=by omega
   have hr:wr.rangeAt b (o+k * 11) (RowT.enc (nthG L k)):=cG (k:=k) hrow (by rw [HLEN.out];exact hlt)
   clear hrow
   obtain ⟨vx,hvx⟩:∃ v,Value.agg (deA (nthG L k))=v:=⟨_,rfl⟩
   cases hb:q (nthG L k) with
   | false =>
    have HN2:=zh (wC HN.out hb)
    have HC:=HT.out.at HS2.out HE3.out hlt vx hvx false hb
    obtain ⟨R,hR⟩:∃ R,nthG L k=R:=⟨_,rfl⟩
    rw [hR] at hr hvx
    have HVX:=zh hvx
    clear hvx hb hR
    go_wp2_with (first | (with_reducible refine aB deP rfl (.tmp 14) rfl b (o+k * 11) rfl R vx HVX.out hr ?_))
    refine HC.out.mono ?_
    rintro e w3 ⟨rfl,he3⟩
    have HE2:=zh (HE.out.trans he3)
    clear HC HVX he3 hr HS2 HE3
    go_wp2_with fail
    go_roundw
    case rel=>exact ⟨k+1,by go_num,hlt,HN2,HE2⟩
    case measure=>simp [intOf];omega
   | true =>
    have HQ:=zh (HR.out.hit (by rw [HLEN.out];exact hlt) hb HN.out)
    have HC:=HT.out.at HS2.out HE3.out hlt vx hvx true hb
    obtain ⟨R,hR⟩:∃ R,nthG L k=R:=⟨_,rfl⟩
    rw [hR] at hr hvx
    have HVX:=zh hvx
    clear hvx hb hR
    go_wp2_with (first | (with_reducible refine aB deP rfl (.tmp 14) rfl b (o+k * 11) rfl R vx HVX.out hr ?_))
    refine HC.out.mono ?_
    rintro e w3 ⟨rfl,he3⟩
    have HE2:=zh (HE.out.trans he3)
    clear HC HVX he3 hr HS2 HE3
    go_wp2_with fail
    go_ret
    exact ⟨by rw [HQ.out];rfl,HE2.out⟩
  have i1:¬ (k:Int) < (n:Int):=by omega
  have HQ:=zh (HR.out.none (fun j hj=>HN.out j (by rw [HLEN.out] at hj;omega)))
  go_wp2_with fail
  go_ret
  exact ⟨by rw [HQ.out];rfl,HE.out⟩
theorem uY {fn:Nat} {caps:Array Value} {q:LkR→Bool} {w0:World} (ht:Says lkA fn caps q w0) (w:World) (A:Option Addr) (n c:Nat) (L:List LkR) (h:SlG w A n c L) (hE:Ext w0 w) (r:Int) (hr:IxIs q L r) :
  Calls Tryz.prog 212 #[.slice A n c,.func (.func fn) #[] caps] w fun e w'=>e=.returned (.int .i64 r)∧Ext w w':=by
 have eg:=ht.eg
 have hcap:=h.cap
 have hle:=h.le
 have HT:=zh ht
 have HS:=zh h
 have HE0:=zh hE
 have HR:=zh hr
 have HLEN:=zh h.len
 clear ht h hE hr
 go_enter Tryz.func212,Tryz.ntmps212
 go_wp2_with fail
 go_loopw [8] (fun vi wr=>∃ k:Nat,vi=.int .i64 (k:Int)∧k≤n∧Hid (∀ j,j < k→q (nthG L j)=false)∧Hid (Ext w wr)) (fun i _=>n - (intOf i).toNat)
 case atStart=>exact ⟨0,rfl,Nat.zero_le _,zh (fun j hj=>absurd hj (Nat.not_lt_zero _)),zh (Ext.refl w)⟩
 case round =>
  obtain ⟨k,rfl,hk,HN,HE⟩:=hrel
  by_cases hlt:k < n
  ·have HS2 := zh (HS.out.ext HE.out)
   have HE3:=zh (HE0.out.trans HE.out)
   obtain ⟨b,o,rfl,hrow,-⟩:=HS2.out.at (by omega)
   have i1:(k:Int) < (n:Int):=by omega
   have i0:(0:Int)≤(k:Int):=by omega
   have hr:wr.rangeAt b (o+k * 19) (RowT.enc (nthG L k)):=cG (k:=k) hrow (by rw [HLEN.out];exact hlt)
   clear hrow
   obtain ⟨vx,hvx⟩:∃ v,Value.agg (lkA (nthG L k))=v:=⟨_,rfl⟩
   cases hb:q (nthG L k) with
   | false =>
    have HN2:=zh (wC HN.out hb)
    have HC:=HT.out.at HS2.out HE3.out hlt vx hvx false hb
    obtain ⟨R,hR⟩:∃ R,nthG L k=R:=⟨_,rfl⟩
    rw [hR] at hr hvx
    have HVX:=zh hvx
    clear hvx hb hR
    go_wp2_with (first | (with_reducible refine aB lkP rfl (.tmp 14) rfl b (o+k * 19) rfl R vx HVX.out hr ?_))
    refine HC.out.mono ?_
    rintro e w3 ⟨rfl,he3⟩
    have HE2:=zh (HE.out.trans he3)
    clear HC HVX he3 hr HS2 HE3
    go_wp2_with fail
    go_roundw
    case rel=>exact ⟨k+1,by go_num,hlt,HN2,HE2⟩
    case measure=>simp [intOf];omega
   | true =>
    have HQ:=zh (HR.out.hit (by rw [HLEN.out];exact hlt) hb HN.out)
    have HC:=HT.out.at HS2.out HE3.out hlt vx hvx true hb
    obtain ⟨R,hR⟩:∃ R,nthG L k=R:=⟨_,rfl⟩
    rw [hR] at hr hvx
    have HVX:=zh hvx
    clear hvx hb hR
    go_wp2_with (first | (with_reducible refine aB lkP rfl (.tmp 14) rfl b (o+k * 19) rfl R vx HVX.out hr ?_))
    refine HC.out.mono ?_
    rintro e w3 ⟨rfl,he3⟩
    have HE2:=zh (HE.out.trans he3)
    clear HC HVX he3 hr HS2 HE3
    go_wp2_with fail
    go_ret
    exact ⟨by rw [HQ.out];rfl,HE2.out⟩
  have i1:¬ (k:Int) < (n:Int):=by omega
  have HQ:=zh (HR.out.none (fun j hj=>HN.out j (by rw [HLEN.out] at hj;omega)))
  go_wp2_with fail
  go_ret
  exact ⟨by rw [HQ.out];rfl,HE.out⟩
theorem aBO {fn:Nat} {caps:Array Value} {q:UInt64→Bool} {w0:World} (ht:Says nmc fn caps q w0) (w:World) (A:Option Addr) (n c:Nat) (L:List UInt64) (h:SlG w A n c L) (hE:Ext w0 w) (r:Int) (hr:IxIs q L r) :
  Calls Tryz.prog 164 #[.slice A n c,.func (.func fn) #[] caps] w fun e w'=>e=.returned (.int .i64 r)∧Ext w w':=by
 have eg:=ht.eg
 have hcap:=h.cap
 have hle:=h.le
 have HT:=zh ht
 have HS:=zh h
 have HE0:=zh hE
 have HR:=zh hr
 have HLEN:=zh h.len
 clear ht h hE hr
 go_enter Tryz.func164,Tryz.ntmps164
 go_wp2_with fail
 go_loopw [8] (fun vi wr=>∃ k:Nat,vi=.int .i64 (k:Int)∧k≤n∧Hid (∀ j,j < k→q (nthG L j)=false)∧Hid (Ext w wr)) (fun i _=>n - (intOf i).toNat)
 case atStart=>exact ⟨0,rfl,Nat.zero_le _,zh (fun j hj=>absurd hj (Nat.not_lt_zero _)),zh (Ext.refl w)⟩
 case round =>
  obtain ⟨k,rfl,hk,HN,HE⟩:=hrel
  by_cases hlt:k < n
  ·have HS2 := zh (HS.out.ext HE.out)
   have HE3:=zh (HE0.out.trans HE.out)
   obtain ⟨b,o,rfl,hrow,-⟩:=HS2.out.at (by omega)
   have i1:(k:Int) < (n:Int):=by omega
   have i0:(0:Int)≤(k:Int):=by omega
   have hr:wr.rangeAt b (o+k * 8) (RowT.enc (nthG L k)):=cG (k:=k) hrow (by rw [HLEN.out];exact hlt)
   clear hrow
   obtain ⟨vx,hvx⟩:∃ v,Value.agg (nmc (nthG L k))=v:=⟨_,rfl⟩
   cases hb:q (nthG L k) with
   | false =>
    have HN2:=zh (wC HN.out hb)
    have HC:=HT.out.at HS2.out HE3.out hlt vx hvx false hb
    obtain ⟨R,hR⟩:∃ R,nthG L k=R:=⟨_,rfl⟩
    rw [hR] at hr hvx
    have HVX:=zh hvx
    clear hvx hb hR
    go_wp2_with (first | (with_reducible refine aB nmP rfl (.tmp 14) rfl b (o+k * 8) rfl R vx HVX.out hr ?_))
    refine HC.out.mono ?_
    rintro e w3 ⟨rfl,he3⟩
    have HE2:=zh (HE.out.trans he3)
    clear HC HVX he3 hr HS2 HE3
    go_wp2_with fail
    go_roundw
    case rel=>exact ⟨k+1,by go_num,hlt,HN2,HE2⟩
    case measure=>simp [intOf];omega
   | true =>
    have HQ:=zh (HR.out.hit (by rw [HLEN.out];exact hlt) hb HN.out)
    have HC:=HT.out.at HS2.out HE3.out hlt vx hvx true hb
    obtain ⟨R,hR⟩:∃ R,nthG L k=R:=⟨_,rfl⟩
    rw [hR] at hr hvx
    have HVX:=zh hvx
    clear hvx hb hR
    go_wp2_with (first | (with_reducible refine aB nmP rfl (.tmp 14) rfl b (o+k * 8) rfl R vx HVX.out hr ?_))
    refine HC.out.mono ?_
    rintro e w3 ⟨rfl,he3⟩
    have HE2:=zh (HE.out.trans he3)
    clear HC HVX he3 hr HS2 HE3
    go_wp2_with fail
    go_ret
    exact ⟨by rw [HQ.out];rfl,HE2.out⟩
  have i1:¬ (k:Int) < (n:Int):=by omega
  have HQ:=zh (HR.out.none (fun j hj=>HN.out j (by rw [HLEN.out] at hj;omega)))
  go_wp2_with fail
  go_ret
  exact ⟨by rw [HQ.out];rfl,HE.out⟩
end
end Go.Proofs.YtohmmcahpakokaaGreat
