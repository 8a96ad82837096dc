/- slices.Clone at entries, numbers, locks and names; a state as a value. -/
import Derived.Lib.Overlaps
import Derived.Lib.AppendZerosOnto
import Derived.Lib.SliceRun
import Derived.Deep.Cut
import Derived.ArgAppend
import Derived.Test.YtohmmcahpakokaaGreatK20
set_option maxRecDepth 100000
set_option maxHeartbeats 8000000
set_option linter.unusedVariables false
set_option linter.unusedSimpArgs false
namespace Go.Proofs.YtohmmcahpakokaaGreat
open Go.RowKit
attribute [local go_sem ↓] Go.wp_at_zero Go.wp_at_succ
theorem gcs_none {α:Type} [RowT α] {L:List α} (h:gcs L=[]):L=[]:=by
 have:=congrArg List.length h
 rw [gcs_length] at this
 rcases Nat.mul_eq_zero.1 this with h | h
 ·exact List.length_eq_zero_iff.1 h
 ·exact absurd h (Nat.ne_of_gt RowT.pos)
theorem cloneDe_any (A:Option Addr) (n c:Nat) (L:List DeR) (w:World) (h:SlG w A n c L) (hn:n≤1000000000) :
  Calls Tryz.prog 90 #[.slice A n c] w fun e w'=>∃ A' c',e=.returned (.slice A' n c')∧w'.ownsRow w.heap.size 34 11 (.slice A' n c') n (gcs L)∧Ext w w':=by
 rcases A with _ | ad
 ·have hl:L=[]:=by
   rcases h.rd with h | ⟨b,o,h,_⟩
   ·exact gcs_none h
   ·cases h
  subst hl
  obtain rfl:n=0:=by have:=h.len;simpa using this.symm
  have hq:=run_eql_slice_nil (P:=Tryz.prog) w 27 34 none 0 c Tryz.underlying27
  go_enter Tryz.func90,Tryz.ntmps90
  go_wp2_with fail
  go_ret
  exact ⟨_,_,rfl,World.ownsRow_nil _ _ _ _,Ext.refl _⟩
 ·have hq := run_eql_slice_nil (P := Tryz.prog) w 27 34 (some ad) n c Tryz.underlying27
  have HO0:=zh (show (w.alloc (.cells #[] 34)).ownsRow w.heap.size 34 11 (.slice (some ⟨w.heap.size,0,none⟩) 0 0) 0 [] from World.ownsRow_made w #[] 0 (Nat.le_refl _) (Nat.zero_le _) rfl)
  have HS:=zh (h.ext ((Ext.refl w).alloc' (.cells #[] 34)))
  have HX:=zh ((Ext.refl w).alloc' (.cells #[] 34))
  have HL:=zh (show (gcs L).length=n * 11 by rw [gcs_length,h.len];rfl)
  clear h
  go_enter Tryz.func90,Tryz.ntmps90
  go_wp2_with (at_builtin;go_must (refine wpList_appGG deE rfl (.tmp 5) (.tmp 6) rfl w.heap.size _ _ _ [] rfl HO0.out _ n c (gcs L) rfl HS.out.rd HL.out (gcs_cell L) (by omega) (by omega) HX.out.size ?_;intro A' c' w' hO hg))
  go_ret
  exact ⟨_,_,rfl,by simpa using hO,Below.grown HX.out hg HX.out.size (fun k hk=>(World.ownsRow.lt HO0.out k hk).1)⟩
theorem cloneIn_any (A:Option Addr) (n c:Nat) (L:List Int) (w:World) (h:SlG w A n c L) (hn:n≤1000000000) :
  Calls Tryz.prog 91 #[.slice A n c] w fun e w'=>∃ A' c',e=.returned (.slice A' n c')∧w'.ownsRow w.heap.size 3 1 (.slice A' n c') n (gcs L)∧Ext w w':=by
 rcases A with _ | ad
 ·have hl:L=[]:=by
   rcases h.rd with h | ⟨b,o,h,_⟩
   ·exact gcs_none h
   ·cases h
  subst hl
  obtain rfl:n=0:=by have:=h.len;simpa using this.symm
  have hq:=run_eql_slice_nil (P:=Tryz.prog) w 38 3 none 0 c Tryz.underlying38
  go_enter Tryz.func91,Tryz.ntmps91
  go_wp2_with fail
  go_ret
  exact ⟨_,_,rfl,World.ownsRow_nil _ _ _ _,Ext.refl _⟩
 ·have hq := run_eql_slice_nil (P := Tryz.prog) w 38 3 (some ad) n c Tryz.underlying38
  have HO0:=zh (show (w.alloc (.cells #[] 3)).ownsRow w.heap.size 3 1 (.slice (some ⟨w.heap.size,0,none⟩) 0 0) 0 [] from World.ownsRow_made w #[] 0 (Nat.le_refl _) (Nat.zero_le _) rfl)
  have HS:=zh (h.ext ((Ext.refl w).alloc' (.cells #[] 3)))
  have HX:=zh ((Ext.refl w).alloc' (.cells #[] 3))
  have HL:=zh (show (gcs L).length=n * 1 by rw [gcs_length,h.len];rfl)
  clear h
  go_enter Tryz.func91,Tryz.ntmps91
  go_wp2_with (at_builtin;go_must (refine wpList_appGG inE rfl (.tmp 5) (.tmp 6) rfl w.heap.size _ _ _ [] rfl HO0.out _ n c (gcs L) rfl HS.out.rd HL.out (gcs_cell L) (by omega) (by omega) HX.out.size ?_;intro A' c' w' hO hg))
  go_ret
  exact ⟨_,_,rfl,by simpa using hO,Below.grown HX.out hg HX.out.size (fun k hk=>(World.ownsRow.lt HO0.out k hk).1)⟩
theorem cloneLk_any (A:Option Addr) (n c:Nat) (L:List LkR) (w:World) (h:SlG w A n c L) (hn:n≤1000000000) :
  Calls Tryz.prog 92 #[.slice A n c] w fun e w'=>∃ A' c',e=.returned (.slice A' n c')∧w'.ownsRow w.heap.size 94 19 (.slice A' n c') n (gcs L)∧Ext w w':=by
 rcases A with _ | ad
 ·have hl:L=[]:=by
   rcases h.rd with h | ⟨b,o,h,_⟩
   ·exact gcs_none h
   ·cases h
  subst hl
  obtain rfl:n=0:=by have:=h.len;simpa using this.symm
  have hq:=run_eql_slice_nil (P:=Tryz.prog) w 41 94 none 0 c Tryz.underlying41
  go_enter Tryz.func92,Tryz.ntmps92
  go_wp2_with fail
  go_ret
  exact ⟨_,_,rfl,World.ownsRow_nil _ _ _ _,Ext.refl _⟩
 ·have hq := run_eql_slice_nil (P := Tryz.prog) w 41 94 (some ad) n c Tryz.underlying41
  have HO0:=zh (show (w.alloc (.cells #[] 94)).ownsRow w.heap.size 94 19 (.slice (some ⟨w.heap.size,0,none⟩) 0 0) 0 [] from World.ownsRow_made w #[] 0 (Nat.le_refl _) (Nat.zero_le _) rfl)
  have HS:=zh (h.ext ((Ext.refl w).alloc' (.cells #[] 94)))
  have HX:=zh ((Ext.refl w).alloc' (.cells #[] 94))
  have HL:=zh (show (gcs L).length=n * 19 by rw [gcs_length,h.len];rfl)
  clear h
  go_enter Tryz.func92,Tryz.ntmps92
  go_wp2_with (at_builtin;go_must (refine wpList_appGG lkE rfl (.tmp 5) (.tmp 6) rfl w.heap.size _ _ _ [] rfl HO0.out _ n c (gcs L) rfl HS.out.rd HL.out (gcs_cell L) (by omega) (by omega) HX.out.size ?_;intro A' c' w' hO hg))
  go_ret
  exact ⟨_,_,rfl,by simpa using hO,Below.grown HX.out hg HX.out.size (fun k hk=>(World.ownsRow.lt HO0.out k hk).1)⟩
theorem cloneNm_any (A:Option Addr) (n c:Nat) (L:List UInt64) (w:World) (h:SlG w A n c L) (hn:n≤1000000000) :
  Calls Tryz.prog 93 #[.slice A n c] w fun e w'=>∃ A' c',e=.returned (.slice A' n c')∧w'.ownsRow w.heap.size 30 8 (.slice A' n c') n (gcs L)∧Ext w w':=by
 rcases A with _ | ad
 ·have hl:L=[]:=by
   rcases h.rd with h | ⟨b,o,h,_⟩
   ·exact gcs_none h
   ·cases h
  subst hl
  obtain rfl:n=0:=by have:=h.len;simpa using this.symm
  have hq:=run_eql_slice_nil (P:=Tryz.prog) w 37 30 none 0 c Tryz.underlying37
  go_enter Tryz.func93,Tryz.ntmps93
  go_wp2_with fail
  go_ret
  exact ⟨_,_,rfl,World.ownsRow_nil _ _ _ _,Ext.refl _⟩
 ·have hq := run_eql_slice_nil (P := Tryz.prog) w 37 30 (some ad) n c Tryz.underlying37
  have HO0:=zh (show (w.alloc (.cells #[] 30)).ownsRow w.heap.size 30 8 (.slice (some ⟨w.heap.size,0,none⟩) 0 0) 0 [] from World.ownsRow_made w #[] 0 (Nat.le_refl _) (Nat.zero_le _) rfl)
  have HS:=zh (h.ext ((Ext.refl w).alloc' (.cells #[] 30)))
  have HX:=zh ((Ext.refl w).alloc' (.cells #[] 30))
  have HL:=zh (show (gcs L).length=n * 8 by rw [gcs_length,h.len];rfl)
  clear h
  go_enter Tryz.func93,Tryz.ntmps93
  go_wp2_with (at_builtin;go_must (refine wpList_appGG namesE rfl (.tmp 5) (.tmp 6) rfl w.heap.size _ _ _ [] rfl HO0.out _ n c (gcs L) rfl HS.out.rd HL.out (gcs_cell L) (by omega) (by omega) HX.out.size ?_;intro A' c' w' hO hg))
  go_ret
  exact ⟨_,_,rfl,by simpa using hO,Below.grown HX.out hg HX.out.size (fun k hk=>(World.ownsRow.lt HO0.out k hk).1)⟩
structure StR where
 A1:Option Addr
 n1:Nat
 c1:Nat
 C:List DeR
 A2:Option Addr
 n2:Nat
 c2:Nat
 Q:List Int
 A3:Option Addr
 n3:Nat
 c3:Nat
 K:List LkR
 A4:Option Addr
 n4:Nat
 c4:Nat
 P:List UInt64
 G:Int
def StR.V (s:StR):StV:=⟨s.C,s.Q,s.K,s.P,s.G⟩
abbrev ssA (s:StR):Array Value:=#[.slice s.A1 s.n1 s.c1,.slice s.A2 s.n2 s.c2,.slice s.A3 s.n3 s.c3,.slice s.A4 s.n4 s.c4,.int .i64 s.G]
structure StR.ok (s:StR) (w:World):Prop where
 s1:SlG w s.A1 s.n1 s.c1 s.C
 s2:SlG w s.A2 s.n2 s.c2 s.Q
 s3:SlG w s.A3 s.n3 s.c3 s.K
 s4:SlG w s.A4 s.n4 s.c4 s.P
 g:wfI s.G
theorem StR.ok.ext {s:StR} {w w':World} (h:s.ok w) (e:Ext w w'):s.ok w':=⟨h.s1.ext e,h.s2.ext e,h.s3.ext e,h.s4.ext e,h.g⟩
structure OwnS (w:World) (base:Nat) (s:StR):Prop where
 o1:w.ownsRow base 34 11 (.slice s.A1 s.n1 s.c1) s.n1 (gcs s.C)
 o2:w.ownsRow base 3 1 (.slice s.A2 s.n2 s.c2) s.n2 (gcs s.Q)
 o3:w.ownsRow base 94 19 (.slice s.A3 s.n3 s.c3) s.n3 (gcs s.K)
 o4:w.ownsRow base 30 8 (.slice s.A4 s.n4 s.c4) s.n4 (gcs s.P)
 k1:∀ d ∈ s.C,deW d
 k2:∀ z ∈ s.Q,wfI z
 k3:∀ l ∈ s.K,lkW l
 g:wfI s.G
theorem OwnS.ok {w:World} {base:Nat} {s:StR} (h:OwnS w base s):s.ok w :=
 ⟨OwnG.sl (e:=34) h.o1 h.k1,OwnG.sl (e:=3) h.o2 h.k2,OwnG.sl (e:=94) h.o3 h.k3,OwnG.sl (e:=30) h.o4 (fun _ _=>trivial),h.g⟩
theorem OwnS.ext {w w':World} {base:Nat} {s:StR} (h:OwnS w base s) (e:Ext w w'):OwnS w' base s:=⟨own_ext h.o1 e,own_ext h.o2 e,own_ext h.o3 e,own_ext h.o4 e,h.k1,h.k2,h.k3,h.g⟩
theorem OwnS.mono {w:World} {base base':Nat} {s:StR} (h:OwnS w base s) (hb:base'≤base):OwnS w base' s:=⟨own_mono h.o1 hb,own_mono h.o2 hb,own_mono h.o3 hb,own_mono h.o4 hb,h.k1,h.k2,h.k3,h.g⟩
theorem OwnS.kept {w w':World} {base:Nat} {s:StR} {X:Nat} {t:TypeId} {cs:Array Value} (h:OwnS w base s) (hg:w.grownBy w' (some X)) (hb:Blk w X t cs) (h1:t ≠ 34) (h2:t ≠ 3) (h3:t ≠ 94) (h4:t ≠ 30):OwnS w' base s :=
 ⟨h.o1.kept hg (.inr (Ne.symm (own_other h.o1 hb h1))),h.o2.kept hg (.inr (Ne.symm (own_other h.o2 hb h2))),h.o3.kept hg (.inr (Ne.symm (own_other h.o3 hb h3))),h.o4.kept hg (.inr (Ne.symm (own_other h.o4 hb h4))),h.k1,h.k2,h.k3,h.g⟩
theorem OwnS.l1 {w:World} {base:Nat} {s:StR} (h:OwnS w base s):s.C.length=s.n1:=OwnG.len (e:=34) h.o1
theorem OwnS.l2 {w:World} {base:Nat} {s:StR} (h:OwnS w base s):s.Q.length=s.n2:=OwnG.len (e:=3) h.o2
theorem OwnS.l3 {w:World} {base:Nat} {s:StR} (h:OwnS w base s):s.K.length=s.n3:=OwnG.len (e:=94) h.o3
theorem OwnS.l4 {w:World} {base:Nat} {s:StR} (h:OwnS w base s):s.P.length=s.n4:=OwnG.len (e:=30) h.o4
theorem ss_facts {w:World} {g:Nat} {t:TypeId} {s:StR} (h:Blk w g t (ssA s)):w.cell? ⟨g,0,none⟩=some (.slice s.A1 s.n1 s.c1)∧w.cell? ⟨g,1,none⟩=some (.slice s.A2 s.n2 s.c2)∧w.cell? ⟨g,2,none⟩=some (.slice s.A3 s.n3 s.c3)∧w.cell? ⟨g,3,none⟩=some (.slice s.A4 s.n4 s.c4)∧w.cell? ⟨g,4,none⟩=some (.int .i64 s.G) :=
 ⟨h.cell 0,h.cell 1,h.cell 2,h.cell 3,h.cell 4⟩
def ss0:StR:=⟨none,0,0,[],none,0,0,[],none,0,0,[],none,0,0,[],0⟩
def StOut (w:World) (V:StV) (e:Ending) (w':World):Prop:=∃ s,e=.returned (.agg (ssA s))∧OwnS w' w.heap.size s∧s.V=V∧Ext w w'
end Go.Proofs.YtohmmcahpakokaaGreat
namespace Go.Proofs.YtohmmcahpakokaaGreat
open Go.RowKit
structure StB (w0 w:World) (g:Nat) (s:StR):Prop where
 blk:Blk w g 44 (ssA s)
 own:OwnS w w0.heap.size s
 low:Ext w0 w
 hg:w0.heap.size≤g
section
variable {w0 w w':World} {g:Nat} {s:StR}
theorem StB.ext (h:StB w0 w g s) (e:Ext w w'):StB w0 w' g s:=⟨h.blk.ext e,h.own.ext e,h.low.trans e,h.hg⟩
theorem StB.start {z:StR} (ho:OwnS w w0.heap.size z) (hbl:Blk w g 44 (ssA s)) (hl:Ext w0 w) (hg:w0.heap.size≤g):StB w0 (w.setCells g 0 (ssA z).toList) g z :=
 ⟨blk_whole (ds:=ssA z) hbl rfl,ho.kept (grown_setCells' _ _ _ _) hbl (by decide) (by decide) (by decide) (by decide),Below.setCells' hl hg _ _,hg⟩
theorem StB.row1 (h:StB w0 w g s) (hg:w.grownBy w' (Value.ownBlock (.slice s.A1 s.n1 s.c1))) {A:Option Addr} {n c:Nat} {C:List DeR} (ho:w'.ownsRow w0.heap.size 34 11 (.slice A n c) n (gcs C)) (hk:∀ d ∈ C,deW d) :
  StB w0 (w'.setCell ⟨g,0,none⟩ (.slice A n c)) g { s with A1:=A,n1:=n,c1:=c,C:=C }:=by
 have hb:Blk w' g 44 (ssA s):=h.blk.grown hg (own_other h.own.o1 h.blk (by decide))
 have hs:=grown_set w' g 0 (.slice A n c)
 have o2:=World.ownsRow.kept h.own.o2 hg (own_ne h.own.o2 h.own.o1 (by decide))
 have o3:=World.ownsRow.kept h.own.o3 hg (own_ne h.own.o3 h.own.o1 (by decide))
 have o4:=World.ownsRow.kept h.own.o4 hg (own_ne h.own.o4 h.own.o1 (by decide))
 exact ⟨hb.set 0 _,OwnS.kept (s:={ s with A1:=A,n1:=n,c1:=c,C:=C }) ⟨ho,o2,o3,o4,hk,h.own.k2,h.own.k3,h.own.g⟩ hs hb (by decide) (by decide) (by decide) (by decide),
  (Below.grown h.low hg h.low.size (fun k hk=>(World.ownsRow.lt h.own.o1 k hk).1)).setCell (p:=⟨g,0,none⟩) h.hg _,h.hg⟩
theorem StB.row3 (h:StB w0 w g s) (hg:w.grownBy w' (Value.ownBlock (.slice s.A3 s.n3 s.c3))) {A:Option Addr} {n c:Nat} {C:List LkR} (ho:w'.ownsRow w0.heap.size 94 19 (.slice A n c) n (gcs C)) (hk:∀ d ∈ C,lkW d) :
  StB w0 (w'.setCell ⟨g,2,none⟩ (.slice A n c)) g { s with A3:=A,n3:=n,c3:=c,K:=C }:=by
 have hb:Blk w' g 44 (ssA s):=h.blk.grown hg (own_other h.own.o3 h.blk (by decide))
 have hs:=grown_set w' g 2 (.slice A n c)
 have o1:=World.ownsRow.kept h.own.o1 hg (own_ne h.own.o1 h.own.o3 (by decide))
 have o2:=World.ownsRow.kept h.own.o2 hg (own_ne h.own.o2 h.own.o3 (by decide))
 have o4:=World.ownsRow.kept h.own.o4 hg (own_ne h.own.o4 h.own.o3 (by decide))
 exact ⟨hb.set 2 _,OwnS.kept (s:={ s with A3:=A,n3:=n,c3:=c,K:=C }) ⟨o1,o2,ho,o4,h.own.k1,h.own.k2,hk,h.own.g⟩ hs hb (by decide) (by decide) (by decide) (by decide),
  (Below.grown h.low hg h.low.size (fun k hk=>(World.ownsRow.lt h.own.o3 k hk).1)).setCell (p:=⟨g,2,none⟩) h.hg _,h.hg⟩
theorem StB.row4 (h:StB w0 w g s) (hg:w.grownBy w' (Value.ownBlock (.slice s.A4 s.n4 s.c4))) {A:Option Addr} {n c:Nat} {C:List UInt64} (ho:w'.ownsRow w0.heap.size 30 8 (.slice A n c) n (gcs C)) :
  StB w0 (w'.setCell ⟨g,3,none⟩ (.slice A n c)) g { s with A4:=A,n4:=n,c4:=c,P:=C }:=by
 have hb:Blk w' g 44 (ssA s):=h.blk.grown hg (own_other h.own.o4 h.blk (by decide))
 have hs:=grown_set w' g 3 (.slice A n c)
 have o1:=World.ownsRow.kept h.own.o1 hg (own_ne h.own.o1 h.own.o4 (by decide))
 have o2:=World.ownsRow.kept h.own.o2 hg (own_ne h.own.o2 h.own.o4 (by decide))
 have o3:=World.ownsRow.kept h.own.o3 hg (own_ne h.own.o3 h.own.o4 (by decide))
 exact ⟨hb.set 3 _,OwnS.kept (s:={ s with A4:=A,n4:=n,c4:=c,P:=C }) ⟨o1,o2,o3,ho,h.own.k1,h.own.k2,h.own.k3,h.own.g⟩ hs hb (by decide) (by decide) (by decide) (by decide),
  (Below.grown h.low hg h.low.size (fun k hk=>(World.ownsRow.lt h.own.o4 k hk).1)).setCell (p:=⟨g,3,none⟩) h.hg _,h.hg⟩
theorem StB.cell1 (h:StB w0 w g s) {b:Nat} (hA:s.A1=some ⟨b,0,none⟩) (j:Nat) (v:Value) {C:List DeR} (hc:(gcs s.C).set j v=gcs C) (hk:∀ d ∈ C,deW d) :
  StB w0 (w.setCell ⟨b,j,none⟩ v) g { s with C:=C }:=by
 obtain ⟨A1,n1,c1,C1,A2,n2,c2,Q1,A3,n3,c3,K1,A4,n4,c4,P1,G1⟩:=s
 simp only at hA hc
 subst hA
 obtain ⟨k1,k2⟩:=World.ownsRow.stored h.own.o1 j v
 rw [hc] at k1
 have hg:w.grownBy (w.setCell ⟨b,j,none⟩ v) (some b):=k2
 have hb:Blk (w.setCell ⟨b,j,none⟩ v) g 44 _:=h.blk.grown hg (own_other h.own.o1 h.blk (by decide))
 have o2:=World.ownsRow.kept h.own.o2 hg (own_ne h.own.o2 h.own.o1 (by decide))
 have o3:=World.ownsRow.kept h.own.o3 hg (own_ne h.own.o3 h.own.o1 (by decide))
 have o4:=World.ownsRow.kept h.own.o4 hg (own_ne h.own.o4 h.own.o1 (by decide))
 exact ⟨hb,⟨k1,o2,o3,o4,hk,h.own.k2,h.own.k3,h.own.g⟩,Below.grown h.low hg h.low.size (fun k hk=>(World.ownsRow.lt h.own.o1 k hk).1),h.hg⟩
theorem StB.cell2 (h:StB w0 w g s) {b:Nat} (hA:s.A2=some ⟨b,0,none⟩) (j:Nat) (z:Int) (hz:wfI z) (hj:j < s.n2) :
  StB w0 (w.setCell ⟨b,j,none⟩ (.int .i64 z)) g { s with Q:=s.Q.set j z }:=by
 obtain ⟨A1,n1,c1,C1,A2,n2,c2,Q1,A3,n3,c3,K1,A4,n4,c4,P1,G1⟩:=s
 simp only at hA hj
 subst hA
 have hl:=h.own.l2
 obtain ⟨k1,k2⟩:=World.ownsRow.stored h.own.o2 j (.int .i64 z)
 have hc:(gcs Q1).set j (.int .i64 z)=gcs (Q1.set j z):=by
  have e:∀ L:List Int,gcs L=L.map fun z=>Value.int .i64 z:=fun L=>by
   induction L with
   | nil=>rfl
   | cons x r ih=>rw [gcs_cons,ih];rfl
  rw [e,e,List.map_set]
 simp only at k1
 rw [hc] at k1
 have hg:w.grownBy (w.setCell ⟨b,j,none⟩ (.int .i64 z)) (some b):=k2
 have hb:Blk (w.setCell ⟨b,j,none⟩ (.int .i64 z)) g 44 _:=h.blk.grown hg (own_other h.own.o2 h.blk (by decide))
 have o1:=World.ownsRow.kept h.own.o1 hg (own_ne h.own.o1 h.own.o2 (by decide))
 have o3:=World.ownsRow.kept h.own.o3 hg (own_ne h.own.o3 h.own.o2 (by decide))
 have o4:=World.ownsRow.kept h.own.o4 hg (own_ne h.own.o4 h.own.o2 (by decide))
 exact ⟨hb,⟨o1,k1,o3,o4,h.own.k1,fun y hy=>by
  rcases List.mem_or_eq_of_mem_set hy with hy | rfl
  ·exact h.own.k2 _ hy
  ·exact hz,h.own.k3,h.own.g⟩,Below.grown h.low hg h.low.size (fun k hk=>(World.ownsRow.lt h.own.o2 k hk).1),h.hg⟩
theorem StB.guilty (h:StB w0 w g s) (z:Int) (hz:wfI z):StB w0 (w.setCell ⟨g,4,none⟩ (.int .i64 z)) g { s with G:=z }:=by
 have hs:=grown_set w g 4 (.int .i64 z)
 have:=OwnS.kept h.own hs h.blk (by decide) (by decide) (by decide) (by decide)
 exact ⟨h.blk.set 4 _,⟨this.o1,this.o2,this.o3,this.o4,this.k1,this.k2,this.k3,hz⟩,h.low.setCell (p:=⟨g,4,none⟩) h.hg _,h.hg⟩
theorem StB.far (h:StB w0 w g s) (hg:w.grownBy w' (Value.ownBlock (.slice s.A1 s.n1 s.c1))) {X:Nat} {t:TypeId} {cs:Array Value} (hb:Blk w X t cs) (ht:t ≠ 34):Blk w' X t cs:=hb.grown hg (own_other h.own.o1 hb ht)
end
section
variable {C:List DeR} {c:CeR}
theorem fd_none (h:∀ k,k < C.length→decide ((nthG C k).c=c)=false):fdC C c=none:=by
 refine fdC_none.2 (fun d hd e=>?_)
 obtain ⟨k,hk,rfl⟩:=List.getElem_of_mem hd
 have:=h k hk
 rw [← nthG_eq hk] at this
 exact (of_decide_eq_false this) e
theorem fd_some:∀ {C:List DeR} {k:Nat},k < C.length→decide ((nthG C k).c=c)=true→(∀ j,j < k→decide ((nthG C j).c=c)=false)→fdC C c=some (nthG C k)
 | [],k,hk,_,_=>by simp at hk
 | d :: r,0,_,h1,_=>by rw [fdC_cons,if_pos (show d.c=c from of_decide_eq_true h1)];rfl
 | d :: r,k+1,hk,h1,h2=>by
  have:=h2 0 (by omega)
  rw [fdC_cons,if_neg (show ¬ d.c=c from of_decide_eq_false this)]
  exact fd_some (C:=r) (by simpa using hk) h1 (fun j hj=>h2 (j+1) (by omega))
theorem setC_at (n:Int):∀ {C:List DeR} {k:Nat},k < C.length→decide ((nthG C k).c=c)=true→(∀ j,j < k→decide ((nthG C j).c=c)=false)→setC c n C=if n=0 then C.take k ++ C.drop (k+1) else C.set k ⟨(nthG C k).c,n⟩
 | [],k,hk,_,_=>by simp at hk
 | d :: r,0,_,h1,_=>by
  have h1':d.c=c:=of_decide_eq_true h1
  unfold setC
  rw [if_pos h1']
  split
  ·rfl
  ·rfl
 | d :: r,k+1,hk,h1,h2=>by
  have:=h2 0 (by omega)
  have h0:¬ d.c=c:=of_decide_eq_false this
  unfold setC
  rw [if_neg h0,setC_at n (C:=r) (by simpa using hk) h1 (fun j hj=>h2 (j+1) (by omega))]
  split
  ·rfl
  ·rfl
theorem gcs_amt:∀ {C:List DeR} {k:Nat} (n:Int),k < C.length→(gcs C).set (k * 11+10) (.int .i64 n)=gcs (C.set k ⟨(nthG C k).c,n⟩)
 | [],k,n,hk=>by simp at hk
 | d :: r,0,n,_=>by
  rw [gcs_cons,List.set_cons_zero,gcs_cons,List.set_append_left _ _ (by show 10 < 11;omega)]
  rfl
 | d :: r,k+1,n,hk=>by
  rw [gcs_cons,List.set_cons_succ,gcs_cons,List.set_append_right _ _ (by show 11≤_;omega)]
  have:=gcs_amt (C:=r) (k:=k) n (by simpa using hk)
  rw [show (k+1) * 11+10 - (RowT.enc d).length=k * 11+10 from by show (k+1) * 11+10 - 11=_;omega,this]
  rfl
theorem addC_len (C:List DeR) (c:CeR) (a:Int):(addC C c a).length≤C.length+1:=by
 have hi:∀ (p:DeR→Bool) (x:DeR) (L:List DeR),(insB p x L).length=L.length+1:=fun p x L=>by
  induction L with
  | nil=>rfl
  | cons y r ih=>unfold insB;split <;> simp [ih]
 have hs:∀ (n:Int) (L:List DeR),(setC c n L).length≤L.length:=fun n L=>by
  induction L with
  | nil=>exact Nat.le_refl _
  | cons y r ih=>unfold setC;split <;> (try split) <;> simp <;> omega
 unfold addC
 split
 ·split
  ·omega
  ·rw [hi];exact Nat.le_refl _
 ·exact Nat.le_trans (hs _ _) (Nat.le_succ _)
theorem addL_len (l:List DeR):∀ (C:List DeR),(addL C l).length≤C.length+l.length:=by
 induction l with
 | nil=>intro C;exact Nat.le_refl _
 | cons d r ih =>
  intro C
  show (addL (addC C d.c d.a) r).length≤_
  have h1:=ih (addC C d.c d.a)
  have h2:=addC_len C d.c d.a
  rw [List.length_cons];omega
theorem addL_take {l:List DeR} {k:Nat} (hk:k < l.length) (C:List DeR):addL C (l.take (k+1))=addC (addL C (l.take k)) (nthG l k).c (nthG l k).a:=by
 rw [take_nthG hk];unfold addL;rw [List.foldl_append];rfl
end
end Go.Proofs.YtohmmcahpakokaaGreat
