/- slices.Clone at entries, numbers, locks and names; a state as a value. -/
import Derived.Deep.DeepCutAuto
import Derived.Deep.CutBlock
import Derived.Test.YtohmmcahpakokaaGreatC21
import Derived.Test.YtohmmcahpakokaaGreatLay
set_option maxRecDepth 100000
set_option maxHeartbeats 8000000
set_option linter.unusedVariables false
set_option linter.unusedSimpArgs false
namespace Go.Proofs.YtohmmcahpakokaaGreat
open Go.RowKit
attribute [local go_sem ↓] Go.wp_at_zero Go.wp_at_succ
theorem gcs_none {α:Type} [RowT α] {L:List α} (h:gcs L=[]):L=[]:=by
 have:=congrArg List.length h
 rw [gcs_length] at this
 rcases Nat.mul_eq_zero.1 this with h | h
 ·exact List.length_eq_zero_iff.1 h
 ·exact absurd h (Nat.ne_of_gt RowT.pos)
theorem cloneDe_any (A:Option Addr) (n c:Nat) (L:List DeR) (w:World) (h:SlG w A n c L) (hn:n≤1000000000) :
  Calls Tryz.prog 90 #[.slice A n c] w fun e w'=>∃ A' c',e=.returned (.slice A' n c')∧w'.ownsRow w.heap.size 34 11 (.slice A' n c') n (gcs L)∧Ext w w':=by
 rcases A with _ | ad
 ·have hl:L=[]:=by
   rcases h.rd with h | ⟨b,o,h,_⟩
   ·exact gcs_none h
   ·cases h
  subst hl
  obtain rfl:n=0:=by have:=h.len;simpa using this.symm
  have hq:=run_eql_slice_nil (P:=Tryz.prog) w 27 34 none 0 c Tryz.underlying27
  go_enter Tryz.func90,Tryz.ntmps90
  go_wp2_with fail
  go_ret
  exact ⟨_,_,rfl,World.ownsRow_nil _ _ _ _,Ext.refl _⟩
 ·have hq := run_eql_slice_nil (P := Tryz.prog) w 27 34 (some ad) n c Tryz.underlying27
  have HO0:=zh (show (w.alloc (.cells #[] 34)).ownsRow w.heap.size 34 11 (.slice (some ⟨w.heap.size,0,none⟩) 0 0) 0 [] from World.ownsRow_made w #[] 0 (Nat.le_refl _) (Nat.zero_le _) rfl)
  have HS:=zh (h.ext ((Ext.refl w).alloc' (.cells #[] 34)))
  have HX:=zh ((Ext.refl w).alloc' (.cells #[] 34))
  have HL:=zh (show (gcs L).length=n * 11 by rw [gcs_length,h.len];rfl)
  clear h
  go_enter Tryz.func90,Tryz.ntmps90
  go_wp2_with (at_builtin;go_must (refine wpList_appGG deE rfl (.tmp 5) (.tmp 6) rfl w.heap.size _ _ _ [] rfl HO0.out _ n c (gcs L) rfl HS.out.rd HL.out (gcs_cell L) (by omega) (by omega) HX.out.size ?_;intro A' c' w' hO hg))
  go_ret
  exact ⟨_,_,rfl,by simpa using hO,Below.grown HX.out hg HX.out.size (fun k hk=>(World.ownsRow.lt HO0.out k hk).1)⟩
theorem cloneIn_any (A:Option Addr) (n c:Nat) (L:List Int) (w:World) (h:SlG w A n c L) (hn:n≤1000000000) :
  Calls Tryz.prog 91 #[.slice A n c] w fun e w'=>∃ A' c',e=.returned (.slice A' n c')∧w'.ownsRow w.heap.size 3 1 (.slice A' n c') n (gcs L)∧Ext w w':=by
 rcases A with _ | ad
 ·have hl:L=[]:=by
   rcases h.rd with h | ⟨b,o,h,_⟩
   ·exact gcs_none h
   ·cases h
  subst hl
  obtain rfl:n=0:=by have:=h.len;simpa using this.symm
  have hq:=run_eql_slice_nil (P:=Tryz.prog) w 38 3 none 0 c Tryz.underlying38
  go_enter Tryz.func91,Tryz.ntmps91
  go_wp2_with fail
  go_ret
  exact ⟨_,_,rfl,World.ownsRow_nil _ _ _ _,Ext.refl _⟩
 ·have hq := run_eql_slice_nil (P := Tryz.prog) w 38 3 (some ad) n c Tryz.underlying38
  have HO0:=zh (show (w.alloc (.cells #[] 3)).ownsRow w.heap.size 3 1 (.slice (some ⟨w.heap.size,0,none⟩) 0 0) 0 [] from World.ownsRow_made w #[] 0 (Nat.le_refl _) (Nat.zero_le _) rfl)
  have HS:=zh (h.ext ((Ext.refl w).alloc' (.cells #[] 3)))
  have HX:=zh ((Ext.refl w).alloc' (.cells #[] 3))
  have HL:=zh (show (gcs L).length=n * 1 by rw [gcs_length,h.len];rfl)
  clear h
  go_enter Tryz.func91,Tryz.ntmps91
  go_wp2_with (at_builtin;go_must (refine wpList_appGG inE rfl (.tmp 5) (.tmp 6) rfl w.heap.size _ _ _ [] rfl HO0.out _ n c (gcs L) rfl HS.out.rd HL.out (gcs_cell L) (by omega) (by omega) HX.out.size ?_;intro A' c' w' hO hg))
  go_ret
  exact ⟨_,_,rfl,by simpa using hO,Below.grown HX.out hg HX.out.size (fun k hk=>(World.ownsRow.lt HO0.out k hk).1)⟩
theorem cloneLk_any (A:Option Addr) (n c:Nat) (L:List LkR) (w:World) (h:SlG w A n c L) (hn:n≤1000000000) :
  Calls Tryz.prog 92 #[.slice A n c] w fun e w'=>∃ A' c',e=.returned (.slice A' n c')∧w'.ownsRow w.heap.size 94 19 (.slice A' n c') n (gcs L)∧Ext w w':=by
 rcases A with _ | ad
 ·have hl:L=[]:=by
   rcases h.rd with h | ⟨b,o,h,_⟩
   ·exact gcs_none h
   ·cases h
  subst hl
  obtain rfl:n=0:=by have:=h.len;simpa using this.symm
  have hq:=run_eql_slice_nil (P:=Tryz.prog) w 41 94 none 0 c Tryz.underlying41
  go_enter Tryz.func92,Tryz.ntmps92
  go_wp2_with fail
  go_ret
  exact ⟨_,_,rfl,World.ownsRow_nil _ _ _ _,Ext.refl _⟩
 ·have hq := run_eql_slice_nil (P := Tryz.prog) w 41 94 (some ad) n c Tryz.underlying41
  have HO0:=zh (show (w.alloc (.cells #[] 94)).ownsRow w.heap.size 94 19 (.slice (some ⟨w.heap.size,0,none⟩) 0 0) 0 [] from World.ownsRow_made w #[] 0 (Nat.le_refl _) (Nat.zero_le _) rfl)
  have HS:=zh (h.ext ((Ext.refl w).alloc' (.cells #[] 94)))
  have HX:=zh ((Ext.refl w).alloc' (.cells #[] 94))
  have HL:=zh (show (gcs L).length=n * 19 by rw [gcs_length,h.len];rfl)
  clear h
  go_enter Tryz.func92,Tryz.ntmps92
  go_wp2_with (at_builtin;go_must (refine wpList_appGG lkE rfl (.tmp 5) (.tmp 6) rfl w.heap.size _ _ _ [] rfl HO0.out _ n c (gcs L) rfl HS.out.rd HL.out (gcs_cell L) (by omega) (by omega) HX.out.size ?_;intro A' c' w' hO hg))
  go_ret
  exact ⟨_,_,rfl,by simpa using hO,Below.grown HX.out hg HX.out.size (fun k hk=>(World.ownsRow.lt HO0.out k hk).1)⟩
theorem cloneNm_any (A:Option Addr) (n c:Nat) (L:List UInt64) (w:World) (h:SlG w A n c L) (hn:n≤1000000000) :
  Calls Tryz.prog 93 #[.slice A n c] w fun e w'=>∃ A' c',e=.returned (.slice A' n c')∧w'.ownsRow w.heap.size 30 8 (.slice A' n c') n (gcs L)∧Ext w w':=by
 rcases A with _ | ad
 ·have hl:L=[]:=by
   rcases h.rd with h | ⟨b,o,h,_⟩
   ·exact gcs_none h
   ·cases h
  subst hl
  obtain rfl:n=0:=by have:=h.len;simpa using this.symm
  have hq:=run_eql_slice_nil (P:=Tryz.prog) w 37 30 none 0 c Tryz.underlying37
  go_enter Tryz.func93,Tryz.ntmps93
  go_wp2_with fail
  go_ret
  exact ⟨_,_,rfl,World.ownsRow_nil _ _ _ _,Ext.refl _⟩
 ·have hq := run_eql_slice_nil (P := Tryz.prog) w 37 30 (some ad) n c Tryz.underlying37
  have HO0:=zh (show (w.alloc (.cells #[] 30)).ownsRow w.heap.size 30 8 (.slice (some ⟨w.heap.size,0,none⟩) 0 0) 0 [] from World.ownsRow_made w #[] 0 (Nat.le_refl _) (Nat.zero_le _) rfl)
  have HS:=zh (h.ext ((Ext.refl w).alloc' (.cells #[] 30)))
  have HX:=zh ((Ext.refl w).alloc' (.cells #[] 30))
  have HL:=zh (show (gcs L).length=n * 8 by rw [gcs_length,h.len];rfl)
  clear h
  go_enter Tryz.func93,Tryz.ntmps93
  go_wp2_with (at_builtin;go_must (refine wpList_appGG namesE rfl (.tmp 5) (.tmp 6) rfl w.heap.size _ _ _ [] rfl HO0.out _ n c (gcs L) rfl HS.out.rd HL.out (gcs_cell L) (by omega) (by omega) HX.out.size ?_;intro A' c' w' hO hg))
  go_ret
  exact ⟨_,_,rfl,by simpa using hO,Below.grown HX.out hg HX.out.size (fun k hk=>(World.ownsRow.lt HO0.out k hk).1)⟩
structure StR where
 A1:Option Addr
 n1:Nat
 c1:Nat
 C:List DeR
 A2:Option Addr
 n2:Nat
 c2:Nat
 Q:List Int
 A3:Option Addr
 n3:Nat
 c3:Nat
 K:List LkR
 A4:Option Addr
 n4:Nat
 c4:Nat
 P:List UInt64
 G:Int
def StR.V (s:StR):StV:=⟨s.C,s.Q,s.K,s.P,s.G⟩
abbrev ssA (s:StR):Array Value:=#[.slice s.A1 s.n1 s.c1,.slice s.A2 s.n2 s.c2,.slice s.A3 s.n3 s.c3,.slice s.A4 s.n4 s.c4,.int .i64 s.G]
structure StR.ok (s:StR) (w:World):Prop where
 s1:SlG w s.A1 s.n1 s.c1 s.C
 s2:SlG w s.A2 s.n2 s.c2 s.Q
 s3:SlG w s.A3 s.n3 s.c3 s.K
 s4:SlG w s.A4 s.n4 s.c4 s.P
 g:wfI s.G
theorem StR.ok.ext {s:StR} {w w':World} (h:s.ok w) (e:Ext w w'):s.ok w':=⟨h.s1.ext e,h.s2.ext e,h.s3.ext e,h.s4.ext e,h.g⟩
structure OwnS (w:World) (base:Nat) (s:StR):Prop where
 o1:w.ownsRow base 34 11 (.slice s.A1 s.n1 s.c1) s.n1 (gcs s.C)
 o2:w.ownsRow base 3 1 (.slice s.A2 s.n2 s.c2) s.n2 (gcs s.Q)
 o3:w.ownsRow base 94 19 (.slice s.A3 s.n3 s.c3) s.n3 (gcs s.K)
 o4:w.ownsRow base 30 8 (.slice s.A4 s.n4 s.c4) s.n4 (gcs s.P)
 k1:∀ d ∈ s.C,deW d
 k2:∀ z ∈ s.Q,wfI z
 k3:∀ l ∈ s.K,lkW l
 g:wfI s.G
theorem OwnS.ok {w:World} {base:Nat} {s:StR} (h:OwnS w base s):s.ok w :=
 ⟨OwnG.sl (e:=34) h.o1 h.k1,OwnG.sl (e:=3) h.o2 h.k2,OwnG.sl (e:=94) h.o3 h.k3,OwnG.sl (e:=30) h.o4 (fun _ _=>trivial),h.g⟩
theorem OwnS.ext {w w':World} {base:Nat} {s:StR} (h:OwnS w base s) (e:Ext w w'):OwnS w' base s:=⟨own_ext h.o1 e,own_ext h.o2 e,own_ext h.o3 e,own_ext h.o4 e,h.k1,h.k2,h.k3,h.g⟩
theorem OwnS.mono {w:World} {base base':Nat} {s:StR} (h:OwnS w base s) (hb:base'≤base):OwnS w base' s:=⟨own_mono h.o1 hb,own_mono h.o2 hb,own_mono h.o3 hb,own_mono h.o4 hb,h.k1,h.k2,h.k3,h.g⟩
theorem OwnS.kept {w w':World} {base:Nat} {s:StR} {X:Nat} {t:TypeId} {cs:Array Value} (h:OwnS w base s) (hg:w.grownBy w' (some X)) (hb:Blk w X t cs) (h1:t ≠ 34) (h2:t ≠ 3) (h3:t ≠ 94) (h4:t ≠ 30):OwnS w' base s :=
 ⟨h.o1.kept hg (.inr (Ne.symm (own_other h.o1 hb h1))),h.o2.kept hg (.inr (Ne.symm (own_other h.o2 hb h2))),h.o3.kept hg (.inr (Ne.symm (own_other h.o3 hb h3))),h.o4.kept hg (.inr (Ne.symm (own_other h.o4 hb h4))),h.k1,h.k2,h.k3,h.g⟩
theorem OwnS.l1 {w:World} {base:Nat} {s:StR} (h:OwnS w base s):s.C.length=s.n1:=OwnG.len (e:=34) h.o1
theorem OwnS.l2 {w:World} {base:Nat} {s:StR} (h:OwnS w base s):s.Q.length=s.n2:=OwnG.len (e:=3) h.o2
theorem OwnS.l3 {w:World} {base:Nat} {s:StR} (h:OwnS w base s):s.K.length=s.n3:=OwnG.len (e:=94) h.o3
theorem OwnS.l4 {w:World} {base:Nat} {s:StR} (h:OwnS w base s):s.P.length=s.n4:=OwnG.len (e:=30) h.o4
theorem ss_facts {w:World} {g:Nat} {t:TypeId} {s:StR} (h:Blk w g t (ssA s)):w.cell? ⟨g,0,none⟩=some (.slice s.A1 s.n1 s.c1)∧w.cell? ⟨g,1,none⟩=some (.slice s.A2 s.n2 s.c2)∧w.cell? ⟨g,2,none⟩=some (.slice s.A3 s.n3 s.c3)∧w.cell? ⟨g,3,none⟩=some (.slice s.A4 s.n4 s.c4)∧w.cell? ⟨g,4,none⟩=some (.int .i64 s.G) :=
 ⟨h.cell 0,h.cell 1,h.cell 2,h.cell 3,h.cell 4⟩
def ss0:StR:=⟨none,0,0,[],none,0,0,[],none,0,0,[],none,0,0,[],0⟩
def StOut (w:World) (V:StV) (e:Ending) (w':World):Prop:=∃ s,e=.returned (.agg (ssA s))∧OwnS w' w.heap.size s∧s.V=V∧Ext w w'
theorem rNumber_any (x:UInt64) (w:World):Calls Tryz.prog 130 #[.agg (nmc x)] w fun e w'=>e=.returned (.int .u64 (un x))∧Ext w w':=by
 have hl:=nmb_length x
 obtain ⟨W0,hW0⟩:∃ W0,w.alloc (.cells (nmc x) 30)=W0:=⟨_,rfl⟩
 have HB:=zh (show Blk W0 w.heap.size 30 (nmc x) from by rw [← hW0];exact Blk.new _ _ _)
 have HE:=zh (show Ext w W0 from by rw [← hW0];exact (Ext.refl w).alloc' _)
 go_enter Tryz.func130,Tryz.ntmps130
 go_wp2_with fail
 clear hW0
 go_loopw [3,4] (fun v i wr=>∃ k:Nat,k≤8∧i=.int .i64 (k:Int)∧v=.int .u64 (beNat ((nmb x).take k))∧W0=wr) (fun _ i _=>8 - (intOf i).toNat)
 case atStart=>exact ⟨0,by omega,rfl,rfl,rfl⟩
 case round =>
  obtain ⟨k,hk,rfl,rfl,rfl⟩:=hrel
  by_cases hlt:k < 8
  ·have hix:W0.cell? ⟨w.heap.size,k,none⟩=some (.int .u8 (((nmb x).getD k 0).toNat:Int)):=by
    rw [HB.out.cell k]
    have hl:=nmb_length x
    simp [nmc,bcs,bv,hl,hlt]
   have i1:(k:Int) < 8:=by omega
   have hb:=beNat_lt ((nmb x).take k)
   rw [List.length_take,hl,Nat.min_eq_left (by omega)] at hb
   have hb7:beNat ((nmb x).take k) < 72057594037927936:=Nat.lt_of_lt_of_le hb (Nat.pow_le_pow_right (n:=256) (j:=7) (by omega) (by omega))
   have hor:=or_byte _ ((nmb x).getD k 0) hb7
   have HS:=zh (show beNat ((nmb x).take (k+1))=beNat ((nmb x).take k) * 256+((nmb x).getD k 0).toNat by rw [take_get _ _ (by omega),beNat_snoc])
   clear hb hb7 hl
   generalize beNat ((nmb x).take k)=a at *
   generalize (nmb x).getD k 0=c at *
   go_wp2_with fail
   go_roundw
   case rel=>exact ⟨k+1,by omega,by go_num,by rw [HS.out];go_num,by first | rfl | trivial⟩
   case measure=>simp [intOf];omega
  ·have HS := zh (show (beNat ((nmb x).take k) : Int) = un x by rw [List.take_of_length_le (by omega), beNat_nmb]; rfl)
   have i1:¬ (k:Int) < 8:=by omega
   clear hl
   generalize beNat ((nmb x).take k)=a at *
   go_wp2_with fail
   go_ret
   exact ⟨by rw [← HS.out];rfl,HE.out⟩
theorem rLess_any (x y:UInt64) (w:World):Calls Tryz.prog 74 #[.agg (nmc x),.agg (nmc y)] w fun e w'=>e=.returned (.bool (decide (un x < un y)))∧Ext w w':=by
 have hE:=((Ext.refl w).alloc' (.cells (nmc x) 30)).alloc' (.cells (nmc y) 30)
 have HB1:=zh ((Blk.new w 30 (nmc x)).alloc (.cells (nmc y) 30))
 have HB2:=zh (show Blk ((w.alloc (.cells (nmc x) 30)).alloc (.cells (nmc y) 30)) (w.heap.size+1) 30 (nmc y) from Blk.newAt _ _ _ _ (by simp))
 have HE:=zh hE
 obtain ⟨W0,hW0⟩:∃ W0,(w.alloc (.cells (nmc x) 30)).alloc (.cells (nmc y) 30)=W0:=⟨_,rfl⟩
 rw [hW0] at HB1 HB2 HE
 have HC:=zh (fun (W:World) (h:Ext W0 W)=>And.intro (cells8 (HB1.out.ext h)) (cells8 (HB2.out.ext h)))
 clear hE
 go_enter Tryz.func74,Tryz.ntmps74
 go_wp2_with fail
 refine wp_region_plan (S:=fun W=>Ext W0 W) (by kernel_rfl) (by kernel_rfl) ((Ext.refl W0).drew') ?_
 (refine zzx 0 ?_ (hy:=by intro W hSW;obtain ⟨c1,c2⟩:=HC.out W hSW;go_simp <;> with_reducible rfl))
 (refine plan_take (i:=1) (oi:=⟨some 6,.call { callee:=.value (.func 130),args:=#[.tmp 5],argTypes:=#[30] },148,"ref.go:30",#[⟨0,.data⟩],none⟩) (v:=?_) rfl (by kernel_rfl) (by kernel_rfl) (fx_call (by rfl) (fun W hSW K hK=>?hy1_1)) ?_;case hy1_1=>(go_simp;go_at_call 130;(with_reducible refine (rNumber_any x W).mono ?_);rintro e w1 ⟨rfl,he1⟩;exact hK.out _ (hSW.trans he1)))
 try simp only [lays]
 (refine zzx 2 ?_ (hy:=by intro W hSW;obtain ⟨c1,c2⟩:=HC.out W hSW;go_simp <;> with_reducible rfl))
 (refine plan_take (i:=3) (oi:=⟨some 8,.call { callee:=.value (.func 130),args:=#[.tmp 7],argTypes:=#[30] },148,"ref.go:30",#[⟨2,.data⟩,⟨1,.chain⟩],none⟩) (v:=?_) rfl (by kernel_rfl) (by kernel_rfl) (fx_call (by rfl) (fun W hSW K hK=>?hy1_3)) ?_;case hy1_3=>(go_simp;go_at_call 130;(with_reducible refine (rNumber_any y W).mono ?_);rintro e w1 ⟨rfl,he1⟩;exact hK.out _ (hSW.trans he1)))
 try simp only [lays]
 (refine zzx 4 ?_)
 (refine zzx 5 ?_)
 refine Plan.done (by kernel_rfl) (fun W hSW=>?_)
 have HX:=zh (HE.out.trans hSW)
 clear hSW
 go_wp2_with fail
 go_ret
 exact ⟨rfl,HX.out⟩
end Go.Proofs.YtohmmcahpakokaaGreat
namespace Go.Proofs.YtohmmcahpakokaaGreat
open Go.RowKit
def effO (ac sq:Int) (L:List OpR) (i:Nat):List DeR :=
 if (nthO L i).k=1 then movC (balC ac) (balC (nthO L i).tO) (nthO L i).am
 else if (nthO L i).k=2 then movC (balC ac) (lckC (lockNm ac sq L (i:Int))) (nthO L i).am
 else if (nthO L i).k=3 ∨ (nthO L i).k=4 then movC (lckC (nthO L i).lk) (balC (nthO L i).tO) (nthO L i).am
 else if (nthO L i).k=5 then movC (balC ac) (stkC (nthO L i).va) (nthO L i).am
 else []
def effN (ac sq:Int) (L:List OpR) (n:Nat):List DeR:=(List.range n).flatMap (effO ac sq L)
def effT (ac sq:Int) (L:List OpR):List DeR:=if vTx ac sq L=true then effN ac sq L L.length else []
theorem effN_succ (ac sq:Int) (L:List OpR) (n:Nat):effN ac sq L (n+1)=effN ac sq L n ++ effO ac sq L n:=by
 unfold effN;rw [List.range_succ,List.flatMap_append,List.flatMap_cons,List.flatMap_nil,List.append_nil]
theorem sum_append (l m:List DeR):sumC (l ++ m)=sumC l+sumC m:=by unfold sumC;rw [List.map_append,List.sum_append]
theorem tot_add {C l:List DeR} (h:wr (sumC l)=0):totC (addL C l)=totC C:=by
 rw [sum_addL,← wr_add',h,Int.add_zero];rfl
def outN (L:List OpR) (n:Nat):Int:=wr ((L.take n).map OpR.am).sum
def outT (ac sq:Int) (L:List OpR):Int:=if vTx ac sq L=true then outN L L.length else 0
def addS (S:StV) (l:List DeR):StV:=⟨addL S.C l,S.Q,S.K,S.P,S.G⟩
def expS1 (g:Int) (S:StV) (i:Nat):StV :=
 if hasM g i=true∧hasM S.G i=false then ⟨addL S.C (movC (stkC (i:Int)) polC (getC S.C (stkC (i:Int)))),S.Q,S.K,S.P,addM S.G i⟩ else S
def expN (g:Int) (S:StV) (n:Nat):StV:=(List.range n).foldl (expS1 g) S
def expS (g:Int) (S:StV):StV:=expN g S 10
theorem expN_succ (g:Int) (S:StV) (n:Nat):expN g S (n+1)=expS1 g (expN g S n) n:=by
 unfold expN;rw [List.range_succ,List.foldl_append];rfl
def chgO (ac sq:Int) (L:List OpR) (S:StV) (i:Nat):StV :=
 if (nthO L i).k=2 then ⟨S.C,S.Q,openK S.K ⟨lockNm ac sq L (i:Int),(nthO L i).hs,ac,(nthO L i).tO,(nthO L i).ul⟩,S.P,S.G⟩
 else if (nthO L i).k=3 ∨ (nthO L i).k=4 then ⟨S.C,S.Q,closeK (nthO L i).lk S.K,S.P,S.G⟩
 else if (nthO L i).k=6 then expS (2 ^ (nthO L i).va.toNat) S
 else S
def doO (ac sq:Int) (L:List OpR) (S:StV) (i:Nat):StV:=chgO ac sq L (addS S (effO ac sq L i)) i
def doN (ac sq:Int) (L:List OpR) (S:StV) (n:Nat):StV:=(List.range n).foldl (doO ac sq L) S
theorem doN_succ (ac sq:Int) (L:List OpR) (S:StV) (n:Nat):doN ac sq L S (n+1)=doO ac sq L (doN ac sq L S n) n:=by
 unfold doN;rw [List.range_succ,List.foldl_append];rfl
theorem expN_QP (g:Int) (S:StV) (n:Nat):(expN g S n).Q=S.Q∧(expN g S n).P=S.P:=by
 induction n with
 | zero=>exact ⟨rfl,rfl⟩
 | succ n ih =>
  rw [expN_succ];unfold expS1;split
  ·exact ih
  ·exact ih
theorem chg_QP (ac sq:Int) (L:List OpR) (S:StV) (i:Nat):(chgO ac sq L S i).Q=S.Q∧(chgO ac sq L S i).P=S.P:=by
 unfold chgO
 split
 ·exact ⟨rfl,rfl⟩
 ·split
  ·exact ⟨rfl,rfl⟩
  ·split
   ·exact expN_QP _ _ _
   ·exact ⟨rfl,rfl⟩
theorem doN_QP (ac sq:Int) (L:List OpR) (S:StV) (n:Nat):(doN ac sq L S n).Q=S.Q∧(doN ac sq L S n).P=S.P:=by
 induction n with
 | zero=>exact ⟨rfl,rfl⟩
 | succ n ih =>
  rw [doN_succ]
  have:=chg_QP ac sq L (addS (doN ac sq L S n) (effO ac sq L n)) n
  exact ⟨this.1.trans ih.1,this.2.trans ih.2⟩
def nxtQ (Q:List Int) (ac sq:Int):List Int:=if ac < (Q.length:Int) then Q.set ac.toNat (max (Q.getD ac.toNat 0) (sq+1)) else Q
def repS (S:StV) (ac sq:Int) (L:List OpR):StV :=
 if vTx ac sq L=false ∨ txNm ac sq L ∈ S.P then S
 else ⟨(doN ac sq L S L.length).C,nxtQ (doN ac sq L S L.length).Q ac sq,(doN ac sq L S L.length).K,markP (doN ac sq L S L.length).P (txNm ac sq L),(doN ac sq L S L.length).G⟩
end Go.Proofs.YtohmmcahpakokaaGreat
