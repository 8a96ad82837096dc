/- Votes: which are valid, their bytes, their order. Plain: no program in sight. -/
import Derived.Deep.DeepCutAuto
import Derived.Deep.CutBlock
import Derived.WalkMore
import Derived.Sort.LotA
import Derived.Laws.OwnMore
import Derived.Test.YtohmmcahpakokaaGreatD15
set_option maxRecDepth 100000
set_option maxHeartbeats 8000000
set_option linter.unusedSectionVars false
set_option linter.unusedVariables false
set_option linter.unusedSimpArgs false
namespace Go.Proofs.YtohmmcahpakokaaGreat
section
open Go.RowKit
def supI (z:Int):Int:=bits .andNot .i64 z 1023
def inI (n lo hi:Int):Bool:=decide (lo≤n∧n≤hi)
def chV (v:VtR):Bool:=decide (v.ch=1 ↔ v.va ≠ 0)
def restV (v:VtR):Bool :=
 if v.k=3 then inI v.sl 0 9 && (inI v.ro 1 12 && (inI v.ch 0 1 && (decide (v.ro ≠ 1) || (decide (v.ch ≠ 0) || decide (v.su=0)))))
 else if v.k=4 then inI v.sl 0 9 && (inI v.ro 1 12 && inI v.ch 0 2)
 else inI v.sl 0 (if v.k≤2 then 9 else 0) && (decide (v.ro=0∧v.su=0) && decide (v.ch=1))
def vldVt (v:VtR):Bool:=(inI v.k 1 7 && inI v.si 0 9) && ((chV v && decide (supI v.su=0)) && restV v)
def encVt (v:VtR):List UInt8:=[toB v.k,toB v.sl,toB v.ro,toB v.ch,toB v.si] ++ (beI 2 v.su ++ (nmb v.pa ++ nmb v.va))
def byt (l:List UInt8) (i:Nat):UInt8:=l.getD i 0
def decVt (l:List UInt8):VtR:=⟨(byt l 0).toNat,(byt l 1).toNat,(byt l 2).toNat,(byt l 3).toNat,(byt l 4).toNat,numAt l 5 2,ofNm ((l.drop 7).take 8),ofNm ((l.drop 15).take 8)⟩
theorem wfI_of {z:Int} (h1:-9223372036854775808≤z) (h2:z≤9223372036854775807):wfI z:=by
 unfold wfI
 simp [Lit.wf,IntKind.min,IntKind.max,IntKind.bits,IntKind.signed]
 omega
theorem decVt_wf (l:List UInt8):(decVt l).wf:=by
 have hb:∀ c:UInt8,wfI (c.toNat:Int):=fun c=>by have:=c.toNat_lt;exact wfI_of (by omega) (by omega)
 refine ⟨hb _,hb _,hb _,hb _,hb _,?_⟩
 have h1:=beNat_lt ((l.drop 5).take 2)
 have h2:((l.drop 5).take 2).length≤2:=List.length_take_le _ _
 have h3:256 ^ ((l.drop 5).take 2).length≤256 ^ 2:=Nat.pow_le_pow_right (by omega) h2
 refine wfI_of ?_ ?_
 ·show _≤((numAt l 5 2:Nat):Int);omega
 show ((numAt l 5 2:Nat):Int)≤_;unfold numAt;omega
def lexI:List Int→List Int→Bool
 | x :: r,y :: s=>if x=y then lexI r s else decide (x < y)
 | _,_=>false
theorem lexI_irrefl (l:List Int):lexI l l=false:=by
 induction l with
 | nil=>rfl
 | cons x r ih=>simp [lexI,ih]
theorem lexI_trans:∀ (a b c:List Int),lexI a b=true→lexI b c=true→lexI a c=true
 | [],_,_,h,_=>by simp [lexI] at h
 | _ :: _,[],_,h,_=>by simp [lexI] at h
 | _ :: _,_ :: _,[],_,h=>by simp [lexI] at h
 | x :: r,y :: s,z :: t,h1,h2=>by
  unfold lexI at h1 h2 ⊢
  have ih:=lexI_trans r s t
  by_cases c1:x=y
  ·subst c1
   rw [if_pos rfl] at h1
   by_cases c2:x=z
   ·subst c2;rw [if_pos rfl] at h2 ⊢;exact ih h1 h2
   rw [if_neg c2] at h2 ⊢;exact h2
  rw [if_neg c1] at h1
  have h1':=of_decide_eq_true h1
  by_cases c2:y=z
  ·subst c2;rw [if_neg c1];exact h1
  rw [if_neg c2] at h2
  have h2':=of_decide_eq_true h2
  rw [if_neg (by omega)];exact decide_eq_true (by omega)
theorem lexI_total:∀ (a b:List Int),a.length=b.length→lexI a b=false→lexI b a=false→a=b
 | [],[],_,_,_=>rfl
 | [],_ :: _,h,_,_=>by simp at h
 | _ :: _,[],h,_,_=>by simp at h
 | x :: r,y :: s,h,h1,h2=>by
  unfold lexI at h1 h2
  have ih:=lexI_total r s (by simpa using h)
  by_cases e:x=y
  ·subst e;simp at h1 h2;rw [ih h1 h2]
  rw [if_neg e] at h1;rw [if_neg (fun h=>e h.symm)] at h2;simp at h1 h2;omega
def vtKey (v:VtR):List Int:=[un v.pa,v.sl,v.ro,v.k,v.si,v.ch,un v.va,v.su]
def ltVt (a b:VtR):Bool:=lexI (vtKey a) (vtKey b)
end
section
open Go.RowKit
attribute [local go_sem ↓] Go.wp_at_zero Go.wp_at_succ
theorem rNumber_any (x:UInt64) (w:World):Calls Tryz.prog 130 #[.agg (nmc x)] w fun e w'=>e=.returned (.int .u64 (un x))∧Ext w w':=by
 have hl:=nL x
 obtain ⟨W0,hW0⟩:∃ W0,w.alloc (.cells (nmc x) 30)=W0:=⟨_,rfl⟩
 have HB:=zh (show Blk W0 w.heap.size 30 (nmc x) from by rw [← hW0];exact Blk.new _ _ _)
 have HE:=zh (show Ext w W0 from by rw [← hW0];exact (Ext.refl w).alloc' _)
 go_enter Tryz.func130,Tryz.ntmps130
 go_wp2_with fail
 clear hW0
 go_loopw [3,4] (fun v i wr=>∃ k:Nat,k≤8∧i=.int .i64 (k:Int)∧v=.int .u64 (beNat ((nmb x).take k))∧W0=wr) (fun _ i _=>8 - (intOf i).toNat)
 case atStart=>exact ⟨0,by omega,rfl,rfl,rfl⟩
 case round =>
  obtain ⟨k,hk,rfl,rfl,rfl⟩:=hrel
  by_cases hlt:k < 8
  ·have hix:W0.cell? ⟨w.heap.size,k,none⟩=some (.int .u8 (((nmb x).getD k 0).toNat:Int)):=by
    rw [HB.out.cell k]
    have hl:=nL x
    simp [nmc,bcs,bv,hl,hlt]
   have i1:(k:Int) < 8:=by omega
   have hb:=beNat_lt ((nmb x).take k)
   rw [List.length_take,hl,Nat.min_eq_left (by omega)] at hb
   have hb7:beNat ((nmb x).take k) < 72057594037927936:=Nat.lt_of_lt_of_le hb (Nat.pow_le_pow_right (n:=256) (j:=7) (by omega) (by omega))
   have hor:=or_byte _ ((nmb x).getD k 0) hb7
   have HS:=zh (show beNat ((nmb x).take (k+1))=beNat ((nmb x).take k) * 256+((nmb x).getD k 0).toNat by rw [take_get _ _ (by omega),beNat_snoc])
   clear hb hb7 hl
   generalize beNat ((nmb x).take k)=a at *
   generalize (nmb x).getD k 0=c at *
   go_wp2_with fail
   go_roundw
   case rel=>exact ⟨k+1,by omega,by go_num,by rw [HS.out];go_num,by first | rfl | trivial⟩
   case measure=>simp [intOf];omega
  have HS:=zh (show (beNat ((nmb x).take k):Int)=un x by rw [List.take_of_length_le (by omega),beNat_nmb];rfl)
  have i1:¬ (k:Int) < 8:=by omega
  clear hl
  generalize beNat ((nmb x).take k)=a at *
  go_wp2_with fail
  go_ret
  exact ⟨by rw [← HS.out];rfl,HE.out⟩
theorem rLess_any (x y:UInt64) (w:World):Calls Tryz.prog 74 #[.agg (nmc x),.agg (nmc y)] w fun e w'=>e=.returned (.bool (decide (un x < un y)))∧Ext w w':=by
 have hE:=((Ext.refl w).alloc' (.cells (nmc x) 30)).alloc' (.cells (nmc y) 30)
 have HB1:=zh ((Blk.new w 30 (nmc x)).alloc (.cells (nmc y) 30))
 have HB2:=zh (show Blk ((w.alloc (.cells (nmc x) 30)).alloc (.cells (nmc y) 30)) (w.heap.size+1) 30 (nmc y) from Blk.newAt _ _ _ _ (by simp))
 have HE:=zh hE
 obtain ⟨W0,hW0⟩:∃ W0,(w.alloc (.cells (nmc x) 30)).alloc (.cells (nmc y) 30)=W0:=⟨_,rfl⟩
 rw [hW0] at HB1 HB2 HE
 have HC:=zh (fun (W:World) (h:Ext W0 W)=>And.intro (cells8 (HB1.out.ext h)) (cells8 (HB2.out.ext h)))
 clear hE
 go_enter Tryz.func74,Tryz.ntmps74
 go_wp2_with fail
 refine wp_region_plan (S:=fun W=>Ext W0 W) (by kernel_rfl) (by kernel_rfl) ((Ext.refl W0).drew') ?_
 (refine zzx 0 ?_ (hy:=by intro W jS;obtain ⟨c1,c2⟩:=HC.out W jS;go_simp <;> with_reducible rfl))
 (refine plan_take (i:=1) (oi:=⟨some 6,.call { callee:=.value (.func 130),args:=#[.tmp 5],argTypes:=#[30] },148,"ref.go:30",#[⟨0,.data⟩],none⟩) (v:=?_) rfl (by kernel_rfl) (by kernel_rfl) (fx_call (by rfl) (fun W jS K hK=>?hy1_1)) ?_;case hy1_1=>(go_simp;go_at_call 130;(with_reducible refine (rNumber_any x W).mono ?_);rintro e w1 ⟨rfl,he1⟩;exact hK.out _ (jS.trans he1)))
 try simp only [lays]
 (refine zzx 2 ?_ (hy:=by intro W jS;obtain ⟨c1,c2⟩:=HC.out W jS;go_simp <;> with_reducible rfl))
 (refine plan_take (i:=3) (oi:=⟨some 8,.call { callee:=.value (.func 130),args:=#[.tmp 7],argTypes:=#[30] },148,"ref.go:30",#[⟨2,.data⟩,⟨1,.chain⟩],none⟩) (v:=?_) rfl (by kernel_rfl) (by kernel_rfl) (fx_call (by rfl) (fun W jS K hK=>?hy1_3)) ?_;case hy1_3=>(go_simp;go_at_call 130;(with_reducible refine (rNumber_any y W).mono ?_);rintro e w1 ⟨rfl,he1⟩;exact hK.out _ (jS.trans he1)))
 try simp only [lays]
 (refine zzx 4 ?_)
 (refine zzx 5 ?_)
 refine Plan.done (by kernel_rfl) (fun W jS=>?_)
 have HX:=zh (HE.out.trans jS)
 clear jS
 go_wp2_with fail
 go_ret
 exact ⟨rfl,HX.out⟩
end
section
open Go.RowKit
theorem run_storeOver {w:World} {g:Nat} {t:TypeId} {n:UInt64} (h:Blk w g t (nmc n)) (r:UInt64):(storeCells ⟨g,0,none⟩ (nmc r).toList).run Tryz.prog w=.ok () (w.setCells g 0 (nmc r).toList):=by
 have hl:(nmc r).toList.length=8:=by rw [nmc_toList,bL,nL]
 have:=run_storeCells_cells (P:=Tryz.prog) g 0 (nmc r).toList 0 w (fun j hj=>by rw [Nat.add_zero,Nat.zero_add,h.cell j,Array.getElem?_eq_getElem (by rw [nmc_size];omega)];rfl) (fun j hj=>h.frozen _) (by rw [nmc_toList];exact bcs_one _)
 exact this
theorem verify_one (pub m:UInt64) (A:Option Addr) (n c:Nat) (l:List UInt8) (w:World) (h:SlB w A n c l) (hn:n=186) (hlf:numAt l 0 2 < 32) :
  Calls Tryz.prog 145 #[.agg (nmc pub),.int .i64 1,.agg (nmc m),.slice A n c] w fun e w'=>e=.returned (.bool (decide (climbU l 2 (numAt l 0 2 % 32) m=pub)))∧Ext w w':=by
 subst hn
 have hE:=((Ext.refl w).alloc' (.cells (nmc pub) 30)).alloc' (.cells (nmc m) 30)
 have hbp:=(Blk.new w 30 (nmc pub)).alloc (.cells (nmc m) 30)
 have hbm:Blk ((w.alloc (.cells (nmc pub) 30)).alloc (.cells (nmc m) 30)) (w.heap.size+1) 30 (nmc m):=Blk.newAt _ _ _ _ (by simp)
 have HE:=zh hE
 have HP:=zh hbp
 have hrm:=rangeN hbm
 have HL:=zh (leaf_yes A 186 c l _ (h.ext HE.out) (by omega))
 have HH:=zh (h.ext HE.out)
 have hcap:=h.cap
 clear h hE hbp hbm
 generalize hx:numAt l 0 2=x at *
 clear hx
 have hq:=fun w=>run_eqN (climbU l 2 (x % 32) m) pub w
 go_enter Tryz.func145,Tryz.ntmps145
 go_wp2_with fail
 refine HL.out.mono ?_
 rintro e w1 ⟨rfl,rfl⟩
 go_wp2_with (first | (go_at_call 200;refine (size_any 1 _).mono ?_;rintro e w1 ⟨rfl,rfl⟩;rw [show sizeZ 1=186 from rfl]) | (go_at_call 201;refine (capacity_any 1 _).mono ?_;rintro e w1 ⟨rfl,rfl⟩;rw [show capZ 1=32 from rfl]) | (with_reducible refine wpList_loadN rfl (.tmp 6) rfl (w.heap.size+1) 0 rfl m hrm ?_))
 refine (climbed_at A 186 c l 2 (x % 32) _ _ rfl (by omega) m _ HH.out (by omega) (by omega) (by omega)).mono ?_
 rintro e w2 ⟨rfl,he2⟩
 have HP2:=zh (HP.out.ext he2)
 have HE2:=zh (HE.out.trans he2)
 clear hrm he2
 generalize hr0:climbU l 2 (x % 32) m=r at *
 have HR0:=zh hr0
 clear hr0
 have hst:=run_storeNewN w2 w2.heap.size rfl r
 have hr:=rangeN (Blk.new w2 30 (nmc r))
 have hp:=rangeN (HP2.out.alloc (.cells (nmc r) 30))
 go_wp2_with (first | (with_reducible refine wpList_loadN rfl (.tmp 11) rfl w2.heap.size 0 rfl r hr ?_) | (with_reducible refine wpList_loadN rfl (.tmp 4) rfl w.heap.size 0 rfl pub hp ?_))
 go_ret
 exact ⟨by rw [HR0.out];rfl,HE2.out.alloc' _⟩
theorem verify_two (pub m:UInt64) (A:Option Addr) (n c:Nat) (l:List UInt8) (w:World) (h:SlB w A n c l) (hn:n=370) (hlf:numAt l 0 2 < 1024) :
  Calls Tryz.prog 145 #[.agg (nmc pub),.int .i64 2,.agg (nmc m),.slice A n c] w fun e w'=>e=.returned (.bool (decide (climbU l 186 (numAt l 0 2 / 32) (climbU l 2 (numAt l 0 2 % 32) m)=pub)))∧Ext w w':=by
 subst hn
 have hE:=((Ext.refl w).alloc' (.cells (nmc pub) 30)).alloc' (.cells (nmc m) 30)
 have hbp:=(Blk.new w 30 (nmc pub)).alloc (.cells (nmc m) 30)
 have hbm:Blk ((w.alloc (.cells (nmc pub) 30)).alloc (.cells (nmc m) 30)) (w.heap.size+1) 30 (nmc m):=Blk.newAt _ _ _ _ (by simp)
 have HE:=zh hE
 have HP:=zh hbp
 have hrm:=rangeN hbm
 have HL:=zh (leaf_yes A 370 c l _ (h.ext HE.out) (by omega))
 have HH:=zh (h.ext HE.out)
 have hcap:=h.cap
 clear h hE hbp hbm
 generalize hx:numAt l 0 2=x at *
 clear hx
 go_enter Tryz.func145,Tryz.ntmps145
 go_wp2_with fail
 refine HL.out.mono ?_
 rintro e w1 ⟨rfl,rfl⟩
 go_wp2_with (first | (go_at_call 200;refine (size_any 2 _).mono ?_;rintro e w1 ⟨rfl,rfl⟩;rw [show sizeZ 2=370 from rfl]) | (go_at_call 201;refine (capacity_any 2 _).mono ?_;rintro e w1 ⟨rfl,rfl⟩;rw [show capZ 2=1024 from rfl]) | (with_reducible refine wpList_loadN rfl (.tmp 6) rfl (w.heap.size+1) 0 rfl m hrm ?_))
 refine (climbed_at A 370 c l 2 (x % 32) _ _ rfl (by omega) m _ HH.out (by omega) (by omega) (by omega)).mono ?_
 rintro e w2 ⟨rfl,he2⟩
 have HP2:=zh (HP.out.ext he2)
 have HE2:=zh (HE.out.trans he2)
 have HH2:=zh (HH.out.ext he2)
 clear hrm he2
 generalize hr0:climbU l 2 (x % 32) m=r at *
 have HR0:=zh hr0
 clear hr0
 have hst:=run_storeNewN w2 w2.heap.size rfl r
 have hA:=(Ext.refl w2).alloc' (.cells (nmc r) 30)
 have HB:=zh (Blk.new w2 30 (nmc r))
 have hr:=rangeN HB.out
 have HH3:=zh (HH2.out.ext hA)
 have HP3:=zh (HP2.out.ext hA)
 have HE3:=zh (HE2.out.trans hA)
 clear hA
 go_wp2_with (with_reducible refine wpList_loadN rfl (.tmp 11) rfl w2.heap.size 0 rfl r hr ?_)
 clear hr hst
 generalize w2.alloc (.cells (nmc r) 30)=W2 at *
 refine (climbed_at A 370 c l 186 (x / 32) _ _ rfl (by omega) r _ HH3.out (by omega) (by omega) (by omega)).mono ?_
 rintro e w3 ⟨rfl,he3⟩
 have HB3:=zh (HB.out.ext he3)
 have HP4:=zh (HP3.out.ext he3)
 have HE4:=zh (HE3.out.trans he3)
 have hlt:=HP.out.lt
 have hne:w.heap.size ≠ w2.heap.size:=by have:=HE2.out.size;have:=HP2.out.lt;omega
 clear he3
 generalize hr1:climbU l 186 (x / 32) r=r2 at *
 have HR1:=zh hr1
 clear hr1
 have hq:=fun w=>run_eqN r2 pub w
 have hst:=run_storeOver HB3.out r2
 have hr2:=rangeN (blkN' HB3.out r2)
 have hp2:=rangeN (HP4.out.setCells_far hne (nmc r2).toList 0)
 go_wp2_with (first | (with_reducible refine wpList_loadN rfl (.tmp 11) rfl w2.heap.size 0 rfl r2 hr2 ?_) | (with_reducible refine wpList_loadN rfl (.tmp 4) rfl w.heap.size 0 rfl pub hp2 ?_))
 go_ret
 exact ⟨by rw [HR0.out,HR1.out];rfl,Below.setCells' HE4.out HE2.out.size _ _⟩
theorem verify_any (pub m:UInt64) (lv:Int) (A:Option Addr) (n c:Nat) (l:List UInt8) (w:World) (h:SlB w A n c l) :
  Calls Tryz.prog 145 #[.agg (nmc pub),.int .i64 lv,.agg (nmc m),.slice A n c] w fun e w'=>e=.returned (.bool (verU pub lv m l))∧Ext w w':=by
 have hlen:=h.len
 by_cases hs:sizeZ lv=(n:Int)
 ·by_cases hc : capZ lv ≤ (numAt l 0 2 : Int)
  ·rw [verU_far pub lv m l hc]
   exact verify_no pub m lv A n c l w h (.inr (.inr hc))
  by_cases h1:lv=1
  ·subst h1
   have hn:n=186:=by have:(186:Int)=(n:Int):=hs;omega
   have hlf:numAt l 0 2 < 32:=by have:¬ (32:Int)≤(numAt l 0 2:Int):=hc;omega
   have hv:verU pub 1 m l=decide (climbU l 2 (numAt l 0 2 % 32) m=pub):=by
    unfold verU;rw [if_pos rfl,decide_eq_true (show l.length=186 by omega),decide_eq_true hlf];rfl
   rw [hv]
   exact verify_one pub m A n c l w h hn hlf
  by_cases h2:lv=2
  ·subst h2
   have hn:n=370:=by have:(370:Int)=(n:Int):=hs;omega
   have hlf:numAt l 0 2 < 1024:=by have:¬ (1024:Int)≤(numAt l 0 2:Int):=hc;omega
   have hv:verU pub 2 m l=decide (climbU l 186 (numAt l 0 2 / 32) (climbU l 2 (numAt l 0 2 % 32) m)=pub):=by
    unfold verU;rw [if_neg (by decide),if_pos rfl,decide_eq_true (show l.length=370 by omega),decide_eq_true hlf];rfl
   rw [hv]
   exact verify_two pub m A n c l w h hn hlf
  exact absurd (show capZ lv≤(numAt l 0 2:Int) by rw [show capZ lv=0 from by simp [capZ,h1,h2]];omega) hc
 rw [verU_short pub lv m l (by rw [hlen];exact hs)]
 exact verify_no pub m lv A n c l w h (.inr (.inl hs))
def wr (z:Int):Int:=IntKind.i64.wrap z
theorem wr_eq (z:Int):wr z=(z+9223372036854775808) % 18446744073709551616 - 9223372036854775808:=by
 unfold wr;rw [IntKind.wrap_i64]
def in64 (z:Int):Prop:=-9223372036854775808≤z∧z≤9223372036854775807
theorem wr_in (z:Int):in64 (wr z):=by rw [wr_eq];unfold in64;omega
theorem wr_id {z:Int} (h:in64 z):wr z=z:=by rw [wr_eq];unfold in64 at h;omega
theorem wr_add (x y:Int):wr (wr x+y)=wr (x+y):=by rw [wr_eq,wr_eq,wr_eq];omega
theorem wr_add' (x y:Int):wr (x+wr y)=wr (x+y):=by rw [wr_eq,wr_eq,wr_eq];omega
structure CeR where
 k:Int
 id:Int
 lk:UInt64
deriving DecidableEq
structure DeR where
 c:CeR
 a:Int
deriving DecidableEq
structure LkR where
 nm:UInt64
 hs:UInt64
 ow:Int
 tO:Int
 ul:Int
deriving DecidableEq
structure StV where
 C:List DeR
 Q:List Int
 K:List LkR
 P:List UInt64
 G:Int
deriving DecidableEq
def ceKey (c:CeR):List Int:=[c.k,c.id,un c.lk]
def ltCe (a b:CeR):Bool:=lexI (ceKey a) (ceKey b)
theorem ceKey_inj {a b:CeR} (h:ceKey a=ceKey b):a=b:=by
 obtain ⟨k,i,l⟩:=a
 obtain ⟨k',i',l'⟩:=b
 simp only [ceKey,List.cons.injEq,and_true] at h
 obtain ⟨h1,h2,h3⟩:=h
 rw [h1,h2,un_inj h3]
theorem ltCe_sto:STO ltCe:=⟨fun x=>lexI_irrefl _,fun x y z=>lexI_trans _ _ _,fun x y h1 h2=>ceKey_inj (lexI_total _ _ rfl h1 h2)⟩
section
variable {α:Type}
def insB (p:α→Bool) (x:α):List α→List α
 | []=>[x]
 | y :: r=>if p y=true then x :: y :: r else y :: insB p x r
theorem insB_at (p:α→Bool) (x:α):∀ (L:List α) (k:Nat),k≤L.length→(∀ j (h:j < k) (hl:j < L.length),p L[j]=false)→(∀ (h:k < L.length),p L[k]=true)→insB p x L=L.take k ++ x :: L.drop k
 | [],0,_,_,_=>rfl
 | y :: r,0,_,_,h2=>by
  have:=h2 (by simp)
  simp only [List.getElem_cons_zero] at this
  unfold insB;rw [if_pos this];rfl
 | y :: r,k+1,hk,h1,h2=>by
  have h0:=h1 0 (by omega) (by simp)
  simp only [List.getElem_cons_zero] at h0
  have ih:=insB_at p x r k (by simpa using hk) (fun j hj hl=>h1 (j+1) (by omega) (by simpa using hl)) (fun h=>h2 (by simpa using h))
  unfold insB;rw [if_neg (by rw [h0];decide),ih];rfl
theorem mem_insB (p:α→Bool) (x y:α):∀ (L:List α),y ∈ insB p x L ↔ y=x ∨ y ∈ L
 | []=>by simp [insB]
 | z :: r=>by
  unfold insB
  split
  ·simp
  rw [List.mem_cons,mem_insB p x y r,List.mem_cons]
  constructor
  ·rintro (h | h | h)
   ·exact .inr (.inl h)
   ·exact .inl h
   exact .inr (.inr h)
  rintro (h | h | h)
  ·exact .inr (.inl h)
  ·exact .inl h
  exact .inr (.inr h)
end
def fdC (C:List DeR) (c:CeR):Option DeR:=C.find? (fun d=>decide (d.c=c))
def amt:Option DeR→Int
 | none=>0
 | some d=>d.a
def getC (C:List DeR) (c:CeR):Int:=amt (fdC C c)
def setC (c:CeR) (n:Int):List DeR→List DeR
 | []=>[]
 | d :: r=>if d.c=c then (if n=0 then r else ⟨d.c,n⟩ :: r) else d :: setC c n r
def addC (C:List DeR) (c:CeR) (a:Int):List DeR:=match fdC C c with
 | none=>if wr a=0 then C else insB (fun y=>ltCe c y.c) ⟨c,wr a⟩ C
 | some d=>setC c (wr (d.a+a)) C
def addL (C:List DeR) (l:List DeR):List DeR:=l.foldl (fun C d=>addC C d.c d.a) C
def sumC (C:List DeR):Int:=(C.map DeR.a).sum
def totC (C:List DeR):Int:=wr (sumC C)
theorem sumC_cons (d:DeR) (r:List DeR):sumC (d :: r)=d.a+sumC r:=by simp [sumC]
theorem sumC_insB (p:DeR→Bool) (x:DeR):∀ (L:List DeR),sumC (insB p x L)=x.a+sumC L
 | []=>by simp [insB,sumC]
 | y :: r=>by
  unfold insB
  split
  ·rw [sumC_cons,sumC_cons]
  rw [sumC_cons,sumC_cons,sumC_insB p x r];omega
theorem sumC_setC (c:CeR) (n:Int):∀ (L:List DeR) (d:DeR),fdC L c=some d→sumC (setC c n L)=sumC L - d.a+n
 | [],d,h=>by simp [fdC] at h
 | e :: r,d,h=>by
  unfold fdC at h
  rw [List.find?_cons] at h
  unfold setC
  by_cases hc:e.c=c
  ·rw [decide_eq_true hc] at h
   injection h with h
   subst h
   rw [if_pos hc]
   split
   ·rename_i h0;rw [sumC_cons,h0];omega
   rw [sumC_cons,sumC_cons];show n+_=_;omega
  rw [decide_eq_false hc] at h
  rw [if_neg hc,sumC_cons,sumC_cons,sumC_setC c n r d h];omega
theorem totC_addC (C:List DeR) (c:CeR) (a:Int):totC (addC C c a)=wr (sumC C+a):=by
 unfold addC totC
 cases h:fdC C c with
 | none =>
  simp only
  split
  ·rename_i h0;rw [wr_eq] at h0 ⊢;rw [wr_eq];omega
  rw [sumC_insB];show wr (wr a+sumC C)=_;rw [wr_add];congr 1;omega
 | some d =>
  simp only
  rw [sumC_setC c _ C d h,wr_eq,wr_eq,wr_eq];omega
theorem sum_addL (l:List DeR):∀ (C:List DeR),totC (addL C l)=wr (sumC C+sumC l):=by
 induction l with
 | nil=>intro C;show totC C=_;unfold totC;simp [sumC]
 | cons d r ih =>
  intro C
  show totC (addL (addC C d.c d.a) r)=_
  rw [ih,sumC_cons]
  have:=totC_addC C d.c d.a
  unfold totC at this
  rw [← wr_add,this,wr_add]
  congr 1;omega
def fdK (K:List LkR) (n:UInt64):Option LkR:=K.find? (fun l=>decide (l.nm=n))
def openK (K:List LkR) (l:LkR):List LkR:=match fdK K l.nm with
 | none=>insB (fun y=>decide (un l.nm < un y.nm)) l K
 | some _=>K
def closeK (n:UInt64):List LkR→List LkR
 | []=>[]
 | l :: r=>if l.nm=n then r else l :: closeK n r
def markP (P:List UInt64) (n:UInt64):List UInt64:=if n ∈ P then P else insB (fun y=>decide (un n < un y)) n P
def balC (i:Int):CeR:=⟨1,i,0⟩
def lckC (n:UInt64):CeR:=⟨2,0,n⟩
def stkC (i:Int):CeR:=⟨3,i,0⟩
def polC:CeR:=⟨4,0,0⟩
def movC (x y:CeR) (n:Int):List DeR:=[⟨x,wr (-n)⟩,⟨y,n⟩]
theorem sum_mov (x y:CeR) (n:Int):wr (sumC (movC x y n))=0:=by
 show wr (wr (-n)+(n+0))=0
 rw [wr_add,wr_eq];omega
def tL (T:TxR):List Value:=(tA T).toList
def OpLens (L:List OpR):Prop:=∀ R,R ∈ L→R.pre.length=R.n1∧R.prf.length=R.n2
def TxLens (T:TxR):Prop:=OpLens T.L∧T.sig.length=T.m
theorem lens_of {T:TxR} {w:World} (h:T.ok w):TxLens T:=⟨fun R hR=>⟨((h.ops.ok R hR).pre).len,((h.ops.ok R hR).prf).len⟩,h.sig.len⟩
theorem opL_cells {w:World} {b o:Nat} {R:OpR} (h:w.rangeAt b o (opL R)):w.cell? ⟨b,o+21,none⟩=some (.slice R.A1 R.n1 R.c1)∧w.cell? ⟨b,o+22,none⟩=some (.slice R.A2 R.n2 R.c2) :=
 ⟨h 21 _ rfl,h 22 _ rfl⟩
def ofV (v:OpV):OpR:=⟨v.k,v.tO,v.am,v.ul,v.va,v.lk,v.hs,none,v.pre.length,0,v.pre,none,v.prf.length,0,v.prf⟩
theorem encOp_v {R Q:OpR} (h:R.v=Q.v):encOp R=encOp Q:=by
 unfold OpR.v at h
 injection h with h1 h2 h3 h4 h5 h6 h7 h8 h9
 unfold encOp
 rw [h1,h2,h3,h4,h5,h6,h7,h8,h9]
theorem encOps_v {L M:List OpR} (h:L.map OpR.v=M.map OpR.v):encOps L=encOps M:=by
 have e:∀ K:List OpR,encOps K=((K.map OpR.v).map ofV).flatMap encOp:=fun K=>by
  unfold encOps
  induction K with
  | nil=>rfl
  | cons R r ih =>
   rw [List.flatMap_cons,ih]
   simp only [List.map_cons,List.flatMap_cons]
   rw [show encOp (ofV R.v)=encOp R from encOp_v rfl]
 rw [e L,e M,h]
def hasM (G:Int) (i:Nat):Bool:=decide (G / 2 ^ i % 2=1)
def addM (G:Int) (i:Nat):Int:=if hasM G i=true then G else G+2 ^ i
end
section
open Go.RowKit
attribute [local go_sem ↓] Go.wp_at_zero Go.wp_at_succ
def seedOne:UInt64:=72057594037927936
theorem seedOne_cells:nmc seedOne=#[.int .u8 1,.int .u8 0,.int .u8 0,.int .u8 0,.int .u8 0,.int .u8 0,.int .u8 0,.int .u8 0]:=by kernel_rfl
end
section
open Go.RowKit
theorem fdC_cons (d:DeR) (C:List DeR) (c:CeR):fdC (d :: C) c=if d.c=c then some d else fdC C c:=by
 unfold fdC;rw [List.find?_cons]
 by_cases h:d.c=c
 ·rw [decide_eq_true h,if_pos h]
 rw [decide_eq_false h,if_neg h]
theorem fdC_some {C:List DeR} {c:CeR} {d:DeR} (h:fdC C c=some d):d ∈ C∧d.c=c :=
 ⟨List.mem_of_find?_eq_some h,by have:=List.find?_some h;simpa using this⟩
theorem fdC_none {C:List DeR} {c:CeR}:fdC C c=none ↔ ∀ d,d ∈ C→d.c ≠ c:=by
 unfold fdC;rw [List.find?_eq_none];simp
theorem getC_of {C:List DeR} {c:CeR} {o:Option DeR} (h:fdC C c=o):getC C c=amt o:=by unfold getC;rw [h]
theorem Grown.refl (w:World) (row:Option Nat):w.grownBy w row:=⟨rfl,rfl,rfl,Nat.le_refl _,fun _ _ _=>rfl⟩
theorem Grown.trans {a b c:World} {row:Option Nat} (h:a.grownBy b row) (k:b.grownBy c row):a.grownBy c row :=
 ⟨k.os.trans h.os,k.tape.trans h.tape,k.output.trans h.output,Nat.le_trans h.size k.size,fun i hi hr=>(k.block i (Nat.lt_of_lt_of_le hi h.size) hr).trans (h.block i hi hr)⟩
theorem Ext.grown {a b:World} (h:Ext a b) (row:Option Nat):a.grownBy b row:=⟨h.os,h.tape,h.output,h.size,fun i hi _=>h.block i hi⟩
theorem Grown.none {a b:World} (h:a.grownBy b none):Ext a b:=⟨h.os,h.tape,h.output,h.size,fun k hk=>h.block k hk (by simp)⟩
theorem splice_cons {xs:List Value} {o:Nat} {y:Value} {r:List Value} (h:o < xs.length):splice (xs.set o y) (o+1) r=splice xs o (y :: r):=by
 unfold splice
 rw [List.take_add_one,List.getElem?_set_self h,List.take_set_of_le (Nat.le_refl _)]
 simp [List.drop_set_of_lt,show o < o+1+r.length from by omega,show o+(r.length+1)=o+1+r.length from by omega]
theorem own_splice {base:Nat} {e:TypeId} {size g n c:Nat} (ys:List Value):∀ (o:Nat) (w:World) (xs:List Value),o+ys.length≤xs.length→w.ownsRow base e size (.slice (some ⟨g,0,none⟩) n c) n xs →
  (w.setCells g o ys).ownsRow base e size (.slice (some ⟨g,0,none⟩) n c) n (splice xs o ys)∧w.grownBy (w.setCells g o ys) (some g):=by
 induction ys with
 | nil=>intro o w xs hl h;exact ⟨by simpa [splice,World.setCells] using h,Grown.refl _ _⟩
 | cons y r ih =>
  intro o w xs hl h
  simp only [List.length_cons] at hl
  have hs:=h.stored o y
  obtain ⟨h1,h2⟩:=ih (o+1) _ _ (by rw [List.length_set];omega) hs.1
  rw [splice_cons (by omega)] at h1
  exact ⟨h1,Grown.trans hs.2 h2⟩
theorem own_cut {w:World} {base:Nat} {e:TypeId} {size:Nat} {A:Option Addr} {n c:Nat} {xs:List Value} (h:w.ownsRow base e size (.slice A n c) n xs) {i:Nat} (hi:i≤n) (hA:A ≠ none):w.ownsRow base e size (.slice A i c) i (xs.take (i * size)):=by
 have hle:i * size≤n * size:=Nat.mul_le_mul_right _ hi
 refine ⟨by rw [List.length_take,h.1];omega,?_⟩
 rcases h.2 with ⟨hv,_⟩ | ⟨g,cap,cur,hv,hb,hh,hn,hm,hs,ht⟩
 ·injection hv with hA';exact absurd hA' hA
 injection hv with h1 _ h3;subst h1;subst h3
 refine .inr ⟨g,c,cur,rfl,hb,hh,by omega,hm,hs,?_⟩
 rw [← ht,List.take_take,Nat.min_eq_left hle]
theorem own_over {base:Nat} {e:TypeId} {size g n c:Nat} (ys:List Value):∀ (o:Nat) (w:World) (xs:List Value),w.ownsRow base e size (.slice (some ⟨g,0,none⟩) n c) n xs →
  ∃ xs',(w.setCells g o ys).ownsRow base e size (.slice (some ⟨g,0,none⟩) n c) n xs'∧xs'.take o=xs.take o∧w.grownBy (w.setCells g o ys) (some g):=by
 induction ys with
 | nil=>intro o w xs h;exact ⟨xs,h,rfl,Grown.refl _ _⟩
 | cons y r ih =>
  intro o w xs h
  have hs:=h.stored o y
  obtain ⟨xs',h1,h2,h3⟩:=ih (o+1) _ _ hs.1
  refine ⟨xs',h1,?_,Grown.trans hs.2 h3⟩
  have:=congrArg (List.take o) h2
  rw [List.take_take,List.take_take,Nat.min_eq_left (by omega)] at this
  rw [this,List.take_set_of_le (by omega)]
section
variable {α:Type} [RowT α]
instance (priority:=low) rowInh:Inhabited α:=⟨RowT.z⟩
theorem arr_nth (d:Array α) (i:Nat):d[i]! = nthG d.toList i:=by
 show d[i]! = d.toList.getD i RowT.z
 rw [List.getD_eq_getElem?_getD,Array.getElem?_toList]
 by_cases h:i < d.size
 ·rw [getElem!_pos d i h,Array.getElem?_eq_getElem h];rfl
 rw [getElem!_neg d i h,Array.getElem?_eq_none (by omega)];rfl
theorem gcs_set (L:List α) (i:Nat) (x:α) (hi:i < L.length):splice (gcs L) (i * RowT.sz α) (RowT.enc x)=gcs (L.set i x):=by
 rw [List.set_eq_take_append_cons_drop,if_pos hi,gcs_append,gcs_cons]
 unfold splice
 rw [gcs_take,RowT.len,← gcs_drop,Nat.add_mul,Nat.one_mul]
class RowB (α:Type) [RowT α] where
 ow:World→Nat→α→Prop
 ok:∀ x w b,ow w b x→RowT.ok x w
 ext:∀ x w w' b,ow w b x→Ext w w'→ow w' b x
 kept:∀ x w w' b b' e sz A n c xs,ow w b x→w.ownsRow b' e sz (.slice A n c) n xs→e ≠ 5→w.grownBy w' (Value.ownBlock (.slice A n c))→ow w' b x
 mono:∀ x w b b',ow w b x→b'≤b→ow w b' x
structure RowS [RowB α] (w0 w:World) (base:Nat) (e:TypeId) (A:Option Addr) (n c:Nat) (d:Array α):Prop where
 own:w.ownsRow base e (RowT.sz α) (.slice A n c) n (gcs d.toList)
 ow:∀ x ∈ d.toList,RowB.ow w base x
 gr:w0.grownBy w (Value.ownBlock (.slice A n c))
 ne:e ≠ 5
variable [RowB α] {w0 w w':World} {base:Nat} {e:TypeId} {A:Option Addr} {n c:Nat} {d:Array α}
theorem RowS.start (h:w.ownsRow base e (RowT.sz α) (.slice A n c) n (gcs d.toList)) (ho:∀ x ∈ d.toList,RowB.ow w base x) (hne:e ≠ 5):RowS w w base e A n c d:=⟨h,ho,Grown.refl _ _,hne⟩
theorem RowS.size (h:RowS w0 w base e A n c d):d.size=n:=by
 have:=h.own.1
 rw [gL] at this
 have hp:=RowT.pos (α:=α)
 have:=Nat.eq_of_mul_eq_mul_right hp this
 simpa using this
theorem RowS.ext (h:RowS w0 w base e A n c d) (he:Ext w w'):RowS w0 w' base e A n c d:=⟨own_ext h.own he,fun x hx=>RowB.ext _ _ _ _ (h.ow x hx) he,Grown.trans h.gr (Ext.grown he _),h.ne⟩
theorem RowS.at (h:RowS w0 w base e A n c d) (hn:0 < n):∃ g,A=some ⟨g,0,none⟩∧base≤g∧w.rangeAt g 0 (gcs d.toList):=own_at h.own hn
theorem RowS.cell (h:RowS w0 w base e A n c d) {g:Nat} (hA:A=some ⟨g,0,none⟩) {i:Nat} (hi:i < n):w.rangeAt g (i * RowT.sz α) (RowT.enc d[i]!):=by
 obtain ⟨g',hA',_,hr⟩:=h.at (by omega)
 obtain rfl:g=g':=by rw [hA] at hA';injection hA' with h1;injection h1
 have:=el_at (L:=d.toList) (k:=i) hr (by have:=h.size;simp;omega)
 rw [Nat.zero_add] at this
 rw [arr_nth]
 exact this
theorem arr_mem {i:Nat} (hi:i < d.size):d[i]! ∈ d.toList:=by
 rw [getElem!_pos d i hi];exact Array.mem_toList_iff.2 (Array.getElem_mem hi)
theorem RowS.owAt (h:RowS w0 w base e A n c d) {i:Nat} (hi:i < n):RowB.ow w base d[i]!:=h.ow _ (arr_mem (by rw [h.size];exact hi))
theorem RowS.ok (h:RowS w0 w base e A n c d) {i:Nat} (hi:i < n):RowT.ok d[i]! w:=RowB.ok _ _ _ (h.owAt hi)
theorem RowS.there (h:RowS w0 w base e A n c d) {g:Nat} (hA:A=some ⟨g,0,none⟩) {i:Nat} (hi:i < n):w.there g (i * RowT.sz α) (RowT.sz α):=by
 have hl:=h.own.1
 have h1:i * RowT.sz α+RowT.sz α≤n * RowT.sz α:=by
  have:=Nat.mul_le_mul_right (RowT.sz α) (show i+1≤n from hi)
  rwa [Nat.add_mul,Nat.one_mul] at this
 have ho:=h.own
 subst hA
 intro j hj
 exact ⟨by rw [ho.cellAt (i * RowT.sz α+j) (by omega),List.getElem?_eq_getElem (by omega)];rfl,ho.frozenAt _⟩
theorem RowS.set (h:RowS w0 w base e A n c d) {g:Nat} (hA:A=some ⟨g,0,none⟩) {i:Nat} (hi:i < n) (x:α) (hx:RowB.ow w base x):RowS w0 (w.setCells g (i * RowT.sz α) (RowT.enc x)) base e A n c (d.setIfInBounds i x):=by
 have hs:=h.size
 have ho:=h.own
 subst hA
 obtain ⟨h1,h2⟩:=own_splice (RowT.enc x) (i * RowT.sz α) w (gcs d.toList) (by
  rw [RowT.len,gL]
  have:=Nat.mul_le_mul_right (RowT.sz α) (show i+1≤d.toList.length from by simp;omega)
  rwa [Nat.add_mul,Nat.one_mul] at this) ho
 rw [gcs_set _ _ _ (by simp;omega)] at h1
 refine ⟨by rw [Array.toList_setIfInBounds];exact h1,fun y hy=>?_,Grown.trans h.gr h2,h.ne⟩
 rw [Array.toList_setIfInBounds] at hy
 rcases List.mem_or_eq_of_mem_set hy with hy | rfl
 ·exact RowB.kept _ _ _ _ _ _ _ _ _ _ _ (h.ow y hy) ho h.ne h2
 exact RowB.kept _ _ _ _ _ _ _ _ _ _ _ hx ho h.ne h2
theorem RowS.keep (h:RowS w0 w base e A n c d) {g:Nat} (hA:A=some ⟨g,0,none⟩) (o:Nat) (vs:List Value) {x:α} (hx:RowB.ow w base x):RowB.ow (w.setCells g o vs) base x:=by
 have ho:=h.own
 subst hA
 exact RowB.kept _ _ _ _ _ _ _ _ _ _ _ hx ho h.ne (gS _ _ _ _)
theorem RowS.swap (h:RowS w0 w base e A n c d) {g:Nat} (hA:A=some ⟨g,0,none⟩) {i j:Nat} (hi:i < n) (hj:j < n) :
  RowS w0 ((w.setCells g (i * RowT.sz α) (RowT.enc d[j]!)).setCells g (j * RowT.sz α) (RowT.enc d[i]!)) base e A n c (Sort.swp d i j) :=
 (h.set hA hi _ (h.owAt hj)).set hA hj _ (h.keep hA _ _ (h.owAt hi))
theorem RowS.trans {w1:World} (h:RowS w0 w1 base e A n c d) {d':Array α} (k:RowS w1 w base e A n c d'):RowS w0 w base e A n c d':=⟨k.own,k.ow,Grown.trans h.gr k.gr,k.ne⟩
end
theorem ownB_kept {w w':World} {b b' n0 n1 sz c0:Nat} {c1:Nat} {A0 A1:Option Addr} {l:List UInt8} {e:TypeId} {xs:List Value} (h:OwnB w b 5 A0 n0 c0 l) (hr:w.ownsRow b' e sz (.slice A1 n1 c1) n1 xs) (hne:e ≠ 5) (hg:w.grownBy w' (Value.ownBlock (.slice A1 n1 c1))):OwnB w' b 5 A0 n0 c0 l :=
 World.ownsRow.kept h hg (own_ne h hr (Ne.symm hne))
instance:RowB SgR where
 ow w b S:=OwnB w b 5 S.A S.n S.c S.sig∧S.v.wf
 ok S w b h:=⟨h.2,h.1.sl⟩
 ext S w w' b h he:=⟨h.1.ext he,h.2⟩
 kept S w w' b b' e sz A n c xs h hr hne hg:=⟨ownB_kept h.1 hr hne hg,h.2⟩
 mono S w b b' h hb:=⟨own_mono h.1 hb,h.2⟩
end
end Go.Proofs.YtohmmcahpakokaaGreat
