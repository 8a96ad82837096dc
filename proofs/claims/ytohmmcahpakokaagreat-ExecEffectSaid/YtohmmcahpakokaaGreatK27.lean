/- state.find, findLock, before: where an entry, a lock, a name stands, or is tO stand. -/
import Derived.Test.YtohmmcahpakokaaGreatK23
import Derived.Test.YtohmmcahpakokaaGreatK24
import Derived.Test.YtohmmcahpakokaaGreatK25
set_option maxRecDepth 100000
set_option maxHeartbeats 8000000
set_option linter.unusedVariables false
set_option linter.unusedSimpArgs false
namespace Go.Proofs.YtohmmcahpakokaaGreat
open Go.RowKit
attribute [local go_sem ↓] Go.wp_at_zero Go.wp_at_succ
theorem find1_any (x:DeR) (c:CeR) (g:Nat) (w:World) (hx:deW x) (hc:ceW c) (hb:Blk w g 32 (ceA c)):Calls Tryz.prog 158 #[.agg (deA x),.pointer (some ⟨g,0,none⟩)] w fun e w'=>e=.returned (.bool (decide (x.c=c)))∧Ext w w':=by
 have HB:=zh (Blk.new w 34 (deA x))
 have HC:=zh (hb.alloc (.cells (deA x) 34))
 have HE:=zh ((Ext.refl w).alloc' (.cells (deA x) 34))
 have r0:(w.alloc (.cells (deA x) 34)).rangeAt w.heap.size 0 (RowT.enc x.c):=deA_c HB.out
 have r1:(w.alloc (.cells (deA x) 34)).rangeAt g 0 (RowT.enc c):=rangeAt_of_blk HC.out
 have hq:=run_eqCe x.c c hx.1 hc (w.alloc (.cells (deA x) 34))
 have HC2:=zh (rfl:(deA x)=(deA x))
 clear hb hx hc
 have hg:=guard_Ce .eql (.tmp 5) (.tmp 6) x.c c (w.alloc (.cells (deA x) 34))
 obtain ⟨v0,hv0⟩:∃ v,Value.agg (ceA x.c)=v:=⟨_,rfl⟩
 obtain ⟨v1,hv1⟩:∃ v,Value.agg (ceA c)=v:=⟨_,rfl⟩
 rw [hv0,hv1] at hq hg
 have HV0:=zh hv0
 have HV1:=zh hv1
 clear hv0 hv1
 obtain ⟨b,hb⟩:∃ b,decide (x.c=c)=b:=⟨_,rfl⟩
 rw [hb] at hq ⊢
 clear hb
 go_enter Tryz.func158,Tryz.ntmps158
 go_wp2_with (first | (with_reducible refine wpList_loadG ceP rfl (.tmp 4) rfl w.heap.size 0 rfl x.c v0 HV0.out r0 ?_) | (with_reducible refine wpList_loadG ceP rfl (.tmp 1) rfl g 0 rfl c v1 HV1.out r1 ?_))
 go_ret
 exact ⟨rfl,HE.out⟩
theorem find1_says (c:CeR) (g:Nat) (w:World) (hc:ceW c) (hb:Blk w g 32 (ceA c)):Says deA 158 #[.pointer (some ⟨g,0,none⟩)] (fun x=>decide (x.c=c)) w :=
 ⟨fun _ _=>by kernel_rfl,fun x W hE hx=>find1_any x c g W hx hc (hb.ext hE)⟩
theorem findLock1_any (x:LkR) (c:UInt64) (g:Nat) (w:World) (hx:lkW x)  (hb:Blk w g 30 (nmc c)):Calls Tryz.prog 213 #[.agg (lkA x),.pointer (some ⟨g,0,none⟩)] w fun e w'=>e=.returned (.bool (decide (x.nm=c)))∧Ext w w':=by
 have HB:=zh (Blk.new w 94 (lkA x))
 have HC:=zh (hb.alloc (.cells (lkA x) 94))
 have HE:=zh ((Ext.refl w).alloc' (.cells (lkA x) 94))
 have r0:(w.alloc (.cells (lkA x) 94)).rangeAt w.heap.size 0 (RowT.enc x.nm):=lkA_nm HB.out
 have r1:(w.alloc (.cells (lkA x) 94)).rangeAt g 0 (RowT.enc c):=nm_range HC.out
 have hq:=run_eqN x.nm c (w.alloc (.cells (lkA x) 94))
 have HC2:=zh (rfl:(lkA x)=(lkA x))
 clear hb hx 
 have hg:=guard_Nm .eql (.tmp 5) (.tmp 6) x.nm c (w.alloc (.cells (lkA x) 94))
 obtain ⟨v0,hv0⟩:∃ v,Value.agg (nmc x.nm)=v:=⟨_,rfl⟩
 obtain ⟨v1,hv1⟩:∃ v,Value.agg (nmc c)=v:=⟨_,rfl⟩
 rw [hv0,hv1] at hq hg
 have HV0:=zh hv0
 have HV1:=zh hv1
 clear hv0 hv1
 obtain ⟨b,hb⟩:∃ b,decide (x.nm=c)=b:=⟨_,rfl⟩
 rw [hb] at hq ⊢
 clear hb
 go_enter Tryz.func213,Tryz.ntmps213
 go_wp2_with (first | (with_reducible refine wpList_loadG nmP rfl (.tmp 4) rfl w.heap.size 0 rfl x.nm v0 HV0.out r0 ?_) | (with_reducible refine wpList_loadG nmP rfl (.tmp 1) rfl g 0 rfl c v1 HV1.out r1 ?_))
 go_ret
 exact ⟨rfl,HE.out⟩
theorem findLock1_says (c:UInt64) (g:Nat) (w:World)  (hb:Blk w g 30 (nmc c)):Says lkA 213 #[.pointer (some ⟨g,0,none⟩)] (fun x=>decide (x.nm=c)) w :=
 ⟨fun _ _=>by kernel_rfl,fun x W hE hx=>findLock1_any x c g W hx (hb.ext hE)⟩
theorem find_any (s:StR) (c:CeR) (w:World) (h:s.ok w) (hc:ceW c) (r:Int) (hr:IxIs (fun x=>decide (x.c=c)) s.C r):Calls Tryz.prog 101 #[.agg (ssA s),.agg (ceA c)] w fun e w'=>e=.returned (.int .i64 r)∧Ext w w':=by
 obtain ⟨W,hW⟩:∃ W,((w.alloc (.cells (ssA s) 44)).alloc (.cells (ceA c) 32))=W:=⟨_,rfl⟩
 have HB:=zh (show Blk W w.heap.size 44 (ssA s) from by rw [← hW];exact (Blk.new w 44 (ssA s)).alloc _)
 have HC:=zh (show Blk W (w.heap.size+1) 32 (ceA c) from by rw [← hW];exact Blk.newAt _ _ _ _ (by simp))
 have HE:=zh (show Ext w W from by rw [← hW];exact ((Ext.refl w).alloc' _).alloc' _)
 have c0:W.cell? ⟨w.heap.size,0,none⟩=some (.slice s.A1 s.n1 s.c1):=HB.out.cell 0
 have HF:=zh (find1_says c _ _ hc HC.out)
 have HI:=zh (ixDe_any HF.out W s.A1 s.n1 s.c1 s.C (h.ext HE.out).s1 (Ext.refl _) r hr)
 clear h hr hc
 go_enter Tryz.func101,Tryz.ntmps101
 go_wp2_with fail
 refine HI.out.mono ?_
 rintro e w5 ⟨rfl,he5⟩
 have HX:=zh (HE.out.trans he5)
 clear he5 c0 HI HF
 go_wp2_with fail
 go_ret
 exact ⟨rfl,HX.out⟩
theorem findLock_any (s:StR) (c:UInt64) (w:World) (h:s.ok w)  (r:Int) (hr:IxIs (fun x=>decide (x.nm=c)) s.K r):Calls Tryz.prog 152 #[.agg (ssA s),.agg (nmc c)] w fun e w'=>e=.returned (.int .i64 r)∧Ext w w':=by
 obtain ⟨W,hW⟩:∃ W,((w.alloc (.cells (ssA s) 44)).alloc (.cells (nmc c) 30))=W:=⟨_,rfl⟩
 have HB:=zh (show Blk W w.heap.size 44 (ssA s) from by rw [← hW];exact (Blk.new w 44 (ssA s)).alloc _)
 have HC:=zh (show Blk W (w.heap.size+1) 30 (nmc c) from by rw [← hW];exact Blk.newAt _ _ _ _ (by simp))
 have HE:=zh (show Ext w W from by rw [← hW];exact ((Ext.refl w).alloc' _).alloc' _)
 have c0:W.cell? ⟨w.heap.size,2,none⟩=some (.slice s.A3 s.n3 s.c3):=HB.out.cell 2
 have HF:=zh (findLock1_says c _ _ HC.out)
 have HI:=zh (ixLk_any HF.out W s.A3 s.n3 s.c3 s.K (h.ext HE.out).s3 (Ext.refl _) r hr)
 clear h hr 
 go_enter Tryz.func152,Tryz.ntmps152
 go_wp2_with fail
 refine HI.out.mono ?_
 rintro e w5 ⟨rfl,he5⟩
 have HX:=zh (HE.out.trans he5)
 clear he5 c0 HI HF
 go_wp2_with fail
 go_ret
 exact ⟨rfl,HX.out⟩
theorem beforeDe1_any (x y:DeR) (gf g:Nat) (w:World) (hf:Blk w gf 124 #[.func (.func 105) #[] #[]]) (hb:Blk w g 34 (deA x)):Calls Tryz.prog 161 #[.agg (deA y),.pointer (some ⟨gf,0,none⟩),.pointer (some ⟨g,0,none⟩)] w fun e w'=>e=.returned (.bool ((fun y=>ltCe x.c y.c) y))∧Ext w w':=by
 have HB:=zh (Blk.new w 34 (deA y))
 have HC:=zh (hb.alloc (.cells (deA y) 34))
 have HE:=zh ((Ext.refl w).alloc' (.cells (deA y) 34))
 have c0:(w.alloc (.cells (deA y) 34)).cell? ⟨gf,0,none⟩=some (.func (.func 105) #[] #[]):=(hf.alloc _).cell 0
 have r0:(w.alloc (.cells (deA y) 34)).rangeAt w.heap.size 0 (RowT.enc y):=rangeAt_of_blk HB.out
 have r1:(w.alloc (.cells (deA y) 34)).rangeAt g 0 (RowT.enc x):=rangeAt_of_blk HC.out
 have HQ:=zh (cmpC_pos y.c x.c)
 have HM:=zh (fun W=>compareD_any y x W)
 have eg:∀ args w,(callFunc 105 args).run Tryz.prog w=.ok (.enter 105 args) w:=fun _ _=>by kernel_rfl
 clear hb hf
 obtain ⟨v0,hv0⟩:∃ v,Value.agg (deA y)=v:=⟨_,rfl⟩
 obtain ⟨v1,hv1⟩:∃ v,Value.agg (deA x)=v:=⟨_,rfl⟩
 have HV0:=zh hv0
 have HV1:=zh hv1
 rw [hv0,hv1] at HM
 clear hv0 hv1
 go_enter Tryz.func161,Tryz.ntmps161
 go_wp2_with (first | (with_reducible refine wpList_loadG deP rfl (.tmp 3) rfl w.heap.size 0 rfl y v0 HV0.out r0 ?_) | (with_reducible refine wpList_loadG deP rfl (.tmp 2) rfl g 0 rfl x v1 HV1.out r1 ?_))
 refine (HM.out _).mono ?_
 rintro e w5 ⟨rfl,he5⟩
 have HX:=zh (HE.out.trans he5)
 clear he5 c0 r0 r1
 go_wp2_with fail
 go_ret
 exact ⟨by rw [← HQ.out];rfl,HX.out⟩
theorem beforeDe_any (A:Option Addr) (n c:Nat) (L:List DeR) (x:DeR) (w:World) (h:SlG w A n c L):Calls Tryz.prog 104 #[.slice A n c,.agg (deA x),.func (.func 105) #[] #[]] w fun e w'=>∃ k:Nat,e=.returned (.int .i64 (k:Int))∧k≤n∧insB (fun y=>ltCe x.c y.c) x L=L.take k ++ x :: L.drop k∧Ext w w':=by
 obtain ⟨W,hW⟩:∃ W,((w.alloc (.cells (deA x) 34)).alloc (.cells #[.func (.func 105) #[] #[]] 124))=W:=⟨_,rfl⟩
 have HB:=zh (show Blk W w.heap.size 34 (deA x) from by rw [← hW];exact (Blk.new w 34 (deA x)).alloc _)
 have HC:=zh (show Blk W (w.heap.size+1) 124 #[.func (.func 105) #[] #[]] from by rw [← hW];exact Blk.newAt _ _ _ _ (by simp))
 have HE:=zh (show Ext w W from by rw [← hW];exact ((Ext.refl w).alloc' _).alloc' _)
 have HF:=zh (show Says deA 161 #[.pointer (some ⟨w.heap.size+1,0,none⟩),.pointer (some ⟨w.heap.size,0,none⟩)] (fun y=>ltCe x.c y.c) W from ⟨fun _ _=>by kernel_rfl,fun y W2 hE2 _=>beforeDe1_any x y _ _ W2 (HC.out.ext hE2) (HB.out.ext hE2)⟩)
 have HLEN:=zh h.len
 have HS:=zh (h.ext HE.out)
 have hcap:=h.cap
 have hle:=h.le
 clear h
 have hcs:=ix_cases (fun y=>ltCe x.c y.c) L
 rw [HLEN.out] at hcs
 rcases hcs with hno | ⟨k,hk,h1,h2⟩
 ·have HI := zh (ixDe_any HF.out W A n c L HS.out (Ext.refl _) (-1) (.inl ⟨rfl, by rw [HLEN.out]; exact hno⟩))
  have HR:=zh (insB_at (fun y=>ltCe x.c y.c) x L n (by rw [HLEN.out];exact Nat.le_refl _) (fun j hj hl=>by rw [nthG_eq hl];exact hno j hj) (fun hh=>absurd hh (by rw [HLEN.out];omega)))
  clear hno
  go_enter Tryz.func104,Tryz.ntmps104
  go_wp2_with fail
  refine HI.out.mono ?_
  rintro e w5 ⟨rfl,he5⟩
  have HX:=zh (HE.out.trans he5)
  clear he5 HI HF hW
  go_wp2_with fail
  go_ret
  exact ⟨n,rfl,Nat.le_refl _,HR.out,HX.out⟩
 ·have HI := zh (ixDe_any HF.out W A n c L HS.out (Ext.refl _) (k : Int) (.inr ⟨k, rfl, by rw [HLEN.out]; exact hk, h1, h2⟩))
  have HR:=zh (insB_at (fun y=>ltCe x.c y.c) x L k (by rw [HLEN.out];omega) (fun j hj hl=>by rw [nthG_eq hl];exact h2 j hj) (fun hh=>by rw [nthG_eq hh];exact h1))
  clear h1 h2
  go_enter Tryz.func104,Tryz.ntmps104
  go_wp2_with fail
  refine HI.out.mono ?_
  rintro e w5 ⟨rfl,he5⟩
  have HX:=zh (HE.out.trans he5)
  clear he5 HI HF hW
  go_wp2_with fail
  go_ret
  exact ⟨k,rfl,Nat.le_of_lt hk,HR.out,HX.out⟩
theorem beforeLk1_any (x y:LkR) (gf g:Nat) (w:World) (hf:Blk w gf 172 #[.func (.func 155) #[] #[]]) (hb:Blk w g 94 (lkA x)):Calls Tryz.prog 216 #[.agg (lkA y),.pointer (some ⟨gf,0,none⟩),.pointer (some ⟨g,0,none⟩)] w fun e w'=>e=.returned (.bool ((fun y=>decide (un x.nm < un y.nm)) y))∧Ext w w':=by
 have HB:=zh (Blk.new w 94 (lkA y))
 have HC:=zh (hb.alloc (.cells (lkA y) 94))
 have HE:=zh ((Ext.refl w).alloc' (.cells (lkA y) 94))
 have c0:(w.alloc (.cells (lkA y) 94)).cell? ⟨gf,0,none⟩=some (.func (.func 155) #[] #[]):=(hf.alloc _).cell 0
 have r0:(w.alloc (.cells (lkA y) 94)).rangeAt w.heap.size 0 (RowT.enc y):=rangeAt_of_blk HB.out
 have r1:(w.alloc (.cells (lkA y) 94)).rangeAt g 0 (RowT.enc x):=rangeAt_of_blk HC.out
 have HQ:=zh (cmpN_pos y.nm x.nm)
 have HM:=zh (fun W=>compareL_any y x W)
 have eg:∀ args w,(callFunc 155 args).run Tryz.prog w=.ok (.enter 155 args) w:=fun _ _=>by kernel_rfl
 clear hb hf
 obtain ⟨v0,hv0⟩:∃ v,Value.agg (lkA y)=v:=⟨_,rfl⟩
 obtain ⟨v1,hv1⟩:∃ v,Value.agg (lkA x)=v:=⟨_,rfl⟩
 have HV0:=zh hv0
 have HV1:=zh hv1
 rw [hv0,hv1] at HM
 clear hv0 hv1
 go_enter Tryz.func216,Tryz.ntmps216
 go_wp2_with (first | (with_reducible refine wpList_loadG lkP rfl (.tmp 3) rfl w.heap.size 0 rfl y v0 HV0.out r0 ?_) | (with_reducible refine wpList_loadG lkP rfl (.tmp 2) rfl g 0 rfl x v1 HV1.out r1 ?_))
 refine (HM.out _).mono ?_
 rintro e w5 ⟨rfl,he5⟩
 have HX:=zh (HE.out.trans he5)
 clear he5 c0 r0 r1
 go_wp2_with fail
 go_ret
 exact ⟨by rw [← HQ.out];rfl,HX.out⟩
theorem beforeLk_any (A:Option Addr) (n c:Nat) (L:List LkR) (x:LkR) (w:World) (h:SlG w A n c L):Calls Tryz.prog 154 #[.slice A n c,.agg (lkA x),.func (.func 155) #[] #[]] w fun e w'=>∃ k:Nat,e=.returned (.int .i64 (k:Int))∧k≤n∧insB (fun y=>decide (un x.nm < un y.nm)) x L=L.take k ++ x :: L.drop k∧Ext w w':=by
 obtain ⟨W,hW⟩:∃ W,((w.alloc (.cells (lkA x) 94)).alloc (.cells #[.func (.func 155) #[] #[]] 172))=W:=⟨_,rfl⟩
 have HB:=zh (show Blk W w.heap.size 94 (lkA x) from by rw [← hW];exact (Blk.new w 94 (lkA x)).alloc _)
 have HC:=zh (show Blk W (w.heap.size+1) 172 #[.func (.func 155) #[] #[]] from by rw [← hW];exact Blk.newAt _ _ _ _ (by simp))
 have HE:=zh (show Ext w W from by rw [← hW];exact ((Ext.refl w).alloc' _).alloc' _)
 have HF:=zh (show Says lkA 216 #[.pointer (some ⟨w.heap.size+1,0,none⟩),.pointer (some ⟨w.heap.size,0,none⟩)] (fun y=>decide (un x.nm < un y.nm)) W from ⟨fun _ _=>by kernel_rfl,fun y W2 hE2 _=>beforeLk1_any x y _ _ W2 (HC.out.ext hE2) (HB.out.ext hE2)⟩)
 have HLEN:=zh h.len
 have HS:=zh (h.ext HE.out)
 have hcap:=h.cap
 have hle:=h.le
 clear h
 have hcs:=ix_cases (fun y=>decide (un x.nm < un y.nm)) L
 rw [HLEN.out] at hcs
 rcases hcs with hno | ⟨k,hk,h1,h2⟩
 ·have HI := zh (ixLk_any HF.out W A n c L HS.out (Ext.refl _) (-1) (.inl ⟨rfl, by rw [HLEN.out]; exact hno⟩))
  have HR:=zh (insB_at (fun y=>decide (un x.nm < un y.nm)) x L n (by rw [HLEN.out];exact Nat.le_refl _) (fun j hj hl=>by rw [nthG_eq hl];exact hno j hj) (fun hh=>absurd hh (by rw [HLEN.out];omega)))
  clear hno
  go_enter Tryz.func154,Tryz.ntmps154
  go_wp2_with fail
  refine HI.out.mono ?_
  rintro e w5 ⟨rfl,he5⟩
  have HX:=zh (HE.out.trans he5)
  clear he5 HI HF hW
  go_wp2_with fail
  go_ret
  exact ⟨n,rfl,Nat.le_refl _,HR.out,HX.out⟩
 ·have HI := zh (ixLk_any HF.out W A n c L HS.out (Ext.refl _) (k : Int) (.inr ⟨k, rfl, by rw [HLEN.out]; exact hk, h1, h2⟩))
  have HR:=zh (insB_at (fun y=>decide (un x.nm < un y.nm)) x L k (by rw [HLEN.out];omega) (fun j hj hl=>by rw [nthG_eq hl];exact h2 j hj) (fun hh=>by rw [nthG_eq hh];exact h1))
  clear h1 h2
  go_enter Tryz.func154,Tryz.ntmps154
  go_wp2_with fail
  refine HI.out.mono ?_
  rintro e w5 ⟨rfl,he5⟩
  have HX:=zh (HE.out.trans he5)
  clear he5 HI HF hW
  go_wp2_with fail
  go_ret
  exact ⟨k,rfl,Nat.le_of_lt hk,HR.out,HX.out⟩
theorem beforeNm1_any (x y:UInt64) (gf g:Nat) (w:World) (hf:Blk w gf 127 #[.func (.func 108) #[] #[]]) (hb:Blk w g 30 (nmc x)):Calls Tryz.prog 165 #[.agg (nmc y),.pointer (some ⟨gf,0,none⟩),.pointer (some ⟨g,0,none⟩)] w fun e w'=>e=.returned (.bool ((fun y=>decide (un x < un y)) y))∧Ext w w':=by
 have HB:=zh (Blk.new w 30 (nmc y))
 have HC:=zh (hb.alloc (.cells (nmc y) 30))
 have HE:=zh ((Ext.refl w).alloc' (.cells (nmc y) 30))
 have c0:(w.alloc (.cells (nmc y) 30)).cell? ⟨gf,0,none⟩=some (.func (.func 108) #[] #[]):=(hf.alloc _).cell 0
 have r0:(w.alloc (.cells (nmc y) 30)).rangeAt w.heap.size 0 (RowT.enc y):=nm_range HB.out
 have r1:(w.alloc (.cells (nmc y) 30)).rangeAt g 0 (RowT.enc x):=nm_range HC.out
 have HQ:=zh (cmpN_pos y x)
 have HM:=zh (fun W=>compareNames_any y x W)
 have eg:∀ args w,(callFunc 108 args).run Tryz.prog w=.ok (.enter 108 args) w:=fun _ _=>by kernel_rfl
 clear hb hf
 obtain ⟨v0,hv0⟩:∃ v,Value.agg (nmc y)=v:=⟨_,rfl⟩
 obtain ⟨v1,hv1⟩:∃ v,Value.agg (nmc x)=v:=⟨_,rfl⟩
 have HV0:=zh hv0
 have HV1:=zh hv1
 rw [hv0,hv1] at HM
 clear hv0 hv1
 go_enter Tryz.func165,Tryz.ntmps165
 go_wp2_with (first | (with_reducible refine wpList_loadG nmP rfl (.tmp 3) rfl w.heap.size 0 rfl y v0 HV0.out r0 ?_) | (with_reducible refine wpList_loadG nmP rfl (.tmp 2) rfl g 0 rfl x v1 HV1.out r1 ?_))
 refine (HM.out _).mono ?_
 rintro e w5 ⟨rfl,he5⟩
 have HX:=zh (HE.out.trans he5)
 clear he5 c0 r0 r1
 go_wp2_with fail
 go_ret
 exact ⟨by rw [← HQ.out];rfl,HX.out⟩
theorem beforeNm_any (A:Option Addr) (n c:Nat) (L:List UInt64) (x:UInt64) (w:World) (h:SlG w A n c L):Calls Tryz.prog 107 #[.slice A n c,.agg (nmc x),.func (.func 108) #[] #[]] w fun e w'=>∃ k:Nat,e=.returned (.int .i64 (k:Int))∧k≤n∧insB (fun y=>decide (un x < un y)) x L=L.take k ++ x :: L.drop k∧Ext w w':=by
 obtain ⟨W,hW⟩:∃ W,((w.alloc (.cells (nmc x) 30)).alloc (.cells #[.func (.func 108) #[] #[]] 127))=W:=⟨_,rfl⟩
 have HB:=zh (show Blk W w.heap.size 30 (nmc x) from by rw [← hW];exact (Blk.new w 30 (nmc x)).alloc _)
 have HC:=zh (show Blk W (w.heap.size+1) 127 #[.func (.func 108) #[] #[]] from by rw [← hW];exact Blk.newAt _ _ _ _ (by simp))
 have HE:=zh (show Ext w W from by rw [← hW];exact ((Ext.refl w).alloc' _).alloc' _)
 have HF:=zh (show Says nmc 165 #[.pointer (some ⟨w.heap.size+1,0,none⟩),.pointer (some ⟨w.heap.size,0,none⟩)] (fun y=>decide (un x < un y)) W from ⟨fun _ _=>by kernel_rfl,fun y W2 hE2 _=>beforeNm1_any x y _ _ W2 (HC.out.ext hE2) (HB.out.ext hE2)⟩)
 have HLEN:=zh h.len
 have HS:=zh (h.ext HE.out)
 have hcap:=h.cap
 have hle:=h.le
 clear h
 have hcs:=ix_cases (fun y=>decide (un x < un y)) L
 rw [HLEN.out] at hcs
 rcases hcs with hno | ⟨k,hk,h1,h2⟩
 ·have HI := zh (ixNm_any HF.out W A n c L HS.out (Ext.refl _) (-1) (.inl ⟨rfl, by rw [HLEN.out]; exact hno⟩))
  have HR:=zh (insB_at (fun y=>decide (un x < un y)) x L n (by rw [HLEN.out];exact Nat.le_refl _) (fun j hj hl=>by rw [nthG_eq hl];exact hno j hj) (fun hh=>absurd hh (by rw [HLEN.out];omega)))
  clear hno
  go_enter Tryz.func107,Tryz.ntmps107
  go_wp2_with fail
  refine HI.out.mono ?_
  rintro e w5 ⟨rfl,he5⟩
  have HX:=zh (HE.out.trans he5)
  clear he5 HI HF hW
  go_wp2_with fail
  go_ret
  exact ⟨n,rfl,Nat.le_refl _,HR.out,HX.out⟩
 ·have HI := zh (ixNm_any HF.out W A n c L HS.out (Ext.refl _) (k : Int) (.inr ⟨k, rfl, by rw [HLEN.out]; exact hk, h1, h2⟩))
  have HR:=zh (insB_at (fun y=>decide (un x < un y)) x L k (by rw [HLEN.out];omega) (fun j hj hl=>by rw [nthG_eq hl];exact h2 j hj) (fun hh=>by rw [nthG_eq hh];exact h1))
  clear h1 h2
  go_enter Tryz.func107,Tryz.ntmps107
  go_wp2_with fail
  refine HI.out.mono ?_
  rintro e w5 ⟨rfl,he5⟩
  have HX:=zh (HE.out.trans he5)
  clear he5 HI HF hW
  go_wp2_with fail
  go_ret
  exact ⟨k,rfl,Nat.le_of_lt hk,HR.out,HX.out⟩
end Go.Proofs.YtohmmcahpakokaaGreat
