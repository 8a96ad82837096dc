/- slices.Insert of one element at entries, locks and names: a row of one's own stays one's own. -/
import Derived.Deep.Cut
import Derived.Test.YtohmmcahpakokaaGreatJ23
import Derived.Test.YtohmmcahpakokaaGreatJL
set_option maxRecDepth 100000
set_option maxHeartbeats 8000000
set_option linter.unusedVariables false
set_option linter.unusedSimpArgs false
namespace Go.Proofs.YtohmmcahpakokaaGreat
section
open Go.RowKit
attribute [local go_sem ↓] Go.wp_at_zero Go.wp_at_succ
def gO (w:World) (base:Nat) (e:TypeId) (sz:Nat) (A:Option Addr) (n c m:Nat) (xs:List Value) (en:Ending) (w':World):Prop:=∃ A' c',en=.returned (.slice A' m c')∧w'.ownsRow base e sz (.slice A' m c') m xs∧w.grownBy w' (Value.ownBlock (.slice A n c))
theorem jF {w w1 w2:World} {row:Option Nat} {X:Nat} (h:w.grownBy w1 row) (hX:w.heap.size≤X) (k:w1.grownBy w2 (some X)):w.grownBy w2 row :=
 ⟨k.os.trans h.os,k.tape.trans h.tape,k.output.trans h.output,Nat.le_trans h.size k.size,fun i hi hne=>(k.block i (Nat.lt_of_lt_of_le hi h.size) (fun e=>by injection e with e;omega)).trans (h.block i hi hne)⟩
theorem aFC (base:Nat) (A:Option Addr) (n c:Nat) (L:List DeR) (x:DeR) (vb:Nat) (w:World) (h:w.ownsRow base 34 11 (.slice A n c) n (gcs L)) (hb:Blk w vb 34 (deA x)) (hbase:base≤w.heap.size) (hn:n≤1000000000) :
  Calls Tryz.prog 103 #[.slice A n c,.int .i64 (n:Int),.slice (some ⟨vb,0,none⟩) 1 1] w (gO w base 34 11 A n c (n+1) (gcs (L ++ [x]))):=by
 obtain ⟨hle,hcap⟩:=dN h
 have HO:=zh h
 have HR:=zh (show Rd w (some ⟨vb,0,none⟩) (RowT.enc x) from by have:=Rd.of_blk hb;rwa [deP.toL] at this)
 have i0:(0:Int)≤(n:Int):=by omega
 have i1:(n:Int)≤(c:Int):=by omega
 have HB:=zh hbase
 clear h hb hbase
 obtain ⟨q,hq⟩:∃ q:Option Addr,(if c=n then A else A.map (·.add (n * 11)))=q:=⟨_,rfl⟩
 go_enter Tryz.func103,Tryz.ntmps103
 go_wp2_with (at_builtin;go_must (refine bO deE rfl (.tmp 23) (.tmp 24) rfl base A n c (gcs L) rfl HO.out (some ⟨vb,0,none⟩) 1 1 (RowT.enc x) rfl HR.out (by rw [RowT.len];rfl) (RowT.one x) (by omega) (by omega) HB.out ?_;intro A' c' w' hO hg))
 go_ret
 exact ⟨A',c',rfl,by rw [bS,fQ];exact hO,hg⟩
theorem aFA (base:Nat) (A:Option Addr) (n c:Nat) (L:List LkR) (x:LkR) (vb:Nat) (w:World) (h:w.ownsRow base 94 19 (.slice A n c) n (gcs L)) (hb:Blk w vb 94 (lkA x)) (hbase:base≤w.heap.size) (hn:n≤1000000000) :
  Calls Tryz.prog 153 #[.slice A n c,.int .i64 (n:Int),.slice (some ⟨vb,0,none⟩) 1 1] w (gO w base 94 19 A n c (n+1) (gcs (L ++ [x]))):=by
 obtain ⟨hle,hcap⟩:=dN h
 have HO:=zh h
 have HR:=zh (show Rd w (some ⟨vb,0,none⟩) (RowT.enc x) from by have:=Rd.of_blk hb;rwa [lkP.toL] at this)
 have i0:(0:Int)≤(n:Int):=by omega
 have i1:(n:Int)≤(c:Int):=by omega
 have HB:=zh hbase
 clear h hb hbase
 obtain ⟨q,hq⟩:∃ q:Option Addr,(if c=n then A else A.map (·.add (n * 19)))=q:=⟨_,rfl⟩
 go_enter Tryz.func153,Tryz.ntmps153
 go_wp2_with (at_builtin;go_must (refine bO lkE rfl (.tmp 23) (.tmp 24) rfl base A n c (gcs L) rfl HO.out (some ⟨vb,0,none⟩) 1 1 (RowT.enc x) rfl HR.out (by rw [RowT.len];rfl) (RowT.one x) (by omega) (by omega) HB.out ?_;intro A' c' w' hO hg))
 go_ret
 exact ⟨A',c',rfl,by rw [bS,fQ];exact hO,hg⟩
theorem aFy (base:Nat) (A:Option Addr) (n c:Nat) (L:List UInt64) (x:UInt64) (vb:Nat) (w:World) (h:w.ownsRow base 30 8 (.slice A n c) n (gcs L)) (hb:Blk w vb 30 (nmc x)) (hbase:base≤w.heap.size) (hn:n≤1000000000) :
  Calls Tryz.prog 106 #[.slice A n c,.int .i64 (n:Int),.slice (some ⟨vb,0,none⟩) 1 1] w (gO w base 30 8 A n c (n+1) (gcs (L ++ [x]))):=by
 obtain ⟨hle,hcap⟩:=dN h
 have HO:=zh h
 have HR:=zh (show Rd w (some ⟨vb,0,none⟩) (RowT.enc x) from by have:=Rd.of_blk hb;rwa [nmP.toL] at this)
 have i0:(0:Int)≤(n:Int):=by omega
 have i1:(n:Int)≤(c:Int):=by omega
 have HB:=zh hbase
 clear h hb hbase
 obtain ⟨q,hq⟩:∃ q:Option Addr,(if c=n then A else A.map (·.add (n * 8)))=q:=⟨_,rfl⟩
 go_enter Tryz.func106,Tryz.ntmps106
 go_wp2_with (at_builtin;go_must (refine bO dC rfl (.tmp 23) (.tmp 24) rfl base A n c (gcs L) rfl HO.out (some ⟨vb,0,none⟩) 1 1 (RowT.enc x) rfl HR.out (by rw [RowT.len];rfl) (RowT.one x) (by omega) (by omega) HB.out ?_;intro A' c' w' hO hg))
 go_ret
 exact ⟨A',c',rfl,by rw [bS,fQ];exact hO,hg⟩
theorem aBR (base g n c:Nat) (L:List DeR) (x:DeR) (i vb:Nat) (w:World) (h:w.ownsRow base 34 11 (.slice (some ⟨g,0,none⟩) n c) n (gcs L)) (hb:Blk w vb 34 (deA x)) (hne:vb ≠ g) (hbase:base≤w.heap.size) (hn:n≤1000000000) (hi:i < n) (hroom:n+1≤c) :
  Calls Tryz.prog 103 #[.slice (some ⟨g,0,none⟩) n c,.int .i64 (i:Int),.slice (some ⟨vb,0,none⟩) 1 1] w (gO w base 34 11 (some ⟨g,0,none⟩) n c (n+1) (gcs (L.take i ++ x :: L.drop i))):=by
 obtain ⟨hle,hcap⟩:=dN h
 have HLEN:=zh (show L.length=n from OwnG.len (e:=34) h)
 obtain ⟨js,hjs,hmore⟩:=uG h (m:=n+1) (by omega) hroom
 have HO:=zh hmore.drew
 have HJ:=zh (show js.length=RowT.sz DeR from by rw [hjs,show n+1 - n=1 by omega];exact Nat.one_mul _)
 have HV:=zh hb
 have HNE:=zh hne
 obtain ⟨cur,hcur,hcsz⟩:=aAa h
 have hov:=fun (o2 lb cb:Nat)=>zC (tR:=4) deE Tryz.func159 (by kernel_rfl) (by kernel_rfl) (by kernel_rfl) (by kernel_rfl) hb hcur hne (by rw [hcsz];omega) 0 o2 1 1 lb cb
 have HDL:=zh (show (gcs (L.drop i)).length=Nat.min (n+1 - i) (n - i) * 11 from by rw [aH,List.length_drop,HLEN.out,show Nat.min (n+1 - i) (n - i)=n - i from by show min _ _=_;omega];rfl)
 have HSRC:=zh (show ∀ j v,(gcs (L.drop i))[j]?=some v→w.drew.cell? ((⟨g,i * 11,none⟩:Addr).add j)=some v from fun j v hv=>by
  obtain ⟨g',hgg,_,hra⟩:=cF h (by omega)
  obtain rfl:g=g':=by injection hgg with h1;injection h1
  have hd:=bR (k:=i * 11) hra
  rw [Nat.zero_add,show i * 11=i * RowT.sz DeR from rfl,eC] at hd
  rw [Addr.add_mid];exact hd j v hv)
 have HFIT:=zh (show (i+1) * 11+(gcs (L.drop i)).length≤(n+1) * 11 from by
  rw [aH,List.length_drop,HLEN.out,show RowT.sz DeR=11 from rfl,← Nat.add_mul];exact Nat.mul_le_mul_right _ (by omega))
 have HONE:=zh (cD (L.drop i))
 have HFIT2:=zh (show i * 11+(RowT.enc x).length≤(n+1) * 11 from by rw [RowT.len];show i * 11+11≤_;have:=Nat.mul_le_mul_right 11 (show i+1≤n+1 by omega);omega)
 have HX:=zh (RowT.one x)
 have HXL:=zh (show (RowT.enc x).length=Nat.min 1 (n+1 - i) * 11 from by rw [RowT.len,show Nat.min 1 (n+1 - i)=1 from by show min _ _=_;omega];rfl)
 have i0:(0:Int)≤(i:Int):=by omega
 have i1:(i:Int)≤(c:Int):=by omega
 have i2:(i:Int)≤(n:Int):=by omega
 have i3:¬ (i:Int)=(n:Int):=by omega
 have i4:¬ c=i:=by omega
 have i5:¬ (c:Int) < (n:Int)+1:=by omega
 have i6:(n:Int)+1≤(c:Int):=by omega
 have e1:IntKind.i64.wrap ((i:Int)+1)=(i:Int)+1:=IntWalk.i64_in _ (by omega)
 have e2:(0:Int)≤(i:Int)+1:=by omega
 have e3:((i:Int)+1).toNat=i+1:=by omega
 have e4:(i:Int)+1≤(n:Int)+1:=by omega
 have e5:(i:Int)≤(n:Int)+1:=by omega
 have e6:¬ c=i+1:=by omega
 have HI:=zh hi
 clear h hb hne hcur hcsz hmore hjs
 go_enter Tryz.func103,Tryz.ntmps103
 go_wp2_with fail
 clear hov
 refine wp_region_held_drew (S:=fun W=>True) (by kernel_rfl) (trivial) (fun aA=>?_)
 refine zzr [0,1,2,3,4,5,6,7] ?_
 refine za 8 (fun K hK=>?_)
 (refine kQ deE rfl (.tmp 73) (.tmp 76) rfl base g ((i+1) * 11) (n+1) c (gcs L ++ js) HO.out ⟨g,i * 11,none⟩ (n - i) (c - (i+1)) (n+1 - i) (c - i) (by rfl) (by rfl) (gcs (L.drop i)) HDL.out HSRC.out HFIT.out HONE.out ?_;intro w2 hO2 hg2)
 refine hK.out _ _ (trivial) (fun aA=>?_)
 clear hK K
 try simp only [aS]
 refine wpAnyH_done (by kernel_rfl) ?_ _
 have HO2:=zh hO2
 have HV2:=zh (show w2.rangeAt vb 0 (RowT.enc x) from by
  have:=aD (HV.out.drew.grown hg2 (fun e=>HNE.out (by injection e)))
  rwa [deP.toL] at this)
 have HS2:=zh (show ∀ j v,(RowT.enc x)[j]?=some v→w2.cell? ((⟨vb,0,none⟩:Addr).add j)=some v from fun j v hv=>by rw [Addr.add_mid];exact HV2.out j v hv)
 have HG2:=zh (show w.grownBy w2 (some g) from Grown.trans (Ext.grown ((Ext.refl w).drew') _) hg2)
 clear hO2 hg2
 go_wp2_with ((with_reducible refine gV deE rfl (.tmp 80) (.tmp 81) rfl base g (i * 11) (n+1) c _ HO2.out ⟨vb,0,none⟩ (n+1 - i) (c - i) 1 1 rfl rfl (RowT.enc x) HXL.out HS2.out HFIT2.out HX.out ?_;intro w3 hO3 hg3))
 have HE:=zh (show w3.ownsRow base 34 11 (.slice (some ⟨g,0,none⟩) (n+1) c) (n+1) (gcs (L.take i ++ x :: L.drop i)) from by
  have h1:=rC L x (i:=i) (by rw [HLEN.out];exact Nat.le_of_lt HI.out) js HJ.out
  rw [← h1];exact hO3)
 have HG3:=zh (show w.grownBy w3 (some g) from Grown.trans HG2.out hg3)
 clear hO3 hg3
 go_ret
 exact ⟨some ⟨g,0,none⟩,c,rfl,HE.out,HG3.out⟩
theorem aBQ (base g n c:Nat) (L:List LkR) (x:LkR) (i vb:Nat) (w:World) (h:w.ownsRow base 94 19 (.slice (some ⟨g,0,none⟩) n c) n (gcs L)) (hb:Blk w vb 94 (lkA x)) (hne:vb ≠ g) (hbase:base≤w.heap.size) (hn:n≤1000000000) (hi:i < n) (hroom:n+1≤c) :
  Calls Tryz.prog 153 #[.slice (some ⟨g,0,none⟩) n c,.int .i64 (i:Int),.slice (some ⟨vb,0,none⟩) 1 1] w (gO w base 94 19 (some ⟨g,0,none⟩) n c (n+1) (gcs (L.take i ++ x :: L.drop i))):=by
 obtain ⟨hle,hcap⟩:=dN h
 have HLEN:=zh (show L.length=n from OwnG.len (e:=94) h)
 obtain ⟨js,hjs,hmore⟩:=uG h (m:=n+1) (by omega) hroom
 have HO:=zh hmore.drew
 have HJ:=zh (show js.length=RowT.sz LkR from by rw [hjs,show n+1 - n=1 by omega];exact Nat.one_mul _)
 have HV:=zh hb
 have HNE:=zh hne
 obtain ⟨cur,hcur,hcsz⟩:=aAa h
 have hov:=fun (o2 lb cb:Nat)=>zC (tR:=4) lkE Tryz.func214 (by kernel_rfl) (by kernel_rfl) (by kernel_rfl) (by kernel_rfl) hb hcur hne (by rw [hcsz];omega) 0 o2 1 1 lb cb
 have HDL:=zh (show (gcs (L.drop i)).length=Nat.min (n+1 - i) (n - i) * 19 from by rw [aH,List.length_drop,HLEN.out,show Nat.min (n+1 - i) (n - i)=n - i from by show min _ _=_;omega];rfl)
 have HSRC:=zh (show ∀ j v,(gcs (L.drop i))[j]?=some v→w.drew.cell? ((⟨g,i * 19,none⟩:Addr).add j)=some v from fun j v hv=>by
  obtain ⟨g',hgg,_,hra⟩:=cF h (by omega)
  obtain rfl:g=g':=by injection hgg with h1;injection h1
  have hd:=bR (k:=i * 19) hra
  rw [Nat.zero_add,show i * 19=i * RowT.sz LkR from rfl,eC] at hd
  rw [Addr.add_mid];exact hd j v hv)
 have HFIT:=zh (show (i+1) * 19+(gcs (L.drop i)).length≤(n+1) * 19 from by
  rw [aH,List.length_drop,HLEN.out,show RowT.sz LkR=19 from rfl,← Nat.add_mul];exact Nat.mul_le_mul_right _ (by omega))
 have HONE:=zh (cD (L.drop i))
 have HFIT2:=zh (show i * 19+(RowT.enc x).length≤(n+1) * 19 from by rw [RowT.len];show i * 19+19≤_;have:=Nat.mul_le_mul_right 19 (show i+1≤n+1 by omega);omega)
 have HX:=zh (RowT.one x)
 have HXL:=zh (show (RowT.enc x).length=Nat.min 1 (n+1 - i) * 19 from by rw [RowT.len,show Nat.min 1 (n+1 - i)=1 from by show min _ _=_;omega];rfl)
 have i0:(0:Int)≤(i:Int):=by omega
 have i1:(i:Int)≤(c:Int):=by omega
 have i2:(i:Int)≤(n:Int):=by omega
 have i3:¬ (i:Int)=(n:Int):=by omega
 have i4:¬ c=i:=by omega
 have i5:¬ (c:Int) < (n:Int)+1:=by omega
 have i6:(n:Int)+1≤(c:Int):=by omega
 have e1:IntKind.i64.wrap ((i:Int)+1)=(i:Int)+1:=IntWalk.i64_in _ (by omega)
 have e2:(0:Int)≤(i:Int)+1:=by omega
 have e3:((i:Int)+1).toNat=i+1:=by omega
 have e4:(i:Int)+1≤(n:Int)+1:=by omega
 have e5:(i:Int)≤(n:Int)+1:=by omega
 have e6:¬ c=i+1:=by omega
 have HI:=zh hi
 clear h hb hne hcur hcsz hmore hjs
 go_enter Tryz.func153,Tryz.ntmps153
 go_wp2_with fail
 clear hov
 refine wp_region_held_drew (S:=fun W=>True) (by kernel_rfl) (trivial) (fun aA=>?_)
 refine zzr [0,1,2,3,4,5,6,7] ?_
 refine za 8 (fun K hK=>?_)
 (refine kQ lkE rfl (.tmp 73) (.tmp 76) rfl base g ((i+1) * 19) (n+1) c (gcs L ++ js) HO.out ⟨g,i * 19,none⟩ (n - i) (c - (i+1)) (n+1 - i) (c - i) (by rfl) (by rfl) (gcs (L.drop i)) HDL.out HSRC.out HFIT.out HONE.out ?_;intro w2 hO2 hg2)
 refine hK.out _ _ (trivial) (fun aA=>?_)
 clear hK K
 try simp only [aS]
 refine wpAnyH_done (by kernel_rfl) ?_ _
 have HO2:=zh hO2
 have HV2:=zh (show w2.rangeAt vb 0 (RowT.enc x) from by
  have:=aD (HV.out.drew.grown hg2 (fun e=>HNE.out (by injection e)))
  rwa [lkP.toL] at this)
 have HS2:=zh (show ∀ j v,(RowT.enc x)[j]?=some v→w2.cell? ((⟨vb,0,none⟩:Addr).add j)=some v from fun j v hv=>by rw [Addr.add_mid];exact HV2.out j v hv)
 have HG2:=zh (show w.grownBy w2 (some g) from Grown.trans (Ext.grown ((Ext.refl w).drew') _) hg2)
 clear hO2 hg2
 go_wp2_with ((with_reducible refine gV lkE rfl (.tmp 80) (.tmp 81) rfl base g (i * 19) (n+1) c _ HO2.out ⟨vb,0,none⟩ (n+1 - i) (c - i) 1 1 rfl rfl (RowT.enc x) HXL.out HS2.out HFIT2.out HX.out ?_;intro w3 hO3 hg3))
 have HE:=zh (show w3.ownsRow base 94 19 (.slice (some ⟨g,0,none⟩) (n+1) c) (n+1) (gcs (L.take i ++ x :: L.drop i)) from by
  have h1:=rC L x (i:=i) (by rw [HLEN.out];exact Nat.le_of_lt HI.out) js HJ.out
  rw [← h1];exact hO3)
 have HG3:=zh (show w.grownBy w3 (some g) from Grown.trans HG2.out hg3)
 clear hO3 hg3
 go_ret
 exact ⟨some ⟨g,0,none⟩,c,rfl,HE.out,HG3.out⟩
theorem aBP (base g n c:Nat) (L:List UInt64) (x:UInt64) (i vb:Nat) (w:World) (h:w.ownsRow base 30 8 (.slice (some ⟨g,0,none⟩) n c) n (gcs L)) (hb:Blk w vb 30 (nmc x)) (hne:vb ≠ g) (hbase:base≤w.heap.size) (hn:n≤1000000000) (hi:i < n) (hroom:n+1≤c) :
  Calls Tryz.prog 106 #[.slice (some ⟨g,0,none⟩) n c,.int .i64 (i:Int),.slice (some ⟨vb,0,none⟩) 1 1] w (gO w base 30 8 (some ⟨g,0,none⟩) n c (n+1) (gcs (L.take i ++ x :: L.drop i))):=by
 obtain ⟨hle,hcap⟩:=dN h
 have HLEN:=zh (show L.length=n from OwnG.len (e:=30) h)
 obtain ⟨js,hjs,hmore⟩:=uG h (m:=n+1) (by omega) hroom
 have HO:=zh hmore.drew
 have HJ:=zh (show js.length=RowT.sz UInt64 from by rw [hjs,show n+1 - n=1 by omega];exact Nat.one_mul _)
 have HV:=zh hb
 have HNE:=zh hne
 obtain ⟨cur,hcur,hcsz⟩:=aAa h
 have hov:=fun (o2 lb cb:Nat)=>zC (tR:=4) dC Tryz.func162 (by kernel_rfl) (by kernel_rfl) (by kernel_rfl) (by kernel_rfl) hb hcur hne (by rw [hcsz];omega) 0 o2 1 1 lb cb
 have HDL:=zh (show (gcs (L.drop i)).length=Nat.min (n+1 - i) (n - i) * 8 from by rw [aH,List.length_drop,HLEN.out,show Nat.min (n+1 - i) (n - i)=n - i from by show min _ _=_;omega];rfl)
 have HSRC:=zh (show ∀ j v,(gcs (L.drop i))[j]?=some v→w.drew.cell? ((⟨g,i * 8,none⟩:Addr).add j)=some v from fun j v hv=>by
  obtain ⟨g',hgg,_,hra⟩:=cF h (by omega)
  obtain rfl:g=g':=by injection hgg with h1;injection h1
  have hd:=bR (k:=i * 8) hra
  rw [Nat.zero_add,show i * 8=i * RowT.sz UInt64 from rfl,eC] at hd
  rw [Addr.add_mid];exact hd j v hv)
 have HFIT:=zh (show (i+1) * 8+(gcs (L.drop i)).length≤(n+1) * 8 from by
  rw [aH,List.length_drop,HLEN.out,show RowT.sz UInt64=8 from rfl,← Nat.add_mul];exact Nat.mul_le_mul_right _ (by omega))
 have HONE:=zh (cD (L.drop i))
 have HFIT2:=zh (show i * 8+(RowT.enc x).length≤(n+1) * 8 from by rw [RowT.len];show i * 8+8≤_;have:=Nat.mul_le_mul_right 8 (show i+1≤n+1 by omega);omega)
 have HX:=zh (RowT.one x)
 have HXL:=zh (show (RowT.enc x).length=Nat.min 1 (n+1 - i) * 8 from by rw [RowT.len,show Nat.min 1 (n+1 - i)=1 from by show min _ _=_;omega];rfl)
 have i0:(0:Int)≤(i:Int):=by omega
 have i1:(i:Int)≤(c:Int):=by omega
 have i2:(i:Int)≤(n:Int):=by omega
 have i3:¬ (i:Int)=(n:Int):=by omega
 have i4:¬ c=i:=by omega
 have i5:¬ (c:Int) < (n:Int)+1:=by omega
 have i6:(n:Int)+1≤(c:Int):=by omega
 have e1:IntKind.i64.wrap ((i:Int)+1)=(i:Int)+1:=IntWalk.i64_in _ (by omega)
 have e2:(0:Int)≤(i:Int)+1:=by omega
 have e3:((i:Int)+1).toNat=i+1:=by omega
 have e4:(i:Int)+1≤(n:Int)+1:=by omega
 have e5:(i:Int)≤(n:Int)+1:=by omega
 have e6:¬ c=i+1:=by omega
 have HI:=zh hi
 clear h hb hne hcur hcsz hmore hjs
 go_enter Tryz.func106,Tryz.ntmps106
 go_wp2_with fail
 clear hov
 refine wp_region_held_drew (S:=fun W=>True) (by kernel_rfl) (trivial) (fun aA=>?_)
 refine zzr [0,1,2,3,4,5,6,7] ?_
 refine za 8 (fun K hK=>?_)
 (refine kQ dC rfl (.tmp 73) (.tmp 76) rfl base g ((i+1) * 8) (n+1) c (gcs L ++ js) HO.out ⟨g,i * 8,none⟩ (n - i) (c - (i+1)) (n+1 - i) (c - i) (by rfl) (by rfl) (gcs (L.drop i)) HDL.out HSRC.out HFIT.out HONE.out ?_;intro w2 hO2 hg2)
 refine hK.out _ _ (trivial) (fun aA=>?_)
 clear hK K
 try simp only [aS]
 refine wpAnyH_done (by kernel_rfl) ?_ _
 have HO2:=zh hO2
 have HV2:=zh (show w2.rangeAt vb 0 (RowT.enc x) from by
  have:=aD (HV.out.drew.grown hg2 (fun e=>HNE.out (by injection e)))
  rwa [nmP.toL] at this)
 have HS2:=zh (show ∀ j v,(RowT.enc x)[j]?=some v→w2.cell? ((⟨vb,0,none⟩:Addr).add j)=some v from fun j v hv=>by rw [Addr.add_mid];exact HV2.out j v hv)
 have HG2:=zh (show w.grownBy w2 (some g) from Grown.trans (Ext.grown ((Ext.refl w).drew') _) hg2)
 clear hO2 hg2
 go_wp2_with ((with_reducible refine gV dC rfl (.tmp 80) (.tmp 81) rfl base g (i * 8) (n+1) c _ HO2.out ⟨vb,0,none⟩ (n+1 - i) (c - i) 1 1 rfl rfl (RowT.enc x) HXL.out HS2.out HFIT2.out HX.out ?_;intro w3 hO3 hg3))
 have HE:=zh (show w3.ownsRow base 30 8 (.slice (some ⟨g,0,none⟩) (n+1) c) (n+1) (gcs (L.take i ++ x :: L.drop i)) from by
  have h1:=rC L x (i:=i) (by rw [HLEN.out];exact Nat.le_of_lt HI.out) js HJ.out
  rw [← h1];exact hO3)
 have HG3:=zh (show w.grownBy w3 (some g) from Grown.trans HG2.out hg3)
 clear hO3 hg3
 go_ret
 exact ⟨some ⟨g,0,none⟩,c,rfl,HE.out,HG3.out⟩
theorem aDv (base g n c:Nat) (L:List DeR) (x:DeR) (i vb:Nat) (w:World) (h:w.ownsRow base 34 11 (.slice (some ⟨g,0,none⟩) n c) n (gcs L)) (hb:Blk w vb 34 (deA x)) (hbase:base≤w.heap.size) (hn:n≤1000000000) (hi:i < n) (hroom:c < n+1) :
  Calls Tryz.prog 103 #[.slice (some ⟨g,0,none⟩) n c,.int .i64 (i:Int),.slice (some ⟨vb,0,none⟩) 1 1] w (gO w base 34 11 (some ⟨g,0,none⟩) n c (n+1) (gcs (L.take i ++ x :: L.drop i))):=by
 obtain ⟨hle,hcap⟩:=dN h
 obtain rfl:c=n:=by omega
 have HLEN:=zh (show L.length=c from OwnG.len (e:=34) h)
 have hgs:=(World.ownsRow.lt h g rfl).2
 obtain ⟨ti,hti,htz,htsz,htby⟩:=Elem.get deE
 have hsrc0:∀ k v,(gcs L)[k]?=some v→w.cell? ⟨g,k,none⟩=some v:=fun k v hv=>by
  obtain ⟨g',hgg,_,hra⟩:=cF h (by omega)
  obtain rfl:g=g':=by injection hgg with h1;injection h1
  have:=hra k v hv;rwa [Nat.zero_add] at this
 have hold:(Builtin.firstCells ti.size i (.slice (some ⟨g,0,none⟩) i c)).run Tryz.prog w.drew=.ok (gcs (L.take i)).toArray w.drew:=by
  rw [htsz]
  exact run_firstCells_some w.drew 11 i ⟨g,0,none⟩ i c (gcs (L.take i)) (by rw [aH,List.length_take,HLEN.out,Nat.min_eq_left (by omega)];rfl) (fun j v hj=>by
   rw [Addr.add_mid,Nat.zero_add]
   refine hsrc0 j v ?_
   rw [← iT,List.getElem?_take] at hj
   split at hj
   ·exact hj
   cases hj)
 have hrz:=fun ty=>Lib.run_append_grow_zeros w 27 3 ty 34 ti _ .i64 .i64 (Elem.ut deE) Tryz.underlying3 hti htz (some ⟨g,0,none⟩) i c (gcs (L.take i)) hold (c+1 - i) (by omega) (by rw [htsz];omega) (by omega) (by omega) (by rw [htby];omega) (growslice_fits (by omega) (by rw [htby];omega))
 have hgc:=grownCap_ge w (i+(c+1 - i)) c 34
 have hgm:=grownCap_le_maxLen w (i+(c+1 - i)) c 34 (by simp only [maxLen];omega)
 rw [show i+(c+1 - i)=c+1 by omega] at hrz hgc hgm
 obtain ⟨G,hG⟩:∃ G,grownCap w (c+1) c 34=G:=⟨_,rfl⟩
 rw [hG] at hrz hgc hgm
 obtain ⟨js,hjs⟩:∃ js:List Value,(Builtin.zeroCells (Value.agg de0).cells (c+1 - i)).toList=js:=⟨_,rfl⟩
 obtain ⟨W1,hW1⟩:∃ W1,w.drew.alloc (.cells ((gcs (L.take i)).toArray ++ Builtin.zeroCells (Value.agg de0).cells (c+1 - i) ++ Builtin.zeroCells (Value.agg de0).cells (G - (c+1))) 34)=W1:=⟨_,rfl⟩
 rw [hW1] at hrz
 have HJL:=zh (show js.length=(L.length+1 - i) * RowT.sz DeR from by rw [← hjs,HLEN.out,Array.length_toList,size_zeroCells];rfl)
 have htl:(gcs (L.take i)).length=i * 11:=by rw [aH,List.length_take,HLEN.out,Nat.min_eq_left (by omega)];rfl
 have hle3:i * 11+(c+1 - i) * 11=(c+1) * 11:=by rw [← Nat.add_mul];congr 1;omega
 have hle4:(c+1) * 11+(G - (c+1)) * 11=G * 11:=by rw [← Nat.add_mul];congr 1;omega
 have hzs:∀ k,(Builtin.zeroCells (Value.agg de0).cells k).size=k * 11:=fun k=>by rw [size_zeroCells];rfl
 have HO1:=zh (show W1.ownsRow base 34 11 (.slice (some ⟨w.heap.size,0,none⟩) (c+1) G) (c+1) (gcs (L.take i) ++ js) from by
  rw [← hW1]
  refine qZ hbase (Blk.new w.drew 34 _) hgc hgm (by simp only [Array.size_append,hzs,List.size_toArray,htl];omega) (by rw [List.length_append,htl,HJL.out,HLEN.out];exact hle3) ?_
  rw [Array.toList_append,Array.toList_append,List.take_append_of_le_length (by simp only [List.length_append,Array.length_toList,List.toList_toArray,hzs,List.size_toArray,htl];omega),List.take_of_length_le (by simp only [List.length_append,Array.length_toList,List.toList_toArray,hzs,List.size_toArray,htl];omega),hjs])
 have HX1:=zh (show Ext w W1 from by rw [← hW1];exact ((Ext.refl w).drew').alloc' _)
 have HV:=zh (show W1.rangeAt vb 0 (RowT.enc x) from by have:=aD (hb.ext HX1.out);rwa [deP.toL] at this)
 have HVB:=zh hb.lt
 have HS1:=zh (show ∀ j v,(RowT.enc x)[j]?=some v→W1.cell? ((⟨vb,0,none⟩:Addr).add j)=some v from fun j v hv=>by rw [Addr.add_mid];exact HV.out j v hv)
 have HFIT2:=zh (show i * 11+(RowT.enc x).length≤(c+1) * 11 from by rw [RowT.len];show i * 11+11≤_;have:=Nat.mul_le_mul_right 11 (show i+1≤c+1 by omega);omega)
 have HX:=zh (RowT.one x)
 have HXL:=zh (show (RowT.enc x).length=Nat.min 1 (c+1 - i) * 11 from by rw [RowT.len,show Nat.min 1 (c+1 - i)=1 from by show min _ _=_;omega];rfl)
 have HDL:=zh (show (gcs (L.drop i)).length=Nat.min (c - i) (c - i) * 11 from by rw [aH,List.length_drop,HLEN.out,show Nat.min (c - i) (c - i)=c - i from by show min _ _=_;omega];rfl)
 have HFIT:=zh (show (i+1) * 11+(gcs (L.drop i)).length≤(c+1) * 11 from by
  rw [aH,List.length_drop,HLEN.out,show RowT.sz DeR=11 from rfl,← Nat.add_mul];exact Nat.mul_le_mul_right _ (by omega))
 have HONE:=zh (cD (L.drop i))
 have HSR0:=zh (show ∀ (W:World),W.heap[g]?=w.heap[g]?→∀ j v,(gcs (L.drop i))[j]?=some v→W.cell? ((⟨g,i * 11,none⟩:Addr).add j)=some v from fun W hW j v hv=>by
  rw [Addr.add_mid,World.cell?_of_block (a:=⟨g,i * 11+j,none⟩) hW]
  refine hsrc0 _ v ?_
  rw [← eC,List.getElem?_drop] at hv
  exact hv)
 have HIC:=zh (oO L x (i:=i) (by rw [HLEN.out];omega) js HJL.out)
 have HGS:=zh hgs
 have HHG:=zh (HX1.out.block g hgs)
 have i0:(0:Int)≤(i:Int):=by omega
 have i1:(i:Int)≤(c:Int):=by omega
 have i3:¬ (i:Int)=(c:Int):=by omega
 have i4:¬ c=i:=by omega
 have i6:¬ (c:Int)+1≤(c:Int):=by omega
 have e1:IntKind.i64.wrap ((i:Int)+1)=(i:Int)+1:=IntWalk.i64_in _ (by omega)
 have e2:(0:Int)≤(i:Int)+1:=by omega
 have e3:((i:Int)+1).toNat=i+1:=by omega
 have e4:(i:Int)+1≤(c:Int)+1:=by omega
 have e5:(i:Int)≤(c:Int)+1:=by omega
 have e7:(c:Int)+1 - (i:Int)=((c+1 - i:Nat):Int):=by omega
 have e8:¬ G=i:=by omega
 have e9:¬ G=i+1:=by omega
 have e10:(i:Int)+1≤(G:Int):=by omega
 have e11:(i:Int)≤(G:Int):=by omega
 have HI:=zh hi
 clear h hb hsrc0 hold hjs hW1 htl hle3 hle4 hzs hti htz htsz htby hgm
 go_enter Tryz.func103,Tryz.ntmps103
 go_upto_region 10 with (at_builtin;refine Lib.wpList_append_run _ rfl _ _ _ _ rfl _ _ rfl rfl _ _ (hrz _) ?_)
 go_upto_region 11 with ((with_reducible refine gV deE rfl (.tmp 43) (.tmp 44) rfl base w.heap.size (i * 11) (c+1) G _ HO1.out ⟨vb,0,none⟩ (c+1 - i) (G - i) 1 1 rfl rfl (RowT.enc x) HXL.out HS1.out HFIT2.out HX.out ?_);intro w2 hO2 hg2)
 have HO2:=zh hO2.drew
 have HHG2:=zh (show w2.heap[g]?=w.heap[g]? from (hg2.block g (Nat.lt_of_lt_of_le HGS.out HX1.out.size) (fun e=>by injection e with e;have:=HGS.out;omega)).trans HHG.out)
 have HSRC:=zh (HSR0.out w2.drew HHG2.out)
 have HG2:=zh (show w.grownBy w2.drew (some g) from jF (Ext.grown HX1.out _) (Nat.le_refl _) (Grown.trans hg2 (Ext.grown ((Ext.refl w2).drew') _)))
 clear hO2 hg2
 refine wp_region_held_drew (S:=fun W=>True) (by kernel_rfl) (trivial) (fun aA=>?_)
 refine zzr [0,1,2,3,4,5,6,7] ?_
 refine za 8 (fun K hK=>?_)
 (refine kQ deE rfl (.tmp 50) (.tmp 53) rfl base w.heap.size ((i+1) * 11) (c+1) G _ HO2.out ⟨g,i * 11,none⟩ (c - i) (G - (i+1)) (c - i) (c - i) (by rfl) (by rfl) (gcs (L.drop i)) HDL.out HSRC.out HFIT.out HONE.out ?_;intro w3 hO3 hg3)
 refine hK.out _ _ (trivial) (fun aA=>?_)
 clear hK K
 try simp only [aS]
 refine wpAnyH_done (by kernel_rfl) ?_ _
 have HE:=zh (show w3.ownsRow base 34 11 (.slice (some ⟨w.heap.size,0,none⟩) (c+1) G) (c+1) (gcs (L.take i ++ x :: L.drop i)) from by
  have h1:=HIC.out
  rw [← h1];exact hO3)
 have HG3:=zh (show w.grownBy w3 (some g) from jF HG2.out (Nat.le_refl _) hg3)
 clear hO3 hg3
 go_wp2_with fail
 go_ret
 exact ⟨some ⟨w.heap.size,0,none⟩,G,rfl,HE.out,HG3.out⟩
theorem aFD (base:Nat) (A:Option Addr) (n c:Nat) (L:List DeR) (x:DeR) (i vb:Nat) (w:World) (h:w.ownsRow base 34 11 (.slice A n c) n (gcs L)) (hb:Blk w vb 34 (deA x)) (hne:Value.ownBlock (.slice A n c) ≠ some vb) (hbase:base≤w.heap.size) (hn:n≤1000000000) (hi:i≤n) :
  Calls Tryz.prog 103 #[.slice A n c,.int .i64 (i:Int),.slice (some ⟨vb,0,none⟩) 1 1] w (gO w base 34 11 A n c (n+1) (gcs (L.take i ++ x :: L.drop i))):=by
 have hl:L.length=n:=OwnG.len (e:=34) h
 by_cases he:i=n
 ·subst he
  have:=aFC base A i c L x vb w h hb hbase hn
  rw [← hl,List.take_length,List.drop_length]
  rw [← hl] at this
  exact this
 obtain ⟨g,rfl,-,-⟩:=cF h (by omega)
 by_cases hr:n+1≤c
 ·exact aBR base g n c L x i vb w h hb (fun e=>hne (by rw [e];rfl)) hbase hn (by omega) hr
 exact aDv base g n c L x i vb w h hb hbase hn (by omega) (by omega)
theorem aDu (base g n c:Nat) (L:List LkR) (x:LkR) (i vb:Nat) (w:World) (h:w.ownsRow base 94 19 (.slice (some ⟨g,0,none⟩) n c) n (gcs L)) (hb:Blk w vb 94 (lkA x)) (hbase:base≤w.heap.size) (hn:n≤1000000000) (hi:i < n) (hroom:c < n+1) :
  Calls Tryz.prog 153 #[.slice (some ⟨g,0,none⟩) n c,.int .i64 (i:Int),.slice (some ⟨vb,0,none⟩) 1 1] w (gO w base 94 19 (some ⟨g,0,none⟩) n c (n+1) (gcs (L.take i ++ x :: L.drop i))):=by
 obtain ⟨hle,hcap⟩:=dN h
 obtain rfl:c=n:=by omega
 have HLEN:=zh (show L.length=c from OwnG.len (e:=94) h)
 have hgs:=(World.ownsRow.lt h g rfl).2
 obtain ⟨ti,hti,htz,htsz,htby⟩:=Elem.get lkE
 have hsrc0:∀ k v,(gcs L)[k]?=some v→w.cell? ⟨g,k,none⟩=some v:=fun k v hv=>by
  obtain ⟨g',hgg,_,hra⟩:=cF h (by omega)
  obtain rfl:g=g':=by injection hgg with h1;injection h1
  have:=hra k v hv;rwa [Nat.zero_add] at this
 have hold:(Builtin.firstCells ti.size i (.slice (some ⟨g,0,none⟩) i c)).run Tryz.prog w.drew=.ok (gcs (L.take i)).toArray w.drew:=by
  rw [htsz]
  exact run_firstCells_some w.drew 19 i ⟨g,0,none⟩ i c (gcs (L.take i)) (by rw [aH,List.length_take,HLEN.out,Nat.min_eq_left (by omega)];rfl) (fun j v hj=>by
   rw [Addr.add_mid,Nat.zero_add]
   refine hsrc0 j v ?_
   rw [← iT,List.getElem?_take] at hj
   split at hj
   ·exact hj
   cases hj)
 have hrz:=fun ty=>Lib.run_append_grow_zeros w 41 3 ty 94 ti _ .i64 .i64 (Elem.ut lkE) Tryz.underlying3 hti htz (some ⟨g,0,none⟩) i c (gcs (L.take i)) hold (c+1 - i) (by omega) (by rw [htsz];omega) (by omega) (by omega) (by rw [htby];omega) (growslice_fits (by omega) (by rw [htby];omega))
 have hgc:=grownCap_ge w (i+(c+1 - i)) c 94
 have hgm:=grownCap_le_maxLen w (i+(c+1 - i)) c 94 (by simp only [maxLen];omega)
 rw [show i+(c+1 - i)=c+1 by omega] at hrz hgc hgm
 obtain ⟨G,hG⟩:∃ G,grownCap w (c+1) c 94=G:=⟨_,rfl⟩
 rw [hG] at hrz hgc hgm
 obtain ⟨js,hjs⟩:∃ js:List Value,(Builtin.zeroCells (Value.agg lk0).cells (c+1 - i)).toList=js:=⟨_,rfl⟩
 obtain ⟨W1,hW1⟩:∃ W1,w.drew.alloc (.cells ((gcs (L.take i)).toArray ++ Builtin.zeroCells (Value.agg lk0).cells (c+1 - i) ++ Builtin.zeroCells (Value.agg lk0).cells (G - (c+1))) 94)=W1:=⟨_,rfl⟩
 rw [hW1] at hrz
 have HJL:=zh (show js.length=(L.length+1 - i) * RowT.sz LkR from by rw [← hjs,HLEN.out,Array.length_toList,size_zeroCells];rfl)
 have htl:(gcs (L.take i)).length=i * 19:=by rw [aH,List.length_take,HLEN.out,Nat.min_eq_left (by omega)];rfl
 have hle3:i * 19+(c+1 - i) * 19=(c+1) * 19:=by rw [← Nat.add_mul];congr 1;omega
 have hle4:(c+1) * 19+(G - (c+1)) * 19=G * 19:=by rw [← Nat.add_mul];congr 1;omega
 have hzs:∀ k,(Builtin.zeroCells (Value.agg lk0).cells k).size=k * 19:=fun k=>by rw [size_zeroCells];rfl
 have HO1:=zh (show W1.ownsRow base 94 19 (.slice (some ⟨w.heap.size,0,none⟩) (c+1) G) (c+1) (gcs (L.take i) ++ js) from by
  rw [← hW1]
  refine qZ hbase (Blk.new w.drew 94 _) hgc hgm (by simp only [Array.size_append,hzs,List.size_toArray,htl];omega) (by rw [List.length_append,htl,HJL.out,HLEN.out];exact hle3) ?_
  rw [Array.toList_append,Array.toList_append,List.take_append_of_le_length (by simp only [List.length_append,Array.length_toList,List.toList_toArray,hzs,List.size_toArray,htl];omega),List.take_of_length_le (by simp only [List.length_append,Array.length_toList,List.toList_toArray,hzs,List.size_toArray,htl];omega),hjs])
 have HX1:=zh (show Ext w W1 from by rw [← hW1];exact ((Ext.refl w).drew').alloc' _)
 have HV:=zh (show W1.rangeAt vb 0 (RowT.enc x) from by have:=aD (hb.ext HX1.out);rwa [lkP.toL] at this)
 have HVB:=zh hb.lt
 have HS1:=zh (show ∀ j v,(RowT.enc x)[j]?=some v→W1.cell? ((⟨vb,0,none⟩:Addr).add j)=some v from fun j v hv=>by rw [Addr.add_mid];exact HV.out j v hv)
 have HFIT2:=zh (show i * 19+(RowT.enc x).length≤(c+1) * 19 from by rw [RowT.len];show i * 19+19≤_;have:=Nat.mul_le_mul_right 19 (show i+1≤c+1 by omega);omega)
 have HX:=zh (RowT.one x)
 have HXL:=zh (show (RowT.enc x).length=Nat.min 1 (c+1 - i) * 19 from by rw [RowT.len,show Nat.min 1 (c+1 - i)=1 from by show min _ _=_;omega];rfl)
 have HDL:=zh (show (gcs (L.drop i)).length=Nat.min (c - i) (c - i) * 19 from by rw [aH,List.length_drop,HLEN.out,show Nat.min (c - i) (c - i)=c - i from by show min _ _=_;omega];rfl)
 have HFIT:=zh (show (i+1) * 19+(gcs (L.drop i)).length≤(c+1) * 19 from by
  rw [aH,List.length_drop,HLEN.out,show RowT.sz LkR=19 from rfl,← Nat.add_mul];exact Nat.mul_le_mul_right _ (by omega))
 have HONE:=zh (cD (L.drop i))
 have HSR0:=zh (show ∀ (W:World),W.heap[g]?=w.heap[g]?→∀ j v,(gcs (L.drop i))[j]?=some v→W.cell? ((⟨g,i * 19,none⟩:Addr).add j)=some v from fun W hW j v hv=>by
  rw [Addr.add_mid,World.cell?_of_block (a:=⟨g,i * 19+j,none⟩) hW]
  refine hsrc0 _ v ?_
  rw [← eC,List.getElem?_drop] at hv
  exact hv)
 have HIC:=zh (oO L x (i:=i) (by rw [HLEN.out];omega) js HJL.out)
 have HGS:=zh hgs
 have HHG:=zh (HX1.out.block g hgs)
 have i0:(0:Int)≤(i:Int):=by omega
 have i1:(i:Int)≤(c:Int):=by omega
 have i3:¬ (i:Int)=(c:Int):=by omega
 have i4:¬ c=i:=by omega
 have i6:¬ (c:Int)+1≤(c:Int):=by omega
 have e1:IntKind.i64.wrap ((i:Int)+1)=(i:Int)+1:=IntWalk.i64_in _ (by omega)
 have e2:(0:Int)≤(i:Int)+1:=by omega
 have e3:((i:Int)+1).toNat=i+1:=by omega
 have e4:(i:Int)+1≤(c:Int)+1:=by omega
 have e5:(i:Int)≤(c:Int)+1:=by omega
 have e7:(c:Int)+1 - (i:Int)=((c+1 - i:Nat):Int):=by omega
 have e8:¬ G=i:=by omega
 have e9:¬ G=i+1:=by omega
 have e10:(i:Int)+1≤(G:Int):=by omega
 have e11:(i:Int)≤(G:Int):=by omega
 have HI:=zh hi
 clear h hb hsrc0 hold hjs hW1 htl hle3 hle4 hzs hti htz htsz htby hgm
 go_enter Tryz.func153,Tryz.ntmps153
 go_upto_region 10 with (at_builtin;refine Lib.wpList_append_run _ rfl _ _ _ _ rfl _ _ rfl rfl _ _ (hrz _) ?_)
 go_upto_region 11 with ((with_reducible refine gV lkE rfl (.tmp 43) (.tmp 44) rfl base w.heap.size (i * 19) (c+1) G _ HO1.out ⟨vb,0,none⟩ (c+1 - i) (G - i) 1 1 rfl rfl (RowT.enc x) HXL.out HS1.out HFIT2.out HX.out ?_);intro w2 hO2 hg2)
 have HO2:=zh hO2.drew
 have HHG2:=zh (show w2.heap[g]?=w.heap[g]? from (hg2.block g (Nat.lt_of_lt_of_le HGS.out HX1.out.size) (fun e=>by injection e with e;have:=HGS.out;omega)).trans HHG.out)
 have HSRC:=zh (HSR0.out w2.drew HHG2.out)
 have HG2:=zh (show w.grownBy w2.drew (some g) from jF (Ext.grown HX1.out _) (Nat.le_refl _) (Grown.trans hg2 (Ext.grown ((Ext.refl w2).drew') _)))
 clear hO2 hg2
 refine wp_region_held_drew (S:=fun W=>True) (by kernel_rfl) (trivial) (fun aA=>?_)
 refine zzr [0,1,2,3,4,5,6,7] ?_
 refine za 8 (fun K hK=>?_)
 (refine kQ lkE rfl (.tmp 50) (.tmp 53) rfl base w.heap.size ((i+1) * 19) (c+1) G _ HO2.out ⟨g,i * 19,none⟩ (c - i) (G - (i+1)) (c - i) (c - i) (by rfl) (by rfl) (gcs (L.drop i)) HDL.out HSRC.out HFIT.out HONE.out ?_;intro w3 hO3 hg3)
 refine hK.out _ _ (trivial) (fun aA=>?_)
 clear hK K
 try simp only [aS]
 refine wpAnyH_done (by kernel_rfl) ?_ _
 have HE:=zh (show w3.ownsRow base 94 19 (.slice (some ⟨w.heap.size,0,none⟩) (c+1) G) (c+1) (gcs (L.take i ++ x :: L.drop i)) from by
  have h1:=HIC.out
  rw [← h1];exact hO3)
 have HG3:=zh (show w.grownBy w3 (some g) from jF HG2.out (Nat.le_refl _) hg3)
 clear hO3 hg3
 go_wp2_with fail
 go_ret
 exact ⟨some ⟨w.heap.size,0,none⟩,G,rfl,HE.out,HG3.out⟩
theorem aFB (base:Nat) (A:Option Addr) (n c:Nat) (L:List LkR) (x:LkR) (i vb:Nat) (w:World) (h:w.ownsRow base 94 19 (.slice A n c) n (gcs L)) (hb:Blk w vb 94 (lkA x)) (hne:Value.ownBlock (.slice A n c) ≠ some vb) (hbase:base≤w.heap.size) (hn:n≤1000000000) (hi:i≤n) :
  Calls Tryz.prog 153 #[.slice A n c,.int .i64 (i:Int),.slice (some ⟨vb,0,none⟩) 1 1] w (gO w base 94 19 A n c (n+1) (gcs (L.take i ++ x :: L.drop i))):=by
 have hl:L.length=n:=OwnG.len (e:=94) h
 by_cases he:i=n
 ·subst he
  have:=aFA base A i c L x vb w h hb hbase hn
  rw [← hl,List.take_length,List.drop_length]
  rw [← hl] at this
  exact this
 obtain ⟨g,rfl,-,-⟩:=cF h (by omega)
 by_cases hr:n+1≤c
 ·exact aBQ base g n c L x i vb w h hb (fun e=>hne (by rw [e];rfl)) hbase hn (by omega) hr
 exact aDu base g n c L x i vb w h hb hbase hn (by omega) (by omega)
theorem aDt (base g n c:Nat) (L:List UInt64) (x:UInt64) (i vb:Nat) (w:World) (h:w.ownsRow base 30 8 (.slice (some ⟨g,0,none⟩) n c) n (gcs L)) (hb:Blk w vb 30 (nmc x)) (hbase:base≤w.heap.size) (hn:n≤1000000000) (hi:i < n) (hroom:c < n+1) :
  Calls Tryz.prog 106 #[.slice (some ⟨g,0,none⟩) n c,.int .i64 (i:Int),.slice (some ⟨vb,0,none⟩) 1 1] w (gO w base 30 8 (some ⟨g,0,none⟩) n c (n+1) (gcs (L.take i ++ x :: L.drop i))):=by
 obtain ⟨hle,hcap⟩:=dN h
 obtain rfl:c=n:=by omega
 have HLEN:=zh (show L.length=c from OwnG.len (e:=30) h)
 have hgs:=(World.ownsRow.lt h g rfl).2
 obtain ⟨ti,hti,htz,htsz,htby⟩:=Elem.get dC
 have hsrc0:∀ k v,(gcs L)[k]?=some v→w.cell? ⟨g,k,none⟩=some v:=fun k v hv=>by
  obtain ⟨g',hgg,_,hra⟩:=cF h (by omega)
  obtain rfl:g=g':=by injection hgg with h1;injection h1
  have:=hra k v hv;rwa [Nat.zero_add] at this
 have hold:(Builtin.firstCells ti.size i (.slice (some ⟨g,0,none⟩) i c)).run Tryz.prog w.drew=.ok (gcs (L.take i)).toArray w.drew:=by
  rw [htsz]
  exact run_firstCells_some w.drew 8 i ⟨g,0,none⟩ i c (gcs (L.take i)) (by rw [aH,List.length_take,HLEN.out,Nat.min_eq_left (by omega)];rfl) (fun j v hj=>by
   rw [Addr.add_mid,Nat.zero_add]
   refine hsrc0 j v ?_
   rw [← iT,List.getElem?_take] at hj
   split at hj
   ·exact hj
   cases hj)
 have hrz:=fun ty=>Lib.run_append_grow_zeros w 37 3 ty 30 ti _ .i64 .i64 (Elem.ut dC) Tryz.underlying3 hti htz (some ⟨g,0,none⟩) i c (gcs (L.take i)) hold (c+1 - i) (by omega) (by rw [htsz];omega) (by omega) (by omega) (by rw [htby];omega) (growslice_fits (by omega) (by rw [htby];omega))
 have hgc:=grownCap_ge w (i+(c+1 - i)) c 30
 have hgm:=grownCap_le_maxLen w (i+(c+1 - i)) c 30 (by simp only [maxLen];omega)
 rw [show i+(c+1 - i)=c+1 by omega] at hrz hgc hgm
 obtain ⟨G,hG⟩:∃ G,grownCap w (c+1) c 30=G:=⟨_,rfl⟩
 rw [hG] at hrz hgc hgm
 obtain ⟨js,hjs⟩:∃ js:List Value,(Builtin.zeroCells (Value.agg zcs.toArray).cells (c+1 - i)).toList=js:=⟨_,rfl⟩
 obtain ⟨W1,hW1⟩:∃ W1,w.drew.alloc (.cells ((gcs (L.take i)).toArray ++ Builtin.zeroCells (Value.agg zcs.toArray).cells (c+1 - i) ++ Builtin.zeroCells (Value.agg zcs.toArray).cells (G - (c+1))) 30)=W1:=⟨_,rfl⟩
 rw [hW1] at hrz
 have HJL:=zh (show js.length=(L.length+1 - i) * RowT.sz UInt64 from by rw [← hjs,HLEN.out,Array.length_toList,size_zeroCells];rfl)
 have htl:(gcs (L.take i)).length=i * 8:=by rw [aH,List.length_take,HLEN.out,Nat.min_eq_left (by omega)];rfl
 have hle3:i * 8+(c+1 - i) * 8=(c+1) * 8:=by rw [← Nat.add_mul];congr 1;omega
 have hle4:(c+1) * 8+(G - (c+1)) * 8=G * 8:=by rw [← Nat.add_mul];congr 1;omega
 have hzs:∀ k,(Builtin.zeroCells (Value.agg zcs.toArray).cells k).size=k * 8:=fun k=>by rw [size_zeroCells];rfl
 have HO1:=zh (show W1.ownsRow base 30 8 (.slice (some ⟨w.heap.size,0,none⟩) (c+1) G) (c+1) (gcs (L.take i) ++ js) from by
  rw [← hW1]
  refine qZ hbase (Blk.new w.drew 30 _) hgc hgm (by simp only [Array.size_append,hzs,List.size_toArray,htl];omega) (by rw [List.length_append,htl,HJL.out,HLEN.out];exact hle3) ?_
  rw [Array.toList_append,Array.toList_append,List.take_append_of_le_length (by simp only [List.length_append,Array.length_toList,List.toList_toArray,hzs,List.size_toArray,htl];omega),List.take_of_length_le (by simp only [List.length_append,Array.length_toList,List.toList_toArray,hzs,List.size_toArray,htl];omega),hjs])
 have HX1:=zh (show Ext w W1 from by rw [← hW1];exact ((Ext.refl w).drew').alloc' _)
 have HV:=zh (show W1.rangeAt vb 0 (RowT.enc x) from by have:=aD (hb.ext HX1.out);rwa [nmP.toL] at this)
 have HVB:=zh hb.lt
 have HS1:=zh (show ∀ j v,(RowT.enc x)[j]?=some v→W1.cell? ((⟨vb,0,none⟩:Addr).add j)=some v from fun j v hv=>by rw [Addr.add_mid];exact HV.out j v hv)
 have HFIT2:=zh (show i * 8+(RowT.enc x).length≤(c+1) * 8 from by rw [RowT.len];show i * 8+8≤_;have:=Nat.mul_le_mul_right 8 (show i+1≤c+1 by omega);omega)
 have HX:=zh (RowT.one x)
 have HXL:=zh (show (RowT.enc x).length=Nat.min 1 (c+1 - i) * 8 from by rw [RowT.len,show Nat.min 1 (c+1 - i)=1 from by show min _ _=_;omega];rfl)
 have HDL:=zh (show (gcs (L.drop i)).length=Nat.min (c - i) (c - i) * 8 from by rw [aH,List.length_drop,HLEN.out,show Nat.min (c - i) (c - i)=c - i from by show min _ _=_;omega];rfl)
 have HFIT:=zh (show (i+1) * 8+(gcs (L.drop i)).length≤(c+1) * 8 from by
  rw [aH,List.length_drop,HLEN.out,show RowT.sz UInt64=8 from rfl,← Nat.add_mul];exact Nat.mul_le_mul_right _ (by omega))
 have HONE:=zh (cD (L.drop i))
 have HSR0:=zh (show ∀ (W:World),W.heap[g]?=w.heap[g]?→∀ j v,(gcs (L.drop i))[j]?=some v→W.cell? ((⟨g,i * 8,none⟩:Addr).add j)=some v from fun W hW j v hv=>by
  rw [Addr.add_mid,World.cell?_of_block (a:=⟨g,i * 8+j,none⟩) hW]
  refine hsrc0 _ v ?_
  rw [← eC,List.getElem?_drop] at hv
  exact hv)
 have HIC:=zh (oO L x (i:=i) (by rw [HLEN.out];omega) js HJL.out)
 have HGS:=zh hgs
 have HHG:=zh (HX1.out.block g hgs)
 have i0:(0:Int)≤(i:Int):=by omega
 have i1:(i:Int)≤(c:Int):=by omega
 have i3:¬ (i:Int)=(c:Int):=by omega
 have i4:¬ c=i:=by omega
 have i6:¬ (c:Int)+1≤(c:Int):=by omega
 have e1:IntKind.i64.wrap ((i:Int)+1)=(i:Int)+1:=IntWalk.i64_in _ (by omega)
 have e2:(0:Int)≤(i:Int)+1:=by omega
 have e3:((i:Int)+1).toNat=i+1:=by omega
 have e4:(i:Int)+1≤(c:Int)+1:=by omega
 have e5:(i:Int)≤(c:Int)+1:=by omega
 have e7:(c:Int)+1 - (i:Int)=((c+1 - i:Nat):Int):=by omega
 have e8:¬ G=i:=by omega
 have e9:¬ G=i+1:=by omega
 have e10:(i:Int)+1≤(G:Int):=by omega
 have e11:(i:Int)≤(G:Int):=by omega
 have HI:=zh hi
 clear h hb hsrc0 hold hjs hW1 htl hle3 hle4 hzs hti htz htsz htby hgm
 go_enter Tryz.func106,Tryz.ntmps106
 go_upto_region 10 with (at_builtin;refine Lib.wpList_append_run _ rfl _ _ _ _ rfl _ _ rfl rfl _ _ (hrz _) ?_)
 go_upto_region 11 with ((with_reducible refine gV dC rfl (.tmp 43) (.tmp 44) rfl base w.heap.size (i * 8) (c+1) G _ HO1.out ⟨vb,0,none⟩ (c+1 - i) (G - i) 1 1 rfl rfl (RowT.enc x) HXL.out HS1.out HFIT2.out HX.out ?_);intro w2 hO2 hg2)
 have HO2:=zh hO2.drew
 have HHG2:=zh (show w2.heap[g]?=w.heap[g]? from (hg2.block g (Nat.lt_of_lt_of_le HGS.out HX1.out.size) (fun e=>by injection e with e;have:=HGS.out;omega)).trans HHG.out)
 have HSRC:=zh (HSR0.out w2.drew HHG2.out)
 have HG2:=zh (show w.grownBy w2.drew (some g) from jF (Ext.grown HX1.out _) (Nat.le_refl _) (Grown.trans hg2 (Ext.grown ((Ext.refl w2).drew') _)))
 clear hO2 hg2
 refine wp_region_held_drew (S:=fun W=>True) (by kernel_rfl) (trivial) (fun aA=>?_)
 refine zzr [0,1,2,3,4,5,6,7] ?_
 refine za 8 (fun K hK=>?_)
 (refine kQ dC rfl (.tmp 50) (.tmp 53) rfl base w.heap.size ((i+1) * 8) (c+1) G _ HO2.out ⟨g,i * 8,none⟩ (c - i) (G - (i+1)) (c - i) (c - i) (by rfl) (by rfl) (gcs (L.drop i)) HDL.out HSRC.out HFIT.out HONE.out ?_;intro w3 hO3 hg3)
 refine hK.out _ _ (trivial) (fun aA=>?_)
 clear hK K
 try simp only [aS]
 refine wpAnyH_done (by kernel_rfl) ?_ _
 have HE:=zh (show w3.ownsRow base 30 8 (.slice (some ⟨w.heap.size,0,none⟩) (c+1) G) (c+1) (gcs (L.take i ++ x :: L.drop i)) from by
  have h1:=HIC.out
  rw [← h1];exact hO3)
 have HG3:=zh (show w.grownBy w3 (some g) from jF HG2.out (Nat.le_refl _) hg3)
 clear hO3 hg3
 go_wp2_with fail
 go_ret
 exact ⟨some ⟨w.heap.size,0,none⟩,G,rfl,HE.out,HG3.out⟩
theorem aFz (base:Nat) (A:Option Addr) (n c:Nat) (L:List UInt64) (x:UInt64) (i vb:Nat) (w:World) (h:w.ownsRow base 30 8 (.slice A n c) n (gcs L)) (hb:Blk w vb 30 (nmc x)) (hne:Value.ownBlock (.slice A n c) ≠ some vb) (hbase:base≤w.heap.size) (hn:n≤1000000000) (hi:i≤n) :
  Calls Tryz.prog 106 #[.slice A n c,.int .i64 (i:Int),.slice (some ⟨vb,0,none⟩) 1 1] w (gO w base 30 8 A n c (n+1) (gcs (L.take i ++ x :: L.drop i))):=by
 have hl:L.length=n:=OwnG.len (e:=30) h
 by_cases he:i=n
 ·subst he
  have:=aFy base A i c L x vb w h hb hbase hn
  rw [← hl,List.take_length,List.drop_length]
  rw [← hl] at this
  exact this
 obtain ⟨g,rfl,-,-⟩:=cF h (by omega)
 by_cases hr:n+1≤c
 ·exact aBP base g n c L x i vb w h hb (fun e=>hne (by rw [e];rfl)) hbase hn (by omega) hr
 exact aDt base g n c L x i vb w h hb hbase hn (by omega) (by omega)
end
end Go.Proofs.YtohmmcahpakokaaGreat
