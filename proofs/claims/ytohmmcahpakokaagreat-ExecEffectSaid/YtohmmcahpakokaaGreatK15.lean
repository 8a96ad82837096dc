/- list (the reference's); Verify (the program's). -/
import Derived.Deep.DeepCutAuto
import Derived.Deep.CutBlock
import Derived.Test.YtohmmcahpakokaaGreatK11
import Derived.Test.YtohmmcahpakokaaGreatK12
import Derived.Test.YtohmmcahpakokaaGreatLay
set_option maxRecDepth 100000
set_option maxHeartbeats 8000000
set_option linter.unusedVariables false
set_option linter.unusedSimpArgs false
namespace Go.Proofs.YtohmmcahpakokaaGreat
open Go.RowKit
def verU (pub:UInt64) (levels:Int) (m:UInt64) (l:List UInt8):Bool :=
 if levels=1 then decide (l.length=186) && (decide (numAt l 0 2 < 32) && decide (climbU l 2 (numAt l 0 2 % 32) m=pub))
 else if levels=2 then decide (l.length=370) && (decide (numAt l 0 2 < 1024) && decide (climbU l 186 (numAt l 0 2 / 32) (climbU l 2 (numAt l 0 2 % 32) m)=pub))
 else false
end Go.Proofs.YtohmmcahpakokaaGreat
namespace Go.Proofs.YtohmmcahpakokaaGreat
open Go.RowKit
end Go.Proofs.YtohmmcahpakokaaGreat
namespace Go.Proofs.YtohmmcahpakokaaGreat
open Go.RowKit
theorem climbed_at (A:Option Addr) (len c:Nat) (l:List UInt8) (at_ j:Nat) (z q:Int) (hz:z=(at_:Int)) (hq:q=(j:Int)) (m:UInt64) (w:World) (h:SlB w A len c l) (hf:at_+184≤len) (hat:at_≤500) (hj:j < 32) :
  Calls Tryz.prog 202 #[.slice A len c,.int .i64 z,.int .i64 q,.agg (nmc m)] w fun e w'=>e=.returned (.agg (nmc (climbU l at_ j m)))∧Ext w w':=by
 subst hz;subst hq;exact climbed_any A len c l at_ j m w h hf hat hj
theorem verU_short (pub:UInt64) (lv:Int) (m:UInt64) (l:List UInt8) (h:sizeZ lv ≠ (l.length:Int)):verU pub lv m l=false:=by
 unfold verU
 by_cases h1:lv=1
 ·subst h1;rw [if_pos rfl,decide_eq_false (show ¬ l.length=186 from fun e=>h (by rw [e];rfl))];rfl
 ·rw [if_neg h1]
  by_cases h2:lv=2
  ·subst h2;rw [if_pos rfl,decide_eq_false (show ¬ l.length=370 from fun e=>h (by rw [e];rfl))];rfl
  ·rw [if_neg h2]
theorem verU_far (pub:UInt64) (lv:Int) (m:UInt64) (l:List UInt8) (h:capZ lv≤(numAt l 0 2:Int)):verU pub lv m l=false:=by
 unfold verU
 by_cases h1:lv=1
 ·subst h1;rw [if_pos rfl,decide_eq_false (show ¬ numAt l 0 2 < 32 from by have:(32:Int)≤(numAt l 0 2:Int):=h;omega)];simp
 ·rw [if_neg h1]
  by_cases h2:lv=2
  ·subst h2;rw [if_pos rfl,decide_eq_false (show ¬ numAt l 0 2 < 1024 from by have:(1024:Int)≤(numAt l 0 2:Int):=h;omega)];simp
  ·rw [if_neg h2]
theorem verify_no (pub m:UInt64) (lv:Int) (A:Option Addr) (n c:Nat) (l:List UInt8) (w:World) (h:SlB w A n c l) (hno:n < 2 ∨ sizeZ lv ≠ (n:Int) ∨ capZ lv≤(numAt l 0 2:Int)) :
  Calls Tryz.prog 145 #[.agg (nmc pub),.int .i64 lv,.agg (nmc m),.slice A n c] w fun e w'=>e=.returned (.bool false)∧Ext w w':=by
 have hE:=((Ext.refl w).alloc' (.cells (nmc pub) 30)).alloc' (.cells (nmc m) 30)
 have HE:=zh hE
 have hcap:=h.cap
 have hle:=h.le
 by_cases h2:n < 2
 ·clear hno
  go_enter Tryz.func145,Tryz.ntmps145
  go_wp2_with (go_at_call 146;refine (leaf_no A n c _ h2).mono ?_;rintro e w1 ⟨rfl,rfl⟩)
  go_ret
  exact ⟨rfl,HE.out⟩
 ·have HL := zh (leaf_yes A n c l _ (h.ext HE.out) (by omega))
  have HH:=zh h
  clear h hE
  by_cases hs:sizeZ lv=(n:Int)
  ·have hc:capZ lv≤(numAt l 0 2:Int):=by
    rcases hno with h | h | h
    ·omega
    ·exact absurd hs h
    ·exact h
   have b1:((n:Int) != sizeZ lv)=false:=by rw [hs];simp
   clear hno hs
   generalize hx:numAt l 0 2=x at *
   generalize hcz:capZ lv=cz at *
   generalize hsz:sizeZ lv=sz at *
   have HC:=zh hcz
   have HS:=zh hsz
   clear hx hcz hsz
   go_enter Tryz.func145,Tryz.ntmps145
   go_wp2_with fail
   refine HL.out.mono ?_
   rintro e w1 ⟨rfl,rfl⟩
   go_wp2_with (first | (go_at_call 200;refine (size_any lv _).mono ?_;rintro e w1 ⟨rfl,rfl⟩;rw [HS.out]) | (go_at_call 201;refine (capacity_any lv _).mono ?_;rintro e w1 ⟨rfl,rfl⟩;rw [HC.out]))
   go_ret
   exact ⟨rfl,HE.out⟩
  ·have b1 : ((n : Int) != sizeZ lv) = true := by rw [bne_iff_ne]; exact fun e => hs e.symm
   clear hno hs
   generalize hx:numAt l 0 2=x at *
   generalize hsz:sizeZ lv=sz at *
   have HS:=zh hsz
   clear hx hsz
   go_enter Tryz.func145,Tryz.ntmps145
   go_wp2_with fail
   refine HL.out.mono ?_
   rintro e w1 ⟨rfl,rfl⟩
   go_wp2_with (first | (go_at_call 200;refine (size_any lv _).mono ?_;rintro e w1 ⟨rfl,rfl⟩;rw [HS.out]) | (go_at_call 201;refine (capacity_any lv _).mono ?_;rintro e w1 ⟨rfl,rfl⟩))
   go_ret
   exact ⟨rfl,HE.out⟩
end Go.Proofs.YtohmmcahpakokaaGreat
namespace Go.Proofs.YtohmmcahpakokaaGreat
open Go.RowKit
attribute [local go_sem ↓] Go.wp_at_zero Go.wp_at_succ
def vOpV (v:OpV):Bool :=
 decide (1≤v.k∧v.k≤6) && (numU (fTo v.k) v.tO 0 15 && (numU (fAm v.k) v.am 1 1099511627776 && (numU (fUl v.k) v.ul 1 1000 && (numU (fVa v.k) v.va 0 9 && (numU (fPre v.k) (v.pre.length:Int) 0 32 && (numU (fPrf v.k) (v.prf.length:Int) 1 2000 && ((fUl v.k || decide (v.hs=0)) && (fLk v.k || decide (v.lk=0)))))))))
theorem vOp_v {R:OpR} (h1:R.pre.length=R.n1) (h2:R.prf.length=R.n2):vOp R=vOpV R.v:=by
 unfold vOp vOpV OpR.v;simp only [h1,h2]
def vTxV (ac sq:Int) (V:List OpV):Bool:=vHead ac sq V.length && V.all vOpV
theorem vTx_v {ac sq:Int} {L:List OpR} (h:∀ R,R ∈ L→vOp R=vOpV R.v):vTx ac sq L=vTxV ac sq (L.map OpR.v):=by
 unfold vTx vTxV
 rw [List.length_map]
 congr 1
 rw [Bool.eq_iff_iff]
 simp only [decide_eq_true_eq,List.all_eq_true,List.mem_map]
 constructor
 ·rintro hh _ ⟨R, hR, rfl⟩
  obtain ⟨k,hk,rfl⟩:=List.getElem_of_mem hR
  have:=hh k hk
  have e:L[k]=nthO L k:=by simp [nthO,hk]
  rw [← h _ hR,e];exact this
 ·intro hh k hk
  rw [h _ (nthO_mem hk)]
  exact hh _ ⟨_,nthO_mem hk,rfl⟩
theorem own_ne {w:World} {base base':Nat} {e e':TypeId} {size size':Nat} {A A':Option Addr} {n n' c c':Nat} {xs xs':List Value} (h:w.ownsRow base e size (.slice A n c) n xs) (h':w.ownsRow base' e' size' (.slice A' n' c') n' xs') (hne:e ≠ e'):(Value.slice A n c).ownBlock=none ∨ (Value.slice A n c).ownBlock ≠ (Value.slice A' n' c').ownBlock:=by
 rcases h.2 with ⟨hv,_⟩ | ⟨g,cap,cur,hv,_,hh,_⟩
 ·exact .inl (by rw [hv];simp [Value.ownBlock])
 ·refine .inr ?_
  have:=own_other (t:=e) (cs:=cur) h' hh hne
  rw [hv];exact this
section
variable {P:Program} {t e:TypeId} {z:Value} {size bytes:Nat}
theorem wpList_appGG {ops:Array Oper} {rest:List Oper} {o:Oper} {a:Act} {w:World} {Q:Exit→Act→World→Prop} (E:Elem P t e z size bytes) (hgd:o.guard=none) (s x:Operand)
  (ho:o.op=.call { callee:=.builtin .append,args:=#[s,x],argTypes:=#[t,t] })
  (base:Nat) (A:Option Addr) (n c:Nat) (xs:List Value) (hs:a.eval s=.slice A n c) (hown:w.ownsRow base e size (.slice A n c) n xs)
  (A2:Option Addr) (m c2:Nat) (ys:List Value) (hx:a.eval x=.slice A2 m c2) (hr:Rd w A2 ys) (hl:ys.length=m * size) (h1:∀ u ∈ ys,u.oneCell'=true)
  (hb:(n+m) * bytes≤140737488355328) (h63:n+m≤4611686018427387904) (hbase:base≤w.heap.size)
  (h:∀ A' c' w',w'.ownsRow base e size (.slice A' (n+m) c') (n+m) (xs ++ ys)→w.grownBy w' (Value.ownBlock (.slice A n c))→wpList P ops Q rest (a.put o.dst (.slice A' (n+m) c')) w'):wpList P ops Q (o :: rest) a w :=
 wpList_plain hgd fun K hK=>wp_app E s x ho base A n c xs hs hown A2 m c2 ys hx hr hl h1 hb h63 hbase fun A' c' w' h2 h3=>hK _ _ (h A' c' w' h2 h3)
end
abbrev zero4:Array Value:=#[.int .i64 0,.int .i64 0,.slice none 0 0,.slice none 0 0]
structure TxR where
 ac:Int
 sq:Int
 A:Option Addr
 n:Nat
 c:Nat
 S:Option Addr
 m:Nat
 d:Nat
 L:List OpR
 sig:List UInt8
abbrev tA (T:TxR):Array Value:=stA T.ac T.sq T.A T.n T.c T.S T.m T.d
def TxR.v (T:TxR):Int × Int × List OpV × List UInt8:=(T.ac,T.sq,T.L.map OpR.v,T.sig)
structure TxR.ok (T:TxR) (w:World):Prop where
 ops:SlO w T.A T.n T.c T.L
 sig:SlB w T.S T.m T.d T.sig
theorem TxR.ok.ext {T:TxR} {w w':World} (h:T.ok w) (e:Ext w w'):T.ok w':=⟨h.ops.ext e,h.sig.ext e⟩
section
variable {o:Oper} {a:Act} {w:World} {ops:Array Oper} {rest:List Oper} {Q:Exit→Act→World→Prop}
theorem wpList_storeSt (hgd:o.guard=none) (x y:Operand) (ho:o.op=.store 47 x y) (g:Nat) (cs:Array Value) (hx:a.eval x=.pointer (some ⟨g,0,none⟩)) (hy:a.eval y=.agg cs) (ht:w.there g 0 4) (hs:cs.size=4) (h1:cs.all (·.oneCell')=true)
  (h:wpList Tryz.prog ops Q rest (a.put o.dst undef) (w.setCells g 0 cs.toList)):wpList Tryz.prog ops Q (o :: rest) a w :=
 wpList_store_mid hgd 47 x y ho g 0 cs hx hy (by rw [hs];exact ht) (by rw [hs];kernel_rfl) h1 h
end
theorem stA_all (ac sq:Int) (A:Option Addr) (n c:Nat) (S:Option Addr) (m d:Nat):(stA ac sq A n c S m d).all (·.oneCell')=true:=by simp [stA,Value.oneCell']
theorem st_there {w:World} {X:Nat} {t:TypeId} (h:Blk w X t zero4):w.there X 0 4:=there_of_blk h
theorem st_store {w:World} {g:Nat} (h:Blk w g 47 zero4) (cs:Array Value) (hs:cs.size=4):Blk (w.setCells g 0 cs.toList) g 47 cs:=blk_whole h (by rw [hs];rfl)
def encOps (L:List OpR):List UInt8:=L.flatMap encOp
theorem encOps_append (a b:List OpR):encOps (a ++ b)=encOps a ++ encOps b:=by simp [encOps]
def encTx (ac sq:Int) (L:List OpR):List UInt8:=[toB ac,toB sq,toB (L.length:Int)] ++ encOps L
theorem encOp_len {R:OpR} {w:World} (hv:vOp R=true) (hR:R.ok w):(encOp R).length≤3000:=by
 have h1:=hR.pre.len
 have h2:=hR.prf.len
 have b1:=vOp_pre hv
 have b2:=vOp_prf hv
 rcases kind_cases R.k with h | h | h | h | h | h | h
 ·rw [encOp_1 h];simp [beI_length]
 ·rw [encOp_2 h];simp [beI_length,nmb_length]
 ·rw [encOp_3 h];simp [beI_length,nmb_length,blob_length];omega
 ·rw [encOp_4 h];simp [beI_length,nmb_length]
 ·rw [encOp_5 h];simp [beI_length]
 ·rw [encOp_6 h];simp [blob_length];omega
 ·exact absurd (vOp_kind hv) h
theorem OwnB.len {w:World} {base:Nat} {e:TypeId} {A:Option Addr} {n c:Nat} {l:List UInt8} (h:OwnB w base e A n c l):l.length=n:=h.sl.len
theorem own_lit3 (w:World) (base:Nat) (e:TypeId) (x y z:Int) (g:Nat) (hg:w.heap.size=g) (hb:base≤g) (x' y' z':Int) (hx:x'=((toB x).toNat:Int)) (hy:y'=((toB y).toNat:Int)) (hz:z'=((toB z).toNat:Int)):OwnB (w.alloc (.cells #[.int .u8 x',.int .u8 y',.int .u8 z'] e)) base e (some ⟨g,0,none⟩) 3 3 [toB x,toB y,toB z]:=by
 subst hg;subst hx;subst hy;subst hz
 exact own_cells (heap_alloc_new w _) hb rfl (Nat.le_refl _) (by omega) rfl rfl
theorem toB_wrapped (z:Int):IntKind.u8.wrap z=((toB z).toNat:Int):=toB_wrap z
theorem encode_any (ac sq:Int) (A:Option Addr) (n c:Nat) (L:List OpR) (w:World) (hS:SlO w A n c L) (hv:vTx ac sq L=true) :
  Calls Tryz.prog 110 #[.agg (txA ac sq A n c)] w fun e w'=>∃ A' n' c',e=.returned (.slice A' n' c')∧OwnB w' w.heap.size 5 A' n' c' (encTx ac sq L)∧n'≤13000∧Ext w w':=by
 obtain ⟨⟨h1,h2,h3,h4,h5,h6⟩,hops⟩:=vTx_of hv
 have hlen:=hS.len
 rw [hlen] at h5 h6
 have hle:=hS.le
 have hcap:=hS.cap
 have hE:=(Ext.refl w).alloc' (.cells (txA ac sq A n c) 24)
 obtain ⟨b,o,rfl,hr0,hb0⟩:=hS.at (by omega)
 have HSW:=zh (hS.ext hE)
 have HLEN:=zh hlen
 have HR0:=zh hr0
 have HBL:=zh hb0
 have HOPS:=zh hops
 have HE:=zh hE
 obtain ⟨w1,hw1⟩:∃ w1,w1=w.alloc (.cells (txA ac sq (some ⟨b,o,none⟩) n c) 24):=⟨_,rfl⟩
 have HW1:=zh hw1
 have HT1:=zh (toB_wrapped (n:Int))
 clear hS hE hr0 hb0 hops hlen hv hw1
 go_enter Tryz.func110,Tryz.ntmps110
 go_wp2_with fail
 go_loopw [20,3] (fun i v wr=>∃ (k:Nat) (A4:Option Addr) (n4 c4:Nat),k≤n∧i=.int .i64 (k:Int)∧v=.slice A4 n4 c4∧n4≤3+3000 * k∧OwnB wr w1.heap.size 5 A4 n4 c4 ([toB ac,toB sq,toB (n:Int)] ++ encOps (L.take k))∧Ext w1 wr) (fun i _ _=>n - (intOf i).toNat)
 case atStart =>
  refine ⟨0,_,3,3,Nat.zero_le _,rfl,rfl,Nat.le_refl _,?_,?_⟩
  ·rw [HW1.out]
   simp only [encOps,List.take_zero,List.flatMap_nil,List.append_nil]
   exact own_lit3 _ _ _ _ _ _ _ (by simp) (by simp) _ _ _ (by first | exact toB_eq _ | (rw [← toB_eq];omega)) (by first | exact toB_eq _ | (rw [← toB_eq];omega)) (by first | exact toB_eq _ | (rw [← toB_eq];omega))
  ·rw [HW1.out];exact (Ext.refl _).alloc' _
 case round =>
  obtain ⟨k,A4,n4,c4,hk,rfl,rfl,hn4,hO,hX⟩:=hrel
  have HO:=zh hO
  have HX:=zh hX
  clear hO hX
  by_cases hlt:k < n
  ·have HE2 := zh (show Ext w wr from by rw [HW1.out] at HX; exact HE.out.trans HX.out)
   have hr:=op_at (rangeAt_keep HR0.out (HE2.out.block b HBL.out)) (k:=k) (by rw [HLEN.out];exact hlt)
   have HTK:=zh (take_nthO (L:=L) (k:=k) (by rw [HLEN.out];exact hlt))
   have HOK:=zh (show (nthO L k).ok w1 by rw [HW1.out];exact HSW.out.nth hlt)
   have HV:=zh (HOPS.out k (by rw [HLEN.out];exact hlt))
   have i0:(0:Int)≤(k:Int):=by omega
   have i1:(k:Int) < (n:Int):=by omega
   obtain ⟨R,hR⟩:∃ R,nthO L k=R:=⟨_,rfl⟩
   rw [hR] at hr HTK HOK HV
   clear hR
   have hnew:=new_op wr R
   go_wp2_with (first | (with_reducible refine wpList_loadO rfl (.tmp 22) rfl b (o+k * 23) rfl R hr ?_) | (with_reducible refine wpList_newO rfl (.tmp 5) (.tmp 23) rfl _ rfl R rfl rfl ?_) | (with_reducible refine wpList_loadO rfl (.tmp 5) rfl wr.heap.size 0 rfl R hnew ?_))
   refine (appendOp_any R HV.out w1 A4 n4 c4 _ _ HOK.out (HX.out.alloc' _) (HO.out.alloc _) (by omega)).mono ?_
   rintro e w2 ⟨A5,n5,c5,rfl,hO5,hX5⟩
   have HO7:=zh (show OwnB w2 w1.heap.size 5 A5 n5 c5 ([toB ac,toB sq,toB (n:Int)] ++ encOps (L.take (k+1))) by
    rw [HTK.out,encOps_append]
    simpa [encOps] using hO5)
   have hn5:n5≤3+3000 * (k+1):=by
    have a1:=hO5.len
    have a2:=HO.out.len
    have a3:=encOp_len HV.out HOK.out
    rw [List.length_append,a2] at a1
    omega
   have HX5:=zh hX5
   clear hO5 hX5 hr hnew HO HTK
   go_wp2_with fail
   go_roundw
   case rel=>exact ⟨k+1,A5,n5,c5,by omega,by go_num,rfl,hn5,HO7.out,HX5.out⟩
   case measure=>simp [intOf];omega
  ·obtain rfl : k = n := by omega
   go_wp2_with fail
   go_ret
   refine ⟨A4,n4,c4,rfl,own_mono (base:=w1.heap.size) ?_ (by rw [HW1.out];simp),by omega,by rw [HW1.out] at HX;exact HE.out.trans HX.out⟩
   have:=HO.out
   unfold encTx
   rw [List.take_of_length_le (Nat.le_of_eq HLEN.out)] at this
   rw [HLEN.out]
   exact this
theorem st_facts {w:World} {g:Nat} {t:TypeId} {ac sq:Int} {A:Option Addr} {n c:Nat} {S:Option Addr} {m d:Nat} (h:Blk w g t (stA ac sq A n c S m d)):w.cell? ⟨g,0,none⟩=some (.int .i64 ac)∧w.cell? ⟨g,1,none⟩=some (.int .i64 sq)∧w.cell? ⟨g,2,none⟩=some (.slice A n c)∧w.cell? ⟨g,3,none⟩=some (.slice S m d) :=
 ⟨h.cell 0,h.cell 1,h.cell 2,h.cell 3⟩
theorem rNumber_any (x:UInt64) (w:World):Calls Tryz.prog 130 #[.agg (nmc x)] w fun e w'=>e=.returned (.int .u64 (un x))∧Ext w w':=by
 have hl:=nmb_length x
 obtain ⟨W0,hW0⟩:∃ W0,w.alloc (.cells (nmc x) 30)=W0:=⟨_,rfl⟩
 have HB:=zh (show Blk W0 w.heap.size 30 (nmc x) from by rw [← hW0];exact Blk.new _ _ _)
 have HE:=zh (show Ext w W0 from by rw [← hW0];exact (Ext.refl w).alloc' _)
 go_enter Tryz.func130,Tryz.ntmps130
 go_wp2_with fail
 clear hW0
 go_loopw [3,4] (fun v i wr=>∃ k:Nat,k≤8∧i=.int .i64 (k:Int)∧v=.int .u64 (beNat ((nmb x).take k))∧W0=wr) (fun _ i _=>8 - (intOf i).toNat)
 case atStart=>exact ⟨0,by omega,rfl,rfl,rfl⟩
 case round =>
  obtain ⟨k,hk,rfl,rfl,rfl⟩:=hrel
  by_cases hlt:k < 8
  ·have hix:W0.cell? ⟨w.heap.size,k,none⟩=some (.int .u8 (((nmb x).getD k 0).toNat:Int)):=by
    rw [HB.out.cell k]
    have hl:=nmb_length x
    simp [nmc,bcs,bv,hl,hlt]
   have i1:(k:Int) < 8:=by omega
   have hb:=beNat_lt ((nmb x).take k)
   rw [List.length_take,hl,Nat.min_eq_left (by omega)] at hb
   have hb7:beNat ((nmb x).take k) < 72057594037927936:=Nat.lt_of_lt_of_le hb (Nat.pow_le_pow_right (n:=256) (j:=7) (by omega) (by omega))
   have hor:=or_byte _ ((nmb x).getD k 0) hb7
   have HS:=zh (show beNat ((nmb x).take (k+1))=beNat ((nmb x).take k) * 256+((nmb x).getD k 0).toNat by rw [take_get _ _ (by omega),beNat_snoc])
   clear hb hb7 hl
   generalize beNat ((nmb x).take k)=a at *
   generalize (nmb x).getD k 0=c at *
   go_wp2_with fail
   go_roundw
   case rel=>exact ⟨k+1,by omega,by go_num,by rw [HS.out];go_num,by first | rfl | trivial⟩
   case measure=>simp [intOf];omega
  ·have HS := zh (show (beNat ((nmb x).take k) : Int) = un x by rw [List.take_of_length_le (by omega), beNat_nmb]; rfl)
   have i1:¬ (k:Int) < 8:=by omega
   clear hl
   generalize beNat ((nmb x).take k)=a at *
   go_wp2_with fail
   go_ret
   exact ⟨by rw [← HS.out];rfl,HE.out⟩
theorem rLess_any (x y:UInt64) (w:World):Calls Tryz.prog 74 #[.agg (nmc x),.agg (nmc y)] w fun e w'=>e=.returned (.bool (decide (un x < un y)))∧Ext w w':=by
 have hE:=((Ext.refl w).alloc' (.cells (nmc x) 30)).alloc' (.cells (nmc y) 30)
 have HB1:=zh ((Blk.new w 30 (nmc x)).alloc (.cells (nmc y) 30))
 have HB2:=zh (show Blk ((w.alloc (.cells (nmc x) 30)).alloc (.cells (nmc y) 30)) (w.heap.size+1) 30 (nmc y) from Blk.newAt _ _ _ _ (by simp))
 have HE:=zh hE
 obtain ⟨W0,hW0⟩:∃ W0,(w.alloc (.cells (nmc x) 30)).alloc (.cells (nmc y) 30)=W0:=⟨_,rfl⟩
 rw [hW0] at HB1 HB2 HE
 have HC:=zh (fun (W:World) (h:Ext W0 W)=>And.intro (cells8 (HB1.out.ext h)) (cells8 (HB2.out.ext h)))
 clear hE
 go_enter Tryz.func74,Tryz.ntmps74
 go_wp2_with fail
 refine wp_region_plan (S:=fun W=>Ext W0 W) (by kernel_rfl) (by kernel_rfl) ((Ext.refl W0).drew') ?_
 (refine pr 0 (oi:=⟨some 5,.load 30 (.tmp 2),30,"ref.go:30",#[],none⟩) (v:=?_) rfl (by kernel_rfl) (by rfl) ?h ?_;case h=>(intro W hSW;obtain ⟨c1,c2⟩:=HC.out W hSW;go_simp <;> with_reducible rfl))
 try simp only [lays]
 (refine plan_take (i:=1) (oi:=⟨some 6,.call { callee:=.value (.func 130),args:=#[.tmp 5],argTypes:=#[30] },148,"ref.go:30",#[⟨0,.data⟩],none⟩) (v:=?_) rfl (by kernel_rfl) (by kernel_rfl) (fx_call (by rfl) (fun W hSW K hK=>?hy1_1)) ?_;case hy1_1=>(go_simp;go_at_call 130;(with_reducible refine (rNumber_any x W).mono ?_);rintro e w1 ⟨rfl,he1⟩;exact hK.out _ (hSW.trans he1)))
 try simp only [lays]
 (refine pr 2 (oi:=⟨some 7,.load 30 (.tmp 3),30,"ref.go:30",#[],none⟩) (v:=?_) rfl (by kernel_rfl) (by rfl) ?h ?_;case h=>(intro W hSW;obtain ⟨c1,c2⟩:=HC.out W hSW;go_simp <;> with_reducible rfl))
 try simp only [lays]
 (refine plan_take (i:=3) (oi:=⟨some 8,.call { callee:=.value (.func 130),args:=#[.tmp 7],argTypes:=#[30] },148,"ref.go:30",#[⟨2,.data⟩,⟨1,.chain⟩],none⟩) (v:=?_) rfl (by kernel_rfl) (by kernel_rfl) (fx_call (by rfl) (fun W hSW K hK=>?hy1_3)) ?_;case hy1_3=>(go_simp;go_at_call 130;(with_reducible refine (rNumber_any y W).mono ?_);rintro e w1 ⟨rfl,he1⟩;exact hK.out _ (hSW.trans he1)))
 try simp only [lays]
 (refine pr 4 (oi:=⟨some 9,.binOp .lss 148 (.tmp 6) (.tmp 8) 148,4,"ref.go:30",#[⟨1,.data⟩,⟨3,.data⟩],none⟩) (v:=?_) rfl (by kernel_rfl) (by rfl) ?h ?_;case h=>(intro W hSW;go_simp <;> with_reducible rfl))
 try simp only [lays]
 (refine pr 5 (oi:=⟨some 4,.assign (.tmp 9),4,"ref.go:30",#[⟨4,.data⟩,⟨3,.chain⟩,⟨0,.phase⟩,⟨1,.phase⟩,⟨2,.phase⟩,⟨3,.phase⟩,⟨4,.phase⟩],none⟩) (v:=?_) rfl (by kernel_rfl) (by rfl) ?h ?_;case h=>(intro W hSW;go_simp <;> with_reducible rfl))
 try simp only [lays]
 refine Plan.done (by kernel_rfl) (fun W hSW=>?_)
 have HX:=zh (HE.out.trans hSW)
 clear hSW
 go_wp2_with fail
 go_ret
 exact ⟨rfl,HX.out⟩
end Go.Proofs.YtohmmcahpakokaaGreat
