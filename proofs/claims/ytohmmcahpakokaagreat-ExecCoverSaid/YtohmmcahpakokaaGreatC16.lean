/- list (the reference's); Verify (the program's). -/
import Derived.Sort.LotA
import Derived.Laws.OwnMore
import Derived.Shelf.SlLaysF0
import Derived.Test.YtohmmcahpakokaaGreatProg
import Derived.Test.YtohmmcahpakokaaGreatC13
set_option maxRecDepth 100000
set_option maxHeartbeats 8000000
set_option linter.unusedSectionVars false
set_option linter.unusedVariables false
set_option linter.unusedSimpArgs false
namespace Go.Proofs.YtohmmcahpakokaaGreat
open Go.RowKit
def verU (pub:UInt64) (levels:Int) (m:UInt64) (l:List UInt8):Bool :=
 if levels=1 then decide (l.length=186) && (decide (numAt l 0 2 < 32) && decide (climbU l 2 (numAt l 0 2 % 32) m=pub))
 else if levels=2 then decide (l.length=370) && (decide (numAt l 0 2 < 1024) && decide (climbU l 186 (numAt l 0 2 / 32) (climbU l 2 (numAt l 0 2 % 32) m)=pub))
 else false
end Go.Proofs.YtohmmcahpakokaaGreat
namespace Go.Proofs.YtohmmcahpakokaaGreat
open Go.RowKit
end Go.Proofs.YtohmmcahpakokaaGreat
namespace Go.Proofs.YtohmmcahpakokaaGreat
open Go.RowKit
theorem climbed_at (A:Option Addr) (len c:Nat) (l:List UInt8) (at_ j:Nat) (z q:Int) (hz:z=(at_:Int)) (hq:q=(j:Int)) (m:UInt64) (w:World) (h:SlB w A len c l) (hf:at_+184≤len) (hat:at_≤500) (hj:j < 32) :
  Calls Tryz.prog 202 #[.slice A len c,.int .i64 z,.int .i64 q,.agg (nmc m)] w fun e w'=>e=.returned (.agg (nmc (climbU l at_ j m)))∧Ext w w':=by
 subst hz;subst hq;exact climbed_any A len c l at_ j m w h hf hat hj
theorem verU_short (pub:UInt64) (lv:Int) (m:UInt64) (l:List UInt8) (h:sizeZ lv ≠ (l.length:Int)):verU pub lv m l=false:=by
 unfold verU
 by_cases h1:lv=1
 ·subst h1;rw [if_pos rfl,decide_eq_false (show ¬ l.length=186 from fun e=>h (by rw [e];rfl))];rfl
 ·rw [if_neg h1]
  by_cases h2:lv=2
  ·subst h2;rw [if_pos rfl,decide_eq_false (show ¬ l.length=370 from fun e=>h (by rw [e];rfl))];rfl
  ·rw [if_neg h2]
theorem verU_far (pub:UInt64) (lv:Int) (m:UInt64) (l:List UInt8) (h:capZ lv≤(numAt l 0 2:Int)):verU pub lv m l=false:=by
 unfold verU
 by_cases h1:lv=1
 ·subst h1;rw [if_pos rfl,decide_eq_false (show ¬ numAt l 0 2 < 32 from by have:(32:Int)≤(numAt l 0 2:Int):=h;omega)];simp
 ·rw [if_neg h1]
  by_cases h2:lv=2
  ·subst h2;rw [if_pos rfl,decide_eq_false (show ¬ numAt l 0 2 < 1024 from by have:(1024:Int)≤(numAt l 0 2:Int):=h;omega)];simp
  ·rw [if_neg h2]
theorem verify_no (pub m:UInt64) (lv:Int) (A:Option Addr) (n c:Nat) (l:List UInt8) (w:World) (h:SlB w A n c l) (hno:n < 2 ∨ sizeZ lv ≠ (n:Int) ∨ capZ lv≤(numAt l 0 2:Int)) :
  Calls Tryz.prog 145 #[.agg (nmc pub),.int .i64 lv,.agg (nmc m),.slice A n c] w fun e w'=>e=.returned (.bool false)∧Ext w w':=by
 have hE:=((Ext.refl w).alloc' (.cells (nmc pub) 30)).alloc' (.cells (nmc m) 30)
 have HE:=zh hE
 have hcap:=h.cap
 have hle:=h.le
 by_cases h2:n < 2
 ·clear hno
  go_enter Tryz.func145,Tryz.ntmps145
  go_wp2_with (go_at_call 146;refine (leaf_no A n c _ h2).mono ?_;rintro e w1 ⟨rfl,rfl⟩)
  go_ret
  exact ⟨rfl,HE.out⟩
 ·have HL := zh (leaf_yes A n c l _ (h.ext HE.out) (by omega))
  have HH:=zh h
  clear h hE
  by_cases hs:sizeZ lv=(n:Int)
  ·have hc:capZ lv≤(numAt l 0 2:Int):=by
    rcases hno with h | h | h
    ·omega
    ·exact absurd hs h
    ·exact h
   have b1:((n:Int) != sizeZ lv)=false:=by rw [hs];simp
   clear hno hs
   generalize hx:numAt l 0 2=x at *
   generalize hcz:capZ lv=cz at *
   generalize hsz:sizeZ lv=sz at *
   have HC:=zh hcz
   have HS:=zh hsz
   clear hx hcz hsz
   go_enter Tryz.func145,Tryz.ntmps145
   go_wp2_with fail
   refine HL.out.mono ?_
   rintro e w1 ⟨rfl,rfl⟩
   go_wp2_with (first | (go_at_call 200;refine (size_any lv _).mono ?_;rintro e w1 ⟨rfl,rfl⟩;rw [HS.out]) | (go_at_call 201;refine (capacity_any lv _).mono ?_;rintro e w1 ⟨rfl,rfl⟩;rw [HC.out]))
   go_ret
   exact ⟨rfl,HE.out⟩
  ·have b1 : ((n : Int) != sizeZ lv) = true := by rw [bne_iff_ne]; exact fun e => hs e.symm
   clear hno hs
   generalize hx:numAt l 0 2=x at *
   generalize hsz:sizeZ lv=sz at *
   have HS:=zh hsz
   clear hx hsz
   go_enter Tryz.func145,Tryz.ntmps145
   go_wp2_with fail
   refine HL.out.mono ?_
   rintro e w1 ⟨rfl,rfl⟩
   go_wp2_with (first | (go_at_call 200;refine (size_any lv _).mono ?_;rintro e w1 ⟨rfl,rfl⟩;rw [HS.out]) | (go_at_call 201;refine (capacity_any lv _).mono ?_;rintro e w1 ⟨rfl,rfl⟩))
   go_ret
   exact ⟨rfl,HE.out⟩
end Go.Proofs.YtohmmcahpakokaaGreat
namespace Go.Proofs.YtohmmcahpakokaaGreat
open Go.RowKit
attribute [local go_sem ↓] Go.wp_at_zero Go.wp_at_succ
def vOpV (v:OpV):Bool :=
 decide (1≤v.k∧v.k≤6) && (numU (fTo v.k) v.tO 0 15 && (numU (fAm v.k) v.am 1 1099511627776 && (numU (fUl v.k) v.ul 1 1000 && (numU (fVa v.k) v.va 0 9 && (numU (fPre v.k) (v.pre.length:Int) 0 32 && (numU (fPrf v.k) (v.prf.length:Int) 1 2000 && ((fUl v.k || decide (v.hs=0)) && (fLk v.k || decide (v.lk=0)))))))))
theorem vOp_v {R:OpR} (h1:R.pre.length=R.n1) (h2:R.prf.length=R.n2):vOp R=vOpV R.v:=by
 unfold vOp vOpV OpR.v;simp only [h1,h2]
def vTxV (ac sq:Int) (V:List OpV):Bool:=vHead ac sq V.length && V.all vOpV
theorem vTx_v {ac sq:Int} {L:List OpR} (h:∀ R,R ∈ L→vOp R=vOpV R.v):vTx ac sq L=vTxV ac sq (L.map OpR.v):=by
 unfold vTx vTxV
 rw [List.length_map]
 congr 1
 rw [Bool.eq_iff_iff]
 simp only [decide_eq_true_eq,List.all_eq_true,List.mem_map]
 constructor
 ·rintro hh _ ⟨R, hR, rfl⟩
  obtain ⟨k,hk,rfl⟩:=List.getElem_of_mem hR
  have:=hh k hk
  have e:L[k]=nthO L k:=by simp [nthO,hk]
  rw [← h _ hR,e];exact this
 ·intro hh k hk
  rw [h _ (nthO_mem hk)]
  exact hh _ ⟨_,nthO_mem hk,rfl⟩
theorem own_ne {w:World} {base base':Nat} {e e':TypeId} {size size':Nat} {A A':Option Addr} {n n' c c':Nat} {xs xs':List Value} (h:w.ownsRow base e size (.slice A n c) n xs) (h':w.ownsRow base' e' size' (.slice A' n' c') n' xs') (hne:e ≠ e'):(Value.slice A n c).ownBlock=none ∨ (Value.slice A n c).ownBlock ≠ (Value.slice A' n' c').ownBlock:=by
 rcases h.2 with ⟨hv,_⟩ | ⟨g,cap,cur,hv,_,hh,_⟩
 ·exact .inl (by rw [hv];simp [Value.ownBlock])
 ·refine .inr ?_
  have:=own_other (t:=e) (cs:=cur) h' hh hne
  rw [hv];exact this
section
variable {P:Program} {t e:TypeId} {z:Value} {size bytes:Nat}
theorem wpList_appGG {ops:Array Oper} {rest:List Oper} {o:Oper} {a:Act} {w:World} {Q:Exit→Act→World→Prop} (E:Elem P t e z size bytes) (hgd:o.guard=none) (s x:Operand)
  (ho:o.op=.call { callee:=.builtin .append,args:=#[s,x],argTypes:=#[t,t] })
  (base:Nat) (A:Option Addr) (n c:Nat) (xs:List Value) (hs:a.eval s=.slice A n c) (hown:w.ownsRow base e size (.slice A n c) n xs)
  (A2:Option Addr) (m c2:Nat) (ys:List Value) (hx:a.eval x=.slice A2 m c2) (hr:Rd w A2 ys) (hl:ys.length=m * size) (h1:∀ u ∈ ys,u.oneCell'=true)
  (hb:(n+m) * bytes≤140737488355328) (h63:n+m≤4611686018427387904) (hbase:base≤w.heap.size)
  (h:∀ A' c' w',w'.ownsRow base e size (.slice A' (n+m) c') (n+m) (xs ++ ys)→w.grownBy w' (Value.ownBlock (.slice A n c))→wpList P ops Q rest (a.put o.dst (.slice A' (n+m) c')) w'):wpList P ops Q (o :: rest) a w :=
 wpList_plain hgd fun K hK=>wp_app E s x ho base A n c xs hs hown A2 m c2 ys hx hr hl h1 hb h63 hbase fun A' c' w' h2 h3=>hK _ _ (h A' c' w' h2 h3)
end
abbrev zero4:Array Value:=#[.int .i64 0,.int .i64 0,.slice none 0 0,.slice none 0 0]
structure TxR where
 ac:Int
 sq:Int
 A:Option Addr
 n:Nat
 c:Nat
 S:Option Addr
 m:Nat
 d:Nat
 L:List OpR
 sig:List UInt8
abbrev tA (T:TxR):Array Value:=stA T.ac T.sq T.A T.n T.c T.S T.m T.d
def TxR.v (T:TxR):Int × Int × List OpV × List UInt8:=(T.ac,T.sq,T.L.map OpR.v,T.sig)
structure TxR.ok (T:TxR) (w:World):Prop where
 ops:SlO w T.A T.n T.c T.L
 sig:SlB w T.S T.m T.d T.sig
theorem TxR.ok.ext {T:TxR} {w w':World} (h:T.ok w) (e:Ext w w'):T.ok w':=⟨h.ops.ext e,h.sig.ext e⟩
section
variable {o:Oper} {a:Act} {w:World} {ops:Array Oper} {rest:List Oper} {Q:Exit→Act→World→Prop}
theorem wpList_storeSt (hgd:o.guard=none) (x y:Operand) (ho:o.op=.store 47 x y) (g:Nat) (cs:Array Value) (hx:a.eval x=.pointer (some ⟨g,0,none⟩)) (hy:a.eval y=.agg cs) (ht:w.there g 0 4) (hs:cs.size=4) (h1:cs.all (·.oneCell')=true)
  (h:wpList Tryz.prog ops Q rest (a.put o.dst undef) (w.setCells g 0 cs.toList)):wpList Tryz.prog ops Q (o :: rest) a w :=
 wpList_store_mid hgd 47 x y ho g 0 cs hx hy (by rw [hs];exact ht) (by rw [hs];kernel_rfl) h1 h
end
theorem stA_all (ac sq:Int) (A:Option Addr) (n c:Nat) (S:Option Addr) (m d:Nat):(stA ac sq A n c S m d).all (·.oneCell')=true:=by simp [stA,Value.oneCell']
theorem st_there {w:World} {X:Nat} {t:TypeId} (h:Blk w X t zero4):w.there X 0 4:=there_of_blk h
theorem st_store {w:World} {g:Nat} (h:Blk w g 47 zero4) (cs:Array Value) (hs:cs.size=4):Blk (w.setCells g 0 cs.toList) g 47 cs:=blk_whole h (by rw [hs];rfl)
end Go.Proofs.YtohmmcahpakokaaGreat
namespace Go.Proofs.YtohmmcahpakokaaGreat
open Go.RowKit
theorem Grown.refl (w:World) (row:Option Nat):w.grownBy w row:=⟨rfl,rfl,rfl,Nat.le_refl _,fun _ _ _=>rfl⟩
theorem Grown.trans {a b c:World} {row:Option Nat} (h:a.grownBy b row) (k:b.grownBy c row):a.grownBy c row :=
 ⟨k.os.trans h.os,k.tape.trans h.tape,k.output.trans h.output,Nat.le_trans h.size k.size,fun i hi hr=>(k.block i (Nat.lt_of_lt_of_le hi h.size) hr).trans (h.block i hi hr)⟩
theorem Ext.grown {a b:World} (h:Ext a b) (row:Option Nat):a.grownBy b row:=⟨h.os,h.tape,h.output,h.size,fun i hi _=>h.block i hi⟩
theorem Grown.none {a b:World} (h:a.grownBy b none):Ext a b:=⟨h.os,h.tape,h.output,h.size,fun k hk=>h.block k hk (by simp)⟩
theorem splice_cons {xs:List Value} {o:Nat} {y:Value} {r:List Value} (h:o < xs.length):splice (xs.set o y) (o+1) r=splice xs o (y :: r):=by
 unfold splice
 rw [List.take_add_one,List.getElem?_set_self h,List.take_set_of_le (Nat.le_refl _)]
 simp [List.drop_set_of_lt,show o < o+1+r.length from by omega,show o+(r.length+1)=o+1+r.length from by omega]
theorem own_splice {base:Nat} {e:TypeId} {size g n c:Nat} (ys:List Value):∀ (o:Nat) (w:World) (xs:List Value),o+ys.length≤xs.length→w.ownsRow base e size (.slice (some ⟨g,0,none⟩) n c) n xs →
  (w.setCells g o ys).ownsRow base e size (.slice (some ⟨g,0,none⟩) n c) n (splice xs o ys)∧w.grownBy (w.setCells g o ys) (some g):=by
 induction ys with
 | nil=>intro o w xs hl h;exact ⟨by simpa [splice,World.setCells] using h,Grown.refl _ _⟩
 | cons y r ih =>
  intro o w xs hl h
  simp only [List.length_cons] at hl
  have hs:=h.stored o y
  obtain ⟨h1,h2⟩:=ih (o+1) _ _ (by rw [List.length_set];omega) hs.1
  rw [splice_cons (by omega)] at h1
  exact ⟨h1,Grown.trans hs.2 h2⟩
theorem own_cut {w:World} {base:Nat} {e:TypeId} {size:Nat} {A:Option Addr} {n c:Nat} {xs:List Value} (h:w.ownsRow base e size (.slice A n c) n xs) {i:Nat} (hi:i≤n) (hA:A ≠ none):w.ownsRow base e size (.slice A i c) i (xs.take (i * size)):=by
 have hle:i * size≤n * size:=Nat.mul_le_mul_right _ hi
 refine ⟨by rw [List.length_take,h.1];omega,?_⟩
 rcases h.2 with ⟨hv,_⟩ | ⟨g,cap,cur,hv,hb,hh,hn,hm,hs,ht⟩
 ·injection hv with hA';exact absurd hA' hA
 ·injection hv with h1 _ h3; subst h1; subst h3
  refine .inr ⟨g,c,cur,rfl,hb,hh,by omega,hm,hs,?_⟩
  rw [← ht,List.take_take,Nat.min_eq_left hle]
theorem own_over {base:Nat} {e:TypeId} {size g n c:Nat} (ys:List Value):∀ (o:Nat) (w:World) (xs:List Value),w.ownsRow base e size (.slice (some ⟨g,0,none⟩) n c) n xs →
  ∃ xs',(w.setCells g o ys).ownsRow base e size (.slice (some ⟨g,0,none⟩) n c) n xs'∧xs'.take o=xs.take o∧w.grownBy (w.setCells g o ys) (some g):=by
 induction ys with
 | nil=>intro o w xs h;exact ⟨xs,h,rfl,Grown.refl _ _⟩
 | cons y r ih =>
  intro o w xs h
  have hs:=h.stored o y
  obtain ⟨xs',h1,h2,h3⟩:=ih (o+1) _ _ hs.1
  refine ⟨xs',h1,?_,Grown.trans hs.2 h3⟩
  have:=congrArg (List.take o) h2
  rw [List.take_take,List.take_take,Nat.min_eq_left (by omega)] at this
  rw [this,List.take_set_of_le (by omega)]
section
variable {α:Type} [RowT α]
instance (priority:=low) rowInh:Inhabited α:=⟨RowT.z⟩
theorem arr_nth (d:Array α) (i:Nat):d[i]! = nthG d.toList i:=by
 show d[i]! = d.toList.getD i RowT.z
 rw [List.getD_eq_getElem?_getD,Array.getElem?_toList]
 by_cases h:i < d.size
 ·rw [getElem!_pos d i h,Array.getElem?_eq_getElem h];rfl
 ·rw [getElem!_neg d i h,Array.getElem?_eq_none (by omega)];rfl
theorem gcs_set (L:List α) (i:Nat) (x:α) (hi:i < L.length):splice (gcs L) (i * RowT.sz α) (RowT.enc x)=gcs (L.set i x):=by
 rw [List.set_eq_take_append_cons_drop,if_pos hi,gcs_append,gcs_cons]
 unfold splice
 rw [gcs_take,RowT.len,← gcs_drop,Nat.add_mul,Nat.one_mul]
class RowB (α:Type) [RowT α] where
 ow:World→Nat→α→Prop
 ok:∀ x w b,ow w b x→RowT.ok x w
 ext:∀ x w w' b,ow w b x→Ext w w'→ow w' b x
 kept:∀ x w w' b b' e sz A n c xs,ow w b x→w.ownsRow b' e sz (.slice A n c) n xs→e ≠ 5→w.grownBy w' (Value.ownBlock (.slice A n c))→ow w' b x
 mono:∀ x w b b',ow w b x→b'≤b→ow w b' x
structure RowS [RowB α] (w0 w:World) (base:Nat) (e:TypeId) (A:Option Addr) (n c:Nat) (d:Array α):Prop where
 own:w.ownsRow base e (RowT.sz α) (.slice A n c) n (gcs d.toList)
 ow:∀ x ∈ d.toList,RowB.ow w base x
 gr:w0.grownBy w (Value.ownBlock (.slice A n c))
 ne:e ≠ 5
variable [RowB α] {w0 w w':World} {base:Nat} {e:TypeId} {A:Option Addr} {n c:Nat} {d:Array α}
theorem RowS.start (h:w.ownsRow base e (RowT.sz α) (.slice A n c) n (gcs d.toList)) (ho:∀ x ∈ d.toList,RowB.ow w base x) (hne:e ≠ 5):RowS w w base e A n c d:=⟨h,ho,Grown.refl _ _,hne⟩
theorem RowS.size (h:RowS w0 w base e A n c d):d.size=n:=by
 have:=h.own.1
 rw [gcs_length] at this
 have hp:=RowT.pos (α:=α)
 have:=Nat.eq_of_mul_eq_mul_right hp this
 simpa using this
theorem RowS.ext (h:RowS w0 w base e A n c d) (he:Ext w w'):RowS w0 w' base e A n c d:=⟨own_ext h.own he,fun x hx=>RowB.ext _ _ _ _ (h.ow x hx) he,Grown.trans h.gr (Ext.grown he _),h.ne⟩
theorem RowS.at (h:RowS w0 w base e A n c d) (hn:0 < n):∃ g,A=some ⟨g,0,none⟩∧base≤g∧w.rangeAt g 0 (gcs d.toList):=own_at h.own hn
theorem RowS.cell (h:RowS w0 w base e A n c d) {g:Nat} (hA:A=some ⟨g,0,none⟩) {i:Nat} (hi:i < n):w.rangeAt g (i * RowT.sz α) (RowT.enc d[i]!):=by
 obtain ⟨g',hA',_,hr⟩:=h.at (by omega)
 obtain rfl:g=g':=by rw [hA] at hA';injection hA' with h1;injection h1
 have:=el_at (L:=d.toList) (k:=i) hr (by have:=h.size;simp;omega)
 rw [Nat.zero_add] at this
 rw [arr_nth]
 exact this
theorem arr_mem {i:Nat} (hi:i < d.size):d[i]! ∈ d.toList:=by
 rw [getElem!_pos d i hi];exact Array.mem_toList_iff.2 (Array.getElem_mem hi)
theorem RowS.owAt (h:RowS w0 w base e A n c d) {i:Nat} (hi:i < n):RowB.ow w base d[i]!:=h.ow _ (arr_mem (by rw [h.size];exact hi))
theorem RowS.ok (h:RowS w0 w base e A n c d) {i:Nat} (hi:i < n):RowT.ok d[i]! w:=RowB.ok _ _ _ (h.owAt hi)
theorem RowS.there (h:RowS w0 w base e A n c d) {g:Nat} (hA:A=some ⟨g,0,none⟩) {i:Nat} (hi:i < n):w.there g (i * RowT.sz α) (RowT.sz α):=by
 have hl:=h.own.1
 have h1:i * RowT.sz α+RowT.sz α≤n * RowT.sz α:=by
  have:=Nat.mul_le_mul_right (RowT.sz α) (show i+1≤n from hi)
  rwa [Nat.add_mul,Nat.one_mul] at this
 have ho:=h.own
 subst hA
 intro j hj
 exact ⟨by rw [ho.cellAt (i * RowT.sz α+j) (by omega),List.getElem?_eq_getElem (by omega)];rfl,ho.frozenAt _⟩
theorem RowS.set (h:RowS w0 w base e A n c d) {g:Nat} (hA:A=some ⟨g,0,none⟩) {i:Nat} (hi:i < n) (x:α) (hx:RowB.ow w base x):RowS w0 (w.setCells g (i * RowT.sz α) (RowT.enc x)) base e A n c (d.setIfInBounds i x):=by
 have hs:=h.size
 have ho:=h.own
 subst hA
 obtain ⟨h1,h2⟩:=own_splice (RowT.enc x) (i * RowT.sz α) w (gcs d.toList) (by
  rw [RowT.len,gcs_length]
  have:=Nat.mul_le_mul_right (RowT.sz α) (show i+1≤d.toList.length from by simp;omega)
  rwa [Nat.add_mul,Nat.one_mul] at this) ho
 rw [gcs_set _ _ _ (by simp;omega)] at h1
 refine ⟨by rw [Array.toList_setIfInBounds];exact h1,fun y hy=>?_,Grown.trans h.gr h2,h.ne⟩
 rw [Array.toList_setIfInBounds] at hy
 rcases List.mem_or_eq_of_mem_set hy with hy | rfl
 ·exact RowB.kept _ _ _ _ _ _ _ _ _ _ _ (h.ow y hy) ho h.ne h2
 ·exact RowB.kept _ _ _ _ _ _ _ _ _ _ _ hx ho h.ne h2
theorem RowS.keep (h:RowS w0 w base e A n c d) {g:Nat} (hA:A=some ⟨g,0,none⟩) (o:Nat) (vs:List Value) {x:α} (hx:RowB.ow w base x):RowB.ow (w.setCells g o vs) base x:=by
 have ho:=h.own
 subst hA
 exact RowB.kept _ _ _ _ _ _ _ _ _ _ _ hx ho h.ne (grown_setCells' _ _ _ _)
theorem RowS.swap (h:RowS w0 w base e A n c d) {g:Nat} (hA:A=some ⟨g,0,none⟩) {i j:Nat} (hi:i < n) (hj:j < n) :
  RowS w0 ((w.setCells g (i * RowT.sz α) (RowT.enc d[j]!)).setCells g (j * RowT.sz α) (RowT.enc d[i]!)) base e A n c (Sort.swp d i j) :=
 (h.set hA hi _ (h.owAt hj)).set hA hj _ (h.keep hA _ _ (h.owAt hi))
theorem RowS.trans {w1:World} (h:RowS w0 w1 base e A n c d) {d':Array α} (k:RowS w1 w base e A n c d'):RowS w0 w base e A n c d':=⟨k.own,k.ow,Grown.trans h.gr k.gr,k.ne⟩
end
end Go.Proofs.YtohmmcahpakokaaGreat
namespace Go.Proofs.YtohmmcahpakokaaGreat
open Go.Shelf
def sortCe_ren:Go.Shelf.Ren:=⟨fun | 6=>64 | 15=>125 | 14=>124 | 28=>190 | 29=>191 | 20=>182 | 21=>183 | 22=>184 | 23=>185 | 24=>186 | 25=>187 | 26=>188 | 27=>189 | 46=>231 | 47=>232 | 48=>233 | 49=>234 | 50=>235 | 57=>253 | n=>n,fun | 22=>96 | 24=>32 | 25=>98 | 3=>3 | 39=>145 | 0=>0 | 53=>202 | 55=>148 | 4=>4 | 46=>196 | 45=>195 | 50=>165 | 5=>5 | 9=>9 | 66=>230 | 70=>234 | 76=>243 | 77=>244 | n=>n,fun | n=>n⟩
theorem sortCe:Go.Proofs.SlLaysF0.n6 Tryz.prog sortCe_ren:={
 mixed:=by kernel_rfl
 f6:=⟨Tryz.f64.name,by decide,Tryz.func64.trans (congrArg some (by kernel_rfl))⟩
 f14:=⟨Tryz.f124.name,by decide,Tryz.func124.trans (congrArg some (by kernel_rfl))⟩
 f15:=Tryz.func125.trans (congrArg some (by kernel_rfl))
 f20:=⟨Tryz.f182.name,by decide,Tryz.func182.trans (congrArg some (by kernel_rfl))⟩
 f21:=⟨Tryz.f183.name,by decide,Tryz.func183.trans (congrArg some (by kernel_rfl))⟩
 f22:=⟨Tryz.f184.name,by decide,Tryz.func184.trans (congrArg some (by kernel_rfl))⟩
 f23:=⟨Tryz.f185.name,by decide,Tryz.func185.trans (congrArg some (by kernel_rfl))⟩
 f24:=⟨Tryz.f186.name,by decide,Tryz.func186.trans (congrArg some (by kernel_rfl))⟩
 f25:=⟨Tryz.f187.name,by decide,Tryz.func187.trans (congrArg some (by kernel_rfl))⟩
 f26:=⟨Tryz.f188.name,by decide,Tryz.func188.trans (congrArg some (by kernel_rfl))⟩
 f27:=⟨Tryz.f189.name,by decide,Tryz.func189.trans (congrArg some (by kernel_rfl))⟩
 f28:=Tryz.func190.trans (congrArg some (by kernel_rfl))
 f29:=Tryz.func191.trans (congrArg some (by kernel_rfl))
 f46:=⟨Tryz.f231.name,by decide,Tryz.func231.trans (congrArg some (by kernel_rfl))⟩
 f47:=Tryz.func232.trans (congrArg some (by kernel_rfl))
 f48:=Tryz.func233.trans (congrArg some (by kernel_rfl))
 f49:=⟨Tryz.f234.name,by decide,Tryz.func234.trans (congrArg some (by kernel_rfl))⟩
 f50:=⟨Tryz.f235.name,by decide,Tryz.func235.trans (congrArg some (by kernel_rfl))⟩
 f57:=⟨Tryz.f253.name,by decide,Tryz.func253.trans (congrArg some (by kernel_rfl))⟩
 t0:=Tryz.underlying0
 a0:=Tryz.isAgg0
 z0:=Tryz.sizeOf0
 v0:=Tryz.zeroValue0
 t3:=Tryz.underlying3
 a3:=Tryz.isAgg3
 z3:=Tryz.sizeOf3
 v3:=Tryz.zeroValue3
 t4:=Tryz.underlying4
 a4:=Tryz.isAgg4
 z4:=Tryz.sizeOf4
 v4:=Tryz.zeroValue4
 t5:=Tryz.underlying5
 a5:=Tryz.isAgg5
 z5:=Tryz.sizeOf5
 v5:=Tryz.zeroValue5
 t9:=Tryz.underlying9
 a9:=Tryz.isAgg9
 z9:=Tryz.sizeOf9
 v9:=Tryz.zeroValue9
 t22:=Tryz.underlying96
 a22:=Tryz.isAgg96
 z22:=Tryz.sizeOf96
 v22:=Tryz.zeroValue96
 t25:=Tryz.underlying98
 a25:=Tryz.isAgg98
 z25:=Tryz.sizeOf98
 v25:=Tryz.zeroValue98
 t39:=Tryz.underlying145
 a39:=Tryz.isAgg145
 z39:=Tryz.sizeOf145
 v39:=Tryz.zeroValue145
 t45:=Tryz.underlying195
 a45:=Tryz.isAgg195
 z45:=Tryz.sizeOf195
 v45:=Tryz.zeroValue195
 t46:=Tryz.underlying196
 a46:=Tryz.isAgg196
 z46:=Tryz.sizeOf196
 v46:=Tryz.zeroValue196
 t50:=Tryz.underlying165
 a50:=Tryz.isAgg165
 z50:=Tryz.sizeOf165
 v50:=Tryz.zeroValue165
 t53:=Tryz.underlying202
 a53:=Tryz.isAgg202
 z53:=Tryz.sizeOf202
 v53:=Tryz.zeroValue202
 t55:=Tryz.underlying148
 a55:=Tryz.isAgg148
 z55:=Tryz.sizeOf148
 v55:=Tryz.zeroValue148
 t66:=Tryz.underlying230
 a66:=Tryz.isAgg230
 z66:=Tryz.sizeOf230
 v66:=Tryz.zeroValue230
 t70:=Tryz.underlying234
 a70:=Tryz.isAgg234
 z70:=Tryz.sizeOf234
 v70:=Tryz.zeroValue234
 t76:=Tryz.underlying243
 a76:=Tryz.isAgg243
 z76:=Tryz.sizeOf243
 v76:=Tryz.zeroValue243
 t77:=Tryz.underlying244
 a77:=Tryz.isAgg244
 z77:=Tryz.sizeOf244
 v77:=Tryz.zeroValue244 }
end Go.Proofs.YtohmmcahpakokaaGreat
namespace Go.Proofs.YtohmmcahpakokaaGreat
open Go.RowKit
def lexI:List Int→List Int→Bool
 | x :: r,y :: s=>if x=y then lexI r s else decide (x < y)
 | _,_=>false
theorem lexI_irrefl (l:List Int):lexI l l=false:=by
 induction l with
 | nil=>rfl
 | cons x r ih=>simp [lexI,ih]
theorem lexI_trans:∀ (a b c:List Int),lexI a b=true→lexI b c=true→lexI a c=true
 | [],_,_,h,_=>by simp [lexI] at h
 | _ :: _,[],_,h,_=>by simp [lexI] at h
 | _ :: _,_ :: _,[],_,h=>by simp [lexI] at h
 | x :: r,y :: s,z :: t,h1,h2=>by
  unfold lexI at h1 h2 ⊢
  have ih:=lexI_trans r s t
  by_cases c1:x=y
  ·subst c1
   rw [if_pos rfl] at h1
   by_cases c2:x=z
   ·subst c2;rw [if_pos rfl] at h2 ⊢;exact ih h1 h2
   ·rw [if_neg c2] at h2 ⊢;exact h2
  ·rw [if_neg c1] at h1
   have h1':=of_decide_eq_true h1
   by_cases c2:y=z
   ·subst c2;rw [if_neg c1];exact h1
   ·rw [if_neg c2] at h2
    have h2':=of_decide_eq_true h2
    rw [if_neg (by omega)];exact decide_eq_true (by omega)
theorem lexI_total:∀ (a b:List Int),a.length=b.length→lexI a b=false→lexI b a=false→a=b
 | [],[],_,_,_=>rfl
 | [],_ :: _,h,_,_=>by simp at h
 | _ :: _,[],h,_,_=>by simp at h
 | x :: r,y :: s,h,h1,h2=>by
  unfold lexI at h1 h2
  have ih:=lexI_total r s (by simpa using h)
  by_cases e:x=y
  ·subst e;simp at h1 h2;rw [ih h1 h2]
  ·rw [if_neg e] at h1;rw [if_neg (fun h=>e h.symm)] at h2;simp at h1 h2;omega
end Go.Proofs.YtohmmcahpakokaaGreat
namespace Go.Proofs.YtohmmcahpakokaaGreat
open Go.RowKit
attribute [local go_sem ↓] Go.wp_at_zero Go.wp_at_succ
end Go.Proofs.YtohmmcahpakokaaGreat
namespace Go.Proofs.YtohmmcahpakokaaGreat
open Go.RowKit
attribute [local go_sem ↓] Go.wp_at_zero Go.wp_at_succ
theorem beI_one (z:Int):beI 1 z=[toB z]:=by
 unfold beI beBytes beBytes toB
 simp only [List.nil_append]
 congr 2
 omega
theorem refNum1_any (A:Option Addr) (n c:Nat) (l:List UInt8) (z:Int) (w:World) (h:SlB w A n c l) (hn:n≤140737488351232) :
  Calls Tryz.prog 86 #[.slice A n c,.int .i64 z,.int .i64 1] w fun e w'=>∃ A' c',e=.returned (.slice A' (n+1) c')∧OwnB w' w.heap.size 5 A' (n+1) c' (l ++ [toB z])∧Ext w w':=by
 rw [← beI_one];exact refNum_any A n c l z 1 (by omega) (by omega) w h hn
end Go.Proofs.YtohmmcahpakokaaGreat
namespace Go.Proofs.YtohmmcahpakokaaGreat
open Go.RowKit
def ofV (v:OpV):OpR:=⟨v.k,v.tO,v.am,v.ul,v.va,v.lk,v.hs,none,v.pre.length,0,v.pre,none,v.prf.length,0,v.prf⟩
theorem encOp_v {R Q:OpR} (h:R.v=Q.v):encOp R=encOp Q:=by
 unfold OpR.v at h
 injection h with h1 h2 h3 h4 h5 h6 h7 h8 h9
 unfold encOp
 rw [h1,h2,h3,h4,h5,h6,h7,h8,h9]
theorem encOps_v {L M:List OpR} (h:L.map OpR.v=M.map OpR.v):encOps L=encOps M:=by
 have e:∀ K:List OpR,encOps K=((K.map OpR.v).map ofV).flatMap encOp:=fun K=>by
  unfold encOps
  induction K with
  | nil=>rfl
  | cons R r ih =>
   rw [List.flatMap_cons,ih]
   simp only [List.map_cons,List.flatMap_cons]
   rw [show encOp (ofV R.v)=encOp R from encOp_v rfl]
 rw [e L,e M,h]
theorem run_storeOver {w:World} {g:Nat} {t:TypeId} {n:UInt64} (h:Blk w g t (nmc n)) (r:UInt64):(storeCells ⟨g,0,none⟩ (nmc r).toList).run Tryz.prog w=.ok () (w.setCells g 0 (nmc r).toList):=by
 have hl:(nmc r).toList.length=8:=by rw [nmc_toList,bcs_length,nmb_length]
 have:=run_storeCells_cells (P:=Tryz.prog) g 0 (nmc r).toList 0 w (fun j hj=>by rw [Nat.add_zero,Nat.zero_add,h.cell j,Array.getElem?_eq_getElem (by rw [nmc_size];omega)];rfl) (fun j hj=>h.frozen _) (by rw [nmc_toList];exact bcs_one _)
 exact this
theorem verify_one (pub m:UInt64) (A:Option Addr) (n c:Nat) (l:List UInt8) (w:World) (h:SlB w A n c l) (hn:n=186) (hlf:numAt l 0 2 < 32) :
  Calls Tryz.prog 145 #[.agg (nmc pub),.int .i64 1,.agg (nmc m),.slice A n c] w fun e w'=>e=.returned (.bool (decide (climbU l 2 (numAt l 0 2 % 32) m=pub)))∧Ext w w':=by
 subst hn
 have hE:=((Ext.refl w).alloc' (.cells (nmc pub) 30)).alloc' (.cells (nmc m) 30)
 have hbp:=(Blk.new w 30 (nmc pub)).alloc (.cells (nmc m) 30)
 have hbm:Blk ((w.alloc (.cells (nmc pub) 30)).alloc (.cells (nmc m) 30)) (w.heap.size+1) 30 (nmc m):=Blk.newAt _ _ _ _ (by simp)
 have HE:=zh hE
 have HP:=zh hbp
 have hrm:=rangeN hbm
 have HL:=zh (leaf_yes A 186 c l _ (h.ext HE.out) (by omega))
 have HH:=zh (h.ext HE.out)
 have hcap:=h.cap
 clear h hE hbp hbm
 generalize hx:numAt l 0 2=x at *
 clear hx
 have hq:=fun w=>run_eqN (climbU l 2 (x % 32) m) pub w
 go_enter Tryz.func145,Tryz.ntmps145
 go_wp2_with fail
 refine HL.out.mono ?_
 rintro e w1 ⟨rfl,rfl⟩
 go_wp2_with (first | (go_at_call 200;refine (size_any 1 _).mono ?_;rintro e w1 ⟨rfl,rfl⟩;rw [show sizeZ 1=186 from rfl]) | (go_at_call 201;refine (capacity_any 1 _).mono ?_;rintro e w1 ⟨rfl,rfl⟩;rw [show capZ 1=32 from rfl]) | (with_reducible refine wpList_loadN rfl (.tmp 6) rfl (w.heap.size+1) 0 rfl m hrm ?_))
 refine (climbed_at A 186 c l 2 (x % 32) _ _ rfl (by omega) m _ HH.out (by omega) (by omega) (by omega)).mono ?_
 rintro e w2 ⟨rfl,he2⟩
 have HP2:=zh (HP.out.ext he2)
 have HE2:=zh (HE.out.trans he2)
 clear hrm he2
 generalize hr0:climbU l 2 (x % 32) m=r at *
 have HR0:=zh hr0
 clear hr0
 have hst:=run_storeNewN w2 w2.heap.size rfl r
 have hr:=rangeN (Blk.new w2 30 (nmc r))
 have hp:=rangeN (HP2.out.alloc (.cells (nmc r) 30))
 go_wp2_with (first | (with_reducible refine wpList_loadN rfl (.tmp 11) rfl w2.heap.size 0 rfl r hr ?_) | (with_reducible refine wpList_loadN rfl (.tmp 4) rfl w.heap.size 0 rfl pub hp ?_))
 go_ret
 exact ⟨by rw [HR0.out];rfl,HE2.out.alloc' _⟩
theorem verify_two (pub m:UInt64) (A:Option Addr) (n c:Nat) (l:List UInt8) (w:World) (h:SlB w A n c l) (hn:n=370) (hlf:numAt l 0 2 < 1024) :
  Calls Tryz.prog 145 #[.agg (nmc pub),.int .i64 2,.agg (nmc m),.slice A n c] w fun e w'=>e=.returned (.bool (decide (climbU l 186 (numAt l 0 2 / 32) (climbU l 2 (numAt l 0 2 % 32) m)=pub)))∧Ext w w':=by
 subst hn
 have hE:=((Ext.refl w).alloc' (.cells (nmc pub) 30)).alloc' (.cells (nmc m) 30)
 have hbp:=(Blk.new w 30 (nmc pub)).alloc (.cells (nmc m) 30)
 have hbm:Blk ((w.alloc (.cells (nmc pub) 30)).alloc (.cells (nmc m) 30)) (w.heap.size+1) 30 (nmc m):=Blk.newAt _ _ _ _ (by simp)
 have HE:=zh hE
 have HP:=zh hbp
 have hrm:=rangeN hbm
 have HL:=zh (leaf_yes A 370 c l _ (h.ext HE.out) (by omega))
 have HH:=zh (h.ext HE.out)
 have hcap:=h.cap
 clear h hE hbp hbm
 generalize hx:numAt l 0 2=x at *
 clear hx
 go_enter Tryz.func145,Tryz.ntmps145
 go_wp2_with fail
 refine HL.out.mono ?_
 rintro e w1 ⟨rfl,rfl⟩
 go_wp2_with (first | (go_at_call 200;refine (size_any 2 _).mono ?_;rintro e w1 ⟨rfl,rfl⟩;rw [show sizeZ 2=370 from rfl]) | (go_at_call 201;refine (capacity_any 2 _).mono ?_;rintro e w1 ⟨rfl,rfl⟩;rw [show capZ 2=1024 from rfl]) | (with_reducible refine wpList_loadN rfl (.tmp 6) rfl (w.heap.size+1) 0 rfl m hrm ?_))
 refine (climbed_at A 370 c l 2 (x % 32) _ _ rfl (by omega) m _ HH.out (by omega) (by omega) (by omega)).mono ?_
 rintro e w2 ⟨rfl,he2⟩
 have HP2:=zh (HP.out.ext he2)
 have HE2:=zh (HE.out.trans he2)
 have HH2:=zh (HH.out.ext he2)
 clear hrm he2
 generalize hr0:climbU l 2 (x % 32) m=r at *
 have HR0:=zh hr0
 clear hr0
 have hst:=run_storeNewN w2 w2.heap.size rfl r
 have hA:=(Ext.refl w2).alloc' (.cells (nmc r) 30)
 have HB:=zh (Blk.new w2 30 (nmc r))
 have hr:=rangeN HB.out
 have HH3:=zh (HH2.out.ext hA)
 have HP3:=zh (HP2.out.ext hA)
 have HE3:=zh (HE2.out.trans hA)
 clear hA
 go_wp2_with (with_reducible refine wpList_loadN rfl (.tmp 11) rfl w2.heap.size 0 rfl r hr ?_)
 clear hr hst
 generalize w2.alloc (.cells (nmc r) 30)=W2 at *
 refine (climbed_at A 370 c l 186 (x / 32) _ _ rfl (by omega) r _ HH3.out (by omega) (by omega) (by omega)).mono ?_
 rintro e w3 ⟨rfl,he3⟩
 have HB3:=zh (HB.out.ext he3)
 have HP4:=zh (HP3.out.ext he3)
 have HE4:=zh (HE3.out.trans he3)
 have hlt:=HP.out.lt
 have hne:w.heap.size ≠ w2.heap.size:=by have:=HE2.out.size;have:=HP2.out.lt;omega
 clear he3
 generalize hr1:climbU l 186 (x / 32) r=r2 at *
 have HR1:=zh hr1
 clear hr1
 have hq:=fun w=>run_eqN r2 pub w
 have hst:=run_storeOver HB3.out r2
 have hr2:=rangeN (blkN' HB3.out r2)
 have hp2:=rangeN (HP4.out.setCells_far hne (nmc r2).toList 0)
 go_wp2_with (first | (with_reducible refine wpList_loadN rfl (.tmp 11) rfl w2.heap.size 0 rfl r2 hr2 ?_) | (with_reducible refine wpList_loadN rfl (.tmp 4) rfl w.heap.size 0 rfl pub hp2 ?_))
 go_ret
 exact ⟨by rw [HR0.out,HR1.out];rfl,Below.setCells' HE4.out HE2.out.size _ _⟩
theorem verify_any (pub m:UInt64) (lv:Int) (A:Option Addr) (n c:Nat) (l:List UInt8) (w:World) (h:SlB w A n c l) :
  Calls Tryz.prog 145 #[.agg (nmc pub),.int .i64 lv,.agg (nmc m),.slice A n c] w fun e w'=>e=.returned (.bool (verU pub lv m l))∧Ext w w':=by
 have hlen:=h.len
 by_cases hs:sizeZ lv=(n:Int)
 ·by_cases hc : capZ lv ≤ (numAt l 0 2 : Int)
  ·rw [verU_far pub lv m l hc]
   exact verify_no pub m lv A n c l w h (.inr (.inr hc))
  ·by_cases h1 : lv = 1
   ·subst h1
    have hn:n=186:=by have:(186:Int)=(n:Int):=hs;omega
    have hlf:numAt l 0 2 < 32:=by have:¬ (32:Int)≤(numAt l 0 2:Int):=hc;omega
    have hv:verU pub 1 m l=decide (climbU l 2 (numAt l 0 2 % 32) m=pub):=by
     unfold verU;rw [if_pos rfl,decide_eq_true (show l.length=186 by omega),decide_eq_true hlf];rfl
    rw [hv]
    exact verify_one pub m A n c l w h hn hlf
   ·by_cases h2 : lv = 2
    ·subst h2
     have hn:n=370:=by have:(370:Int)=(n:Int):=hs;omega
     have hlf:numAt l 0 2 < 1024:=by have:¬ (1024:Int)≤(numAt l 0 2:Int):=hc;omega
     have hv:verU pub 2 m l=decide (climbU l 186 (numAt l 0 2 / 32) (climbU l 2 (numAt l 0 2 % 32) m)=pub):=by
      unfold verU;rw [if_neg (by decide),if_pos rfl,decide_eq_true (show l.length=370 by omega),decide_eq_true hlf];rfl
     rw [hv]
     exact verify_two pub m A n c l w h hn hlf
    ·exact absurd (show capZ lv≤(numAt l 0 2:Int) by rw [show capZ lv=0 from by simp [capZ,h1,h2]];omega) hc
 ·rw [verU_short pub lv m l (by rw [hlen]; exact hs)]
  exact verify_no pub m lv A n c l w h (.inr (.inl hs))
end Go.Proofs.YtohmmcahpakokaaGreat
