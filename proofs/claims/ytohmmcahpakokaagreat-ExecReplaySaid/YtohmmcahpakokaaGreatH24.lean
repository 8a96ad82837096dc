/- A sorted row without its repetitions is the ascending row (plain). -/
import Derived.Shelf.SlSortCmp.WholeK
import Derived.Shelf.SlSortCmp.NoneTotal
import Derived.Test.YtohmmcahpakokaaGreatH22
import Derived.Test.YtohmmcahpakokaaGreatH23
set_option maxRecDepth 100000
set_option maxHeartbeats 8000000
set_option linter.unusedSectionVars false
set_option linter.unusedVariables false
set_option linter.unusedSimpArgs false
namespace Go.Proofs.YtohmmcahpakokaaGreat
section
open Go.RowKit
section
variable {α β:Type} [RowT α] [DecidableEq β] {V:α→β} {lt0:α→α→Bool} {lt:β→β→Bool} {d d':Array α} {n:Nat}
theorem aIQ (hlt:∀ x y,lt0 x y=lt (V x) (V y)) (hn:d'.size=n) (hs:Sort.SortedIn lt0 0 n d'):Wsc lt (d'.toList.map V):=by
 unfold Wsc
 rw [List.pairwise_iff_getElem]
 intro i j hi hj hij
 simp only [List.length_map,Array.length_toList] at hi hj
 have:=hs i j (Nat.zero_le _) hij (by omega)
 rw [hlt,getElem!_pos d' i hi,getElem!_pos d' j hj] at this
 simpa using this
theorem aBk (hd:d.size=n) (hp:Sort.PermIn 0 n d d') (y:β):y ∈ d'.toList.map V ↔ y ∈ d.toList.map V:=by
 obtain ⟨h1,h2,h3⟩:=hp
 have e1:d'.extract 0 n=d':=by rw [← hd,← h1];exact Array.extract_size
 have e2:d.extract 0 n=d:=by rw [← hd];exact Array.extract_size
 rw [e1,e2] at h3
 exact (h3.map V).mem_iff
theorem sM (hS:STO lt) (hlt:∀ x y,lt0 x y=lt (V x) (V y)) (hd:d.size=n) (hp:Sort.PermIn 0 n d d') (hs:Sort.SortedIn lt0 0 n d'):compO (d'.toList.map V)=oU lt (d.toList.map V) :=
 aBL hS (aIQ hlt (by rw [hp.1,hd]) hs) (aBk hd hp)
end
def cov1 (C:List DeR) (c:CeR):List DeR :=
 if cY C bV≤0 ∨ 0≤cY C c then C
 else addL C (cU bV c (if - cY C bV < cY C c then - cY C c else cY C bV))
def mT (c:CeR):Bool:=decide (1≤c.k∧c.k≤3)
def aHT (C:List DeR):List CeR:=oU gR ((C.map DeR.c).filter mT)
def aKl (C:List DeR):List DeR:=(aHT C).foldl cov1 C
def aHS (S:StV):StV:=⟨aKl S.C,S.Q,S.K,S.P,S.G⟩
structure St3 where
 C:List DeR
 Q:List Int
 P:List UInt64
theorem aGj (Q:List Int) (a s:Int):(pP Q a s).length=Q.length:=by unfold pP;split <;> simp
def StV.s3 (S:StV):St3:=⟨S.C,S.Q,S.P⟩
def mZ (okG:Bool) (na:Nat) (sg:Bool) (S:StV) (ac sq:Int) (L:List OpR):Int :=
 if vTx ac sq L=false ∨ okG=false ∨ (na:Int)≤ac ∨ S.Q.length ≠ na then 1
 else if sg=false then 8
 else if bG ac sq L ∈ S.P then 7
 else if sq ≠ S.Q.getD ac.toNat 0 then 101
 else 0
def qG (chk:OpR→StV→Int) (okG:Bool) (na:Nat) (sg:Bool) (S:StV) (ac sq:Int) (L:List OpR):Int :=
 if mZ okG na sg S ac sq L ≠ 0 then mZ okG na sg S ac sq L else errN chk ac sq L S L.length
def aJl (S:StV) (ac sq:Int) (L:List OpR):StV :=
 ⟨(doN ac sq L S L.length).C,(doN ac sq L S L.length).Q.set ac.toNat (sq+1),(doN ac sq L S L.length).K,cE (doN ac sq L S L.length).P (bG ac sq L),(doN ac sq L S L.length).G⟩
def xA (chk:OpR→StV→Int) (okG:Bool) (na:Nat) (sg:Bool) (S:StV) (ac sq:Int) (L:List OpR):StV :=
 if qG chk okG na sg S ac sq L=0 then aJl S ac sq L else S
section
variable {chk:OpR→StV→Int} {okG:Bool} {na:Nat} {sg:Bool} {S:StV} {ac sq:Int} {L:List OpR}
theorem aIh (h:mZ okG na sg S ac sq L=0):vTx ac sq L=true∧okG=true∧ac < (na:Int)∧S.Q.length=na∧sg=true∧bG ac sq L ∉ S.P∧sq=S.Q.getD ac.toNat 0:=by
 unfold mZ at h
 split at h
 ·cases h
 rename_i h1
 split at h
 ·cases h
 rename_i h2
 split at h
 ·cases h
 rename_i h3
 split at h
 ·cases h
 rename_i h4
 simp only [not_or,Bool.not_eq_false,Decidable.not_not] at h1 h2 h4
 exact ⟨h1.1,h1.2.1,by omega,h1.2.2.2,h2,h3,h4⟩
end
theorem aGP (g:Int) {k:Nat} (hk:k≤9):(BitVec.ofInt 64 g).getLsbD k=fN g k:=by
 have h1:(BitVec.ofInt 64 g).toNat=(g % 2 ^ 64).toNat:=by simp [BitVec.toNat_ofInt]
 show (BitVec.ofInt 64 g).toNat.testBit k=_
 rw [Nat.testBit_eq_decide_div_mod_eq,h1]
 unfold fN
 have h2:(0:Int)≤g % 2 ^ 64:=Int.emod_nonneg _ (by decide)
 apply decide_eq_decide.2
 obtain rfl | rfl | rfl | rfl | rfl | rfl | rfl | rfl | rfl | rfl:k=0 ∨ k=1 ∨ k=2 ∨ k=3 ∨ k=4 ∨ k=5 ∨ k=6 ∨ k=7 ∨ k=8 ∨ k=9:=by omega
 all_goals omega
theorem aDf {k:Nat} (hk:k≤9):BitVec.ofInt 64 ((2:Int) ^ k)=BitVec.twoPow 64 k:=by
 obtain rfl | rfl | rfl | rfl | rfl | rfl | rfl | rfl | rfl | rfl:k=0 ∨ k=1 ∨ k=2 ∨ k=3 ∨ k=4 ∨ k=5 ∨ k=6 ∨ k=7 ∨ k=8 ∨ k=9:=by omega
 all_goals rfl
theorem jJ (g:Int) {k:Nat} (hk:k≤9):bits .and .i64 g (2 ^ k)=if fN g k=true then 2 ^ k else 0:=by
 show IntKind.i64.wrap ((BitVec.ofInt 64 g &&& BitVec.ofInt 64 (2 ^ k)).toNat:Int)=_
 rw [aDf hk,BitVec.and_twoPow,aGP g hk]
 by_cases h:fN g k=true
 ·rw [if_pos h, if_pos h]
  obtain rfl | rfl | rfl | rfl | rfl | rfl | rfl | rfl | rfl | rfl:k=0 ∨ k=1 ∨ k=2 ∨ k=3 ∨ k=4 ∨ k=5 ∨ k=6 ∨ k=7 ∨ k=8 ∨ k=9:=by omega
  all_goals rfl
 rw [if_neg h,if_neg h];rfl
theorem tC {G:Int} (h:wfI G) {k:Nat} (hk:k≤9):wfI (lT G k):=by
 unfold lT fN
 by_cases h1:G / 2 ^ k % 2=1
 ·rw [if_pos (by simpa using h1)];exact h
 rw [if_neg (by simpa using h1)]
 rw [eZ] at *
 unfold mU at *
 obtain rfl | rfl | rfl | rfl | rfl | rfl | rfl | rfl | rfl | rfl:k=0 ∨ k=1 ∨ k=2 ∨ k=3 ∨ k=4 ∨ k=5 ∨ k=6 ∨ k=7 ∨ k=8 ∨ k=9:=by omega
 all_goals omega
theorem sE {g:Int} (hg:wfI g) {k:Nat} (hk:k≤9):bits .or .i64 g (2 ^ k)=lT g k:=by
 have hw:∀ z:Int,wfI z→IntKind.i64.wrap (((BitVec.ofInt 64 z).toNat:Nat):Int)=z:=by
  intro z hz
  have h1:(((BitVec.ofInt 64 z).toNat:Nat):Int)=z % 2 ^ 64:=by
   rw [BitVec.toNat_ofInt]
   exact Int.toNat_of_nonneg (Int.emod_nonneg _ (by decide))
  rw [h1]
  rw [eZ] at hz
  unfold mU at hz
  rw [IntKind.wrap_i64]
  omega
 show IntKind.i64.wrap ((BitVec.ofInt 64 g ||| BitVec.ofInt 64 (2 ^ k)).toNat:Int)=_
 have h0:=aGP g hk
 unfold lT
 by_cases h:fN g k=true
 ·rw [if_pos h]
  have:BitVec.ofInt 64 g ||| BitVec.ofInt 64 (2 ^ k)=BitVec.ofInt 64 g:=by
   rw [aDf hk]
   apply BitVec.eq_of_getLsbD_eq
   intro i hi
   rw [BitVec.getLsbD_or,BitVec.getLsbD_twoPow]
   by_cases e:k=i
   ·subst e;rw [h0,h];rfl
   simp [e]
  rw [this];exact hw g hg
 rw [if_neg h]
 have h2:fN g k=false:=by simpa using h
 have:BitVec.ofInt 64 g ||| BitVec.ofInt 64 (2 ^ k)=BitVec.ofInt 64 (g+2 ^ k):=by
  rw [BitVec.ofInt_add]
  refine (BitVec.add_eq_or_of_and_eq_zero _ _ ?_).symm
  rw [aDf hk,BitVec.and_twoPow,h0,h2];rfl
 rw [this]
 refine hw _ ?_
 have:=tC hg hk
 unfold lT at this;rwa [if_neg h] at this
theorem aBN (a b:CeR):decide (jV a b < 0)=gR a b:=by
 unfold jV gT gR vR
 rcases Int.lt_trichotomy a.k b.k with h | h | h
 ·rw [iS h,if_pos (by decide),hI,if_neg (by omega),decide_eq_true h];rfl
 ·rw [h, iU, if_neg (by decide), hI, if_pos rfl]
  rcases Int.lt_trichotomy a.id b.id with h2 | h2 | h2
  ·rw [iS h2,if_pos (by decide),hI,if_neg (by omega),decide_eq_true h2];rfl
  ·rw [h2, iU, if_neg (by decide), hI, if_pos rfl, hI]
   rcases Int.lt_trichotomy (un a.lk) (un b.lk) with h3 | h3 | h3
   ·rw [iS h3,if_neg (by omega),decide_eq_true h3];rfl
   ·rw [h3,iU,if_pos rfl];rfl
   rw [iT h3,if_neg (by omega),decide_eq_false (by omega:¬ un a.lk < un b.lk)];rfl
  rw [iT h2,if_pos (by decide),hI,if_neg (by omega),decide_eq_false (by omega:¬ a.id < b.id)];rfl
 rw [iT h,if_pos (by decide),hI,if_neg (by omega),decide_eq_false (by omega:¬ a.k < b.k)];rfl
section
variable {α:Type} [RowT α]
theorem xZ (d:Array α):Sort.flatK RowT.enc (RowT.sz α) d=(gcs d.toList).toArray:=by
 have hl:(gcs d.toList).length=d.size * RowT.sz α:=by rw [aH];simp
 refine Sort.ext_get! (by simp [hl]) (fun t ht=>?_)
 have ht':t < d.size * RowT.sz α:=by simpa using ht
 rw [Sort.get_flatK _ _ _ _ ht']
 have hp:=RowT.pos (α:=α)
 have hq:t / RowT.sz α < d.size:=Nat.div_lt_of_lt_mul (by rwa [Nat.mul_comm] at ht')
 have hm:=Nat.mod_lt t hp
 have h1:=aGz (L:=d.toList) (k:=t / RowT.sz α) (by simpa using hq)
 rw [qO,← h1]
 have hlen:(List.take (RowT.sz α) (List.drop (t / RowT.sz α * RowT.sz α) (gcs d.toList))).length=RowT.sz α:=by rw [h1,RowT.len]
 rw [getElem!_pos _ _ (by rw [hlen];exact hm),List.getElem_take,List.getElem_drop,getElem!_pos _ _ (by simp [hl];exact ht'),List.getElem_toArray]
 congr 1
 have:=Nat.div_add_mod t (RowT.sz α)
 rw [Nat.mul_comm] at this
 exact this
end
theorem aBy {w:World} {g n:Nat} {os:Array Obj} (d:Array Value):w.grownBy (sortWorld id w g 0 n d os) (some g):=by
 unfold sortWorld
 refine ⟨rfl,rfl,rfl,by simp,fun k hk hne=>?_⟩
 rw [Sort.heap_grow_old _ _ (by simpa using hk)]
 have:g ≠ k:=fun e=>hne (by rw [e])
 simp [Sort.putRow,Sort.mapBlock,Sort.ahead,Array.getElem?_modify,this]
theorem aGw {w:World} {g n:Nat} {os:Array Obj} {cur:Array Value} {e:TypeId} {fr:Nat × Nat} (d:Array Value) (hb:w.heap[g]?=some (.cells cur e fr)) :
  (sortWorld id w g 0 n d os).heap[g]?=some (.cells (Sort.putCells id 0 d cur) e fr):=by
 have hg:g < w.heap.size:=(Array.getElem?_eq_some_iff.1 hb).1
 unfold sortWorld
 rw [Sort.heap_grow_old _ _ (by simpa using hg)]
 simp [Sort.putRow,Sort.mapBlock,Sort.ahead,Array.getElem?_modify,hb,Sort.onCells]
theorem aEl (cur d:Array Value) (h:d.size≤cur.size):(Sort.putCells id 0 d cur).toList.take d.size=d.toList:=by
 apply List.ext_getElem?
 intro j
 by_cases hj:j < d.size
 ·rw [List.getElem?_take_of_lt hj, Array.getElem?_toList]
  simp [Sort.putCells,hj,show j < cur.size by omega]
 rw [List.getElem?_take_eq_none (by omega),List.getElem?_eq_none (by simp;omega)]
theorem aHr {w:World} {base g c n m size:Nat} {e:TypeId} {os:Array Obj} {xs:List Value} (d:Array Value) (hd:d.size=n * size) (h:w.ownsRow base e size (.slice (some ⟨g,0,none⟩) n c) n xs) :
  (sortWorld id w g 0 m d os).ownsRow base e size (.slice (some ⟨g,0,none⟩) n c) n d.toList:=by
 have hl:=h.1
 rcases h.2 with ⟨hv,_⟩ | ⟨g',cap,cur,hv,hb,hh,hn,hm,hs,ht⟩
 ·cases hv
 cases hv
 have hle:d.size≤cur.size:=by
  have:=congrArg List.length ht
  rw [List.length_take,hl] at this
  simp at this;omega
 exact ⟨by simp [hd],.inr ⟨g,c,_,rfl,hb,aGw d hh,hn,hm,by simp [Sort.putCells,hs],by rw [← hd];exact aEl cur d hle⟩⟩
theorem aKn:Sort.SWO (ltOf jV):=by
 have e:ltOf jV=gR:=funext fun x=>funext fun y=>aBN x y
 rw [e]
 exact ⟨pX.irrefl,fun x y z h1 h2=>pX.trans _ _ _ h1 h2,fun x y z h1 h2=>pX.ntrans h1 h2⟩
theorem aKo {g n size:Nat} {w:World}:CmpLays Tryz.prog 65 #[] (RowT.enc (α:=CeR)) 10 jV g 0 size w:=fun m os dk hs x y=>by
 have h:=GW.compareC_any x y (sortWorldK RowT.enc 10 w g 0 m dk os)
 rw [Array.append_empty,ceP.eq,ceP.eq]
 refine h.mono ?_
 rintro e w' ⟨rfl,hg⟩
 exact ⟨rfl,hg.grow⟩
theorem aCt (w0 w:World) (base:Nat) (A:Option Addr) (n c:Nat) (d:Array CeR) (h:RowS w0 w base 32 A n c d) (hn:n≤1000000000) :
  Calls Tryz.prog 64 #[.slice A n c,.func (.func 65) #[] #[]] w (fun e w'=>e=.returned (.tuple #[])∧∃ d',RowS w0 w' base 32 A n c d'∧Sort.PermIn 0 n d d'∧Sort.SortedIn gR 0 n d'):=by
 rcases Nat.eq_zero_or_pos n with rfl | hpos
 ·refine (AnyF.slices_SortFunc_none (P := Tryz.prog) (ρ := tJ) { aFF with } A c (.func (.func 65) #[] #[]) w).mono ?_
  rintro e w' ⟨rfl,rfl⟩
  exact ⟨rfl,d,h,Sort.permIn_refl _ _ _,fun i j _ _ hj=>absurd hj (Nat.not_lt_zero _)⟩
 obtain ⟨g,rfl,-,hr⟩:=h.at hpos
 have hsz:=h.size
 have ho:w.ownsRow base 32 10 (.slice (some ⟨g,0,none⟩) n c) n (gcs d.toList):=h.own
 have hH:Sort.HoldsK (RowT.enc (α:=CeR)) 10 w g 0 d:=fun j hj=>by
  have e1:=xZ d
  rw [show RowT.sz CeR=10 from rfl] at e1
  rw [Sort.size_flatK,hsz] at hj
  have hl:(gcs d.toList).length=n * 10:=ho.1
  refine ⟨?_,ho.frozenAt _⟩
  rw [e1,ho.cellAt (0+j) (by omega),Nat.zero_add,List.getElem?_eq_getElem (by omega),getElem!_pos _ j (by simp;omega)]
  simp
 have hlt:g < w.heap.size:=(ho.lt g rfl).2
 have eg:∀ args w,(callFunc 65 args).run Tryz.prog w=.ok (.enter 65 args) w:=enters_of Tryz.func65 (by kernel_rfl) rfl
 have hc:=AnyQ.slices_SortFunc aFF 10 (fun w=>by kernel_rfl) (fun w=>by kernel_rfl) (RowT.enc (α:=CeR)) (RowT.len (α:=CeR)) (fun x v hv=>RowT.one x v hv) jV aKn 65 #[] g 0 c d w eg (aKo (n:=n)) hH hlt (by omega)
 rw [hsz] at hc
 change Calls Tryz.prog 64 _ _ _ at hc
 refine hc.mono ?_
 rintro e w' ⟨rfl,d',m,os,hp,hs,rfl⟩
 have hw:sortWorldK (RowT.enc (α:=CeR)) 10 w g 0 m d' os=sortWorld id w g 0 m (Sort.flatK RowT.enc 10 d') os:=rfl
 rw [hw]
 have hf:=xZ d'
 rw [show RowT.sz CeR=10 from rfl] at hf
 refine ⟨rfl,d',⟨?_,fun x hx=>?_,Grown.trans h.gr (aBy _),h.ne⟩,hp,fun i j h1 h2 h3=>?_⟩
 ·have := aHr (os := os) (m := m) (Sort.flatK RowT.enc 10 d') (by rw [Sort.size_flatK, hp.1, hsz]) ho
  rw [hf] at this ⊢
  simp only [List.toList_toArray] at this ⊢
  exact this
 ·have hm:x ∈ d.toList:=by
   obtain ⟨p1,p2,p3⟩:=hp
   have e1:d'.extract 0 n=d':=by rw [← hsz,← p1];exact Array.extract_size
   have e2:d.extract 0 n=d:=by rw [← hsz];exact Array.extract_size
   rw [e1,e2] at p3
   exact p3.mem_iff.1 hx
  exact h.ow x hm
 have:=hs i j h1 h2 h3
 unfold ltOf at this
 rwa [aBN] at this
end
section
open Go.RowKit
attribute [local go_sem ↓] Go.wp_at_zero Go.wp_at_succ
theorem aEW (x:DeR) (c:CeR) (g:Nat) (w:World) (hx:deW x) (hc:ceW c) (hb:Blk w g 32 (ceA c)):Calls Tryz.prog 158 #[.agg (deA x),.pointer (some ⟨g,0,none⟩)] w fun e w'=>e=.returned (.bool (decide (x.c=c)))∧Ext w w':=by
 have HB:=zh (Blk.new w 34 (deA x))
 have HC:=zh (hb.alloc (.cells (deA x) 34))
 have HE:=zh ((Ext.refl w).alloc' (.cells (deA x) 34))
 have r0:(w.alloc (.cells (deA x) 34)).rangeAt w.heap.size 0 (RowT.enc x.c):=aBI HB.out
 have r1:(w.alloc (.cells (deA x) 34)).rangeAt g 0 (RowT.enc c):=aD HC.out
 have hq:=tQ x.c c hx.1 hc (w.alloc (.cells (deA x) 34))
 have HC2:=zh (rfl:(deA x)=(deA x))
 clear hb hx hc
 have hg:=lA .eql (.tmp 5) (.tmp 6) x.c c (w.alloc (.cells (deA x) 34))
 obtain ⟨v0,hv0⟩:∃ v,Value.agg (ceA x.c)=v:=⟨_,rfl⟩
 obtain ⟨v1,hv1⟩:∃ v,Value.agg (ceA c)=v:=⟨_,rfl⟩
 rw [hv0,hv1] at hq hg
 have HV0:=zh hv0
 have HV1:=zh hv1
 clear hv0 hv1
 obtain ⟨b,hb⟩:∃ b,decide (x.c=c)=b:=⟨_,rfl⟩
 rw [hb] at hq ⊢
 clear hb
 go_enter Tryz.func158,Tryz.ntmps158
 go_wp2_with (first | (with_reducible refine aC ceP rfl (.tmp 4) rfl w.heap.size 0 rfl x.c v0 HV0.out r0 ?_) | (with_reducible refine aC ceP rfl (.tmp 1) rfl g 0 rfl c v1 HV1.out r1 ?_))
 go_ret
 exact ⟨rfl,HE.out⟩
theorem aCY (c:CeR) (g:Nat) (w:World) (hc:ceW c) (hb:Blk w g 32 (ceA c)):Says deA 158 #[.pointer (some ⟨g,0,none⟩)] (fun x=>decide (x.c=c)) w :=
 ⟨fun _ _=>by kernel_rfl,fun x W hE hx=>aEW x c g W hx hc (hb.ext hE)⟩
theorem wZ (x:LkR) (c:UInt64) (g:Nat) (w:World) (hx:lkW x)  (hb:Blk w g 30 (nmc c)):Calls Tryz.prog 213 #[.agg (lkA x),.pointer (some ⟨g,0,none⟩)] w fun e w'=>e=.returned (.bool (decide (x.nm=c)))∧Ext w w':=by
 have HB:=zh (Blk.new w 94 (lkA x))
 have HC:=zh (hb.alloc (.cells (lkA x) 94))
 have HE:=zh ((Ext.refl w).alloc' (.cells (lkA x) 94))
 have r0:(w.alloc (.cells (lkA x) 94)).rangeAt w.heap.size 0 (RowT.enc x.nm):=zP HB.out
 have r1:(w.alloc (.cells (lkA x) 94)).rangeAt g 0 (RowT.enc c):=bP HC.out
 have hq:=cZ x.nm c (w.alloc (.cells (lkA x) 94))
 have HC2:=zh (rfl:(lkA x)=(lkA x))
 clear hb hx 
 have hg:=fZ .eql (.tmp 5) (.tmp 6) x.nm c (w.alloc (.cells (lkA x) 94))
 obtain ⟨v0,hv0⟩:∃ v,Value.agg (nmc x.nm)=v:=⟨_,rfl⟩
 obtain ⟨v1,hv1⟩:∃ v,Value.agg (nmc c)=v:=⟨_,rfl⟩
 rw [hv0,hv1] at hq hg
 have HV0:=zh hv0
 have HV1:=zh hv1
 clear hv0 hv1
 obtain ⟨b,hb⟩:∃ b,decide (x.nm=c)=b:=⟨_,rfl⟩
 rw [hb] at hq ⊢
 clear hb
 go_enter Tryz.func213,Tryz.ntmps213
 go_wp2_with (first | (with_reducible refine aC nmP rfl (.tmp 4) rfl w.heap.size 0 rfl x.nm v0 HV0.out r0 ?_) | (with_reducible refine aC nmP rfl (.tmp 1) rfl g 0 rfl c v1 HV1.out r1 ?_))
 go_ret
 exact ⟨rfl,HE.out⟩
theorem vC (c:UInt64) (g:Nat) (w:World)  (hb:Blk w g 30 (nmc c)):Says lkA 213 #[.pointer (some ⟨g,0,none⟩)] (fun x=>decide (x.nm=c)) w :=
 ⟨fun _ _=>by kernel_rfl,fun x W hE hx=>wZ x c g W hx (hb.ext hE)⟩
theorem vB (s:StR) (c:CeR) (w:World) (h:s.ok w) (hc:ceW c) (r:Int) (hr:IxIs (fun x=>decide (x.c=c)) s.C r):Calls Tryz.prog 101 #[.agg (ssA s),.agg (ceA c)] w fun e w'=>e=.returned (.int .i64 r)∧Ext w w':=by
 obtain ⟨W,hW⟩:∃ W,((w.alloc (.cells (ssA s) 44)).alloc (.cells (ceA c) 32))=W:=⟨_,rfl⟩
 have HB:=zh (show Blk W w.heap.size 44 (ssA s) from by rw [← hW];exact (Blk.new w 44 (ssA s)).alloc _)
 have HC:=zh (show Blk W (w.heap.size+1) 32 (ceA c) from by rw [← hW];exact Blk.newAt _ _ _ _ (by simp))
 have HE:=zh (show Ext w W from by rw [← hW];exact ((Ext.refl w).alloc' _).alloc' _)
 have c0:W.cell? ⟨w.heap.size,0,none⟩=some (.slice s.A1 s.n1 s.c1):=HB.out.cell 0
 have HF:=zh (aCY c _ _ hc HC.out)
 have HI:=zh (uV HF.out W s.A1 s.n1 s.c1 s.C (h.ext HE.out).s1 (Ext.refl _) r hr)
 clear h hr hc
 go_enter Tryz.func101,Tryz.ntmps101
 go_wp2_with fail
 refine HI.out.mono ?_
 rintro e w5 ⟨rfl,he5⟩
 have HX:=zh (HE.out.trans he5)
 clear he5 c0 HI HF
 go_wp2_with fail
 go_ret
 exact ⟨rfl,HX.out⟩
theorem fP (s:StR) (c:UInt64) (w:World) (h:s.ok w)  (r:Int) (hr:IxIs (fun x=>decide (x.nm=c)) s.K r):Calls Tryz.prog 152 #[.agg (ssA s),.agg (nmc c)] w fun e w'=>e=.returned (.int .i64 r)∧Ext w w':=by
 obtain ⟨W,hW⟩:∃ W,((w.alloc (.cells (ssA s) 44)).alloc (.cells (nmc c) 30))=W:=⟨_,rfl⟩
 have HB:=zh (show Blk W w.heap.size 44 (ssA s) from by rw [← hW];exact (Blk.new w 44 (ssA s)).alloc _)
 have HC:=zh (show Blk W (w.heap.size+1) 30 (nmc c) from by rw [← hW];exact Blk.newAt _ _ _ _ (by simp))
 have HE:=zh (show Ext w W from by rw [← hW];exact ((Ext.refl w).alloc' _).alloc' _)
 have c0:W.cell? ⟨w.heap.size,2,none⟩=some (.slice s.A3 s.n3 s.c3):=HB.out.cell 2
 have HF:=zh (vC c _ _ HC.out)
 have HI:=zh (uU HF.out W s.A3 s.n3 s.c3 s.K (h.ext HE.out).s3 (Ext.refl _) r hr)
 clear h hr 
 go_enter Tryz.func152,Tryz.ntmps152
 go_wp2_with fail
 refine HI.out.mono ?_
 rintro e w5 ⟨rfl,he5⟩
 have HX:=zh (HE.out.trans he5)
 clear he5 c0 HI HF
 go_wp2_with fail
 go_ret
 exact ⟨rfl,HX.out⟩
theorem xE (x y:DeR) (gf g:Nat) (w:World) (hf:Blk w gf 124 #[.func (.func 105) #[] #[]]) (hb:Blk w g 34 (deA x)):Calls Tryz.prog 161 #[.agg (deA y),.pointer (some ⟨gf,0,none⟩),.pointer (some ⟨g,0,none⟩)] w fun e w'=>e=.returned (.bool ((fun y=>gR x.c y.c) y))∧Ext w w':=by
 have HB:=zh (Blk.new w 34 (deA y))
 have HC:=zh (hb.alloc (.cells (deA y) 34))
 have HE:=zh ((Ext.refl w).alloc' (.cells (deA y) 34))
 have c0:(w.alloc (.cells (deA y) 34)).cell? ⟨gf,0,none⟩=some (.func (.func 105) #[] #[]):=(hf.alloc _).cell 0
 have r0:(w.alloc (.cells (deA y) 34)).rangeAt w.heap.size 0 (RowT.enc y):=aD HB.out
 have r1:(w.alloc (.cells (deA y) 34)).rangeAt g 0 (RowT.enc x):=aD HC.out
 have HQ:=zh (vM y.c x.c)
 have HM:=zh (fun W=>aAn y x W)
 have eg:∀ args w,(callFunc 105 args).run Tryz.prog w=.ok (.enter 105 args) w:=fun _ _=>by kernel_rfl
 clear hb hf
 obtain ⟨v0,hv0⟩:∃ v,Value.agg (deA y)=v:=⟨_,rfl⟩
 obtain ⟨v1,hv1⟩:∃ v,Value.agg (deA x)=v:=⟨_,rfl⟩
 have HV0:=zh hv0
 have HV1:=zh hv1
 rw [hv0,hv1] at HM
 clear hv0 hv1
 go_enter Tryz.func161,Tryz.ntmps161
 go_wp2_with (first | (with_reducible refine aC deP rfl (.tmp 3) rfl w.heap.size 0 rfl y v0 HV0.out r0 ?_) | (with_reducible refine aC deP rfl (.tmp 2) rfl g 0 rfl x v1 HV1.out r1 ?_))
 refine (HM.out _).mono ?_
 rintro e w5 ⟨rfl,he5⟩
 have HX:=zh (HE.out.trans he5)
 clear he5 c0 r0 r1
 go_wp2_with fail
 go_ret
 exact ⟨by rw [← HQ.out];rfl,HX.out⟩
theorem aAr (A:Option Addr) (n c:Nat) (L:List DeR) (x:DeR) (w:World) (h:SlG w A n c L):Calls Tryz.prog 104 #[.slice A n c,.agg (deA x),.func (.func 105) #[] #[]] w fun e w'=>∃ k:Nat,e=.returned (.int .i64 (k:Int))∧k≤n∧fM (fun y=>gR x.c y.c) x L=L.take k ++ x :: L.drop k∧Ext w w':=by
 obtain ⟨W,hW⟩:∃ W,((w.alloc (.cells (deA x) 34)).alloc (.cells #[.func (.func 105) #[] #[]] 124))=W:=⟨_,rfl⟩
 have HB:=zh (show Blk W w.heap.size 34 (deA x) from by rw [← hW];exact (Blk.new w 34 (deA x)).alloc _)
 have HC:=zh (show Blk W (w.heap.size+1) 124 #[.func (.func 105) #[] #[]] from by rw [← hW];exact Blk.newAt _ _ _ _ (by simp))
 have HE:=zh (show Ext w W from by rw [← hW];exact ((Ext.refl w).alloc' _).alloc' _)
 have HF:=zh (show Says deA 161 #[.pointer (some ⟨w.heap.size+1,0,none⟩),.pointer (some ⟨w.heap.size,0,none⟩)] (fun y=>gR x.c y.c) W from ⟨fun _ _=>by kernel_rfl,fun y W2 hE2 _=>xE x y _ _ W2 (HC.out.ext hE2) (HB.out.ext hE2)⟩)
 have HLEN:=zh h.len
 have HS:=zh (h.ext HE.out)
 have hcap:=h.cap
 have hle:=h.le
 clear h
 have hcs:=jA (fun y=>gR x.c y.c) L
 rw [HLEN.out] at hcs
 rcases hcs with hno | ⟨k,hk,h1,h2⟩
 ·have HI := zh (uV HF.out W A n c L HS.out (Ext.refl _) (-1) (.inl ⟨rfl, by rw [HLEN.out]; exact hno⟩))
  have HR:=zh (fL (fun y=>gR x.c y.c) x L n (by rw [HLEN.out];exact Nat.le_refl _) (fun j hj hl=>by rw [cD hl];exact hno j hj) (fun hh=>absurd hh (by rw [HLEN.out];omega)))
  clear hno
  go_enter Tryz.func104,Tryz.ntmps104
  go_wp2_with fail
  refine HI.out.mono ?_
  rintro e w5 ⟨rfl,he5⟩
  have HX:=zh (HE.out.trans he5)
  clear he5 HI HF hW
  go_wp2_with fail
  go_ret
  exact ⟨n,rfl,Nat.le_refl _,HR.out,HX.out⟩
 have HI:=zh (uV HF.out W A n c L HS.out (Ext.refl _) (k:Int) (.inr ⟨k,rfl,by rw [HLEN.out];exact hk,h1,h2⟩))
 have HR:=zh (fL (fun y=>gR x.c y.c) x L k (by rw [HLEN.out];omega) (fun j hj hl=>by rw [cD hl];exact h2 j hj) (fun hh=>by rw [cD hh];exact h1))
 clear h1 h2
 go_enter Tryz.func104,Tryz.ntmps104
 go_wp2_with fail
 refine HI.out.mono ?_
 rintro e w5 ⟨rfl,he5⟩
 have HX:=zh (HE.out.trans he5)
 clear he5 HI HF hW
 go_wp2_with fail
 go_ret
 exact ⟨k,rfl,Nat.le_of_lt hk,HR.out,HX.out⟩
theorem xD (x y:LkR) (gf g:Nat) (w:World) (hf:Blk w gf 172 #[.func (.func 155) #[] #[]]) (hb:Blk w g 94 (lkA x)):Calls Tryz.prog 216 #[.agg (lkA y),.pointer (some ⟨gf,0,none⟩),.pointer (some ⟨g,0,none⟩)] w fun e w'=>e=.returned (.bool ((fun y=>decide (un x.nm < un y.nm)) y))∧Ext w w':=by
 have HB:=zh (Blk.new w 94 (lkA y))
 have HC:=zh (hb.alloc (.cells (lkA y) 94))
 have HE:=zh ((Ext.refl w).alloc' (.cells (lkA y) 94))
 have c0:(w.alloc (.cells (lkA y) 94)).cell? ⟨gf,0,none⟩=some (.func (.func 155) #[] #[]):=(hf.alloc _).cell 0
 have r0:(w.alloc (.cells (lkA y) 94)).rangeAt w.heap.size 0 (RowT.enc y):=aD HB.out
 have r1:(w.alloc (.cells (lkA y) 94)).rangeAt g 0 (RowT.enc x):=aD HC.out
 have HQ:=zh (vL y.nm x.nm)
 have HM:=zh (fun W=>aAm y x W)
 have eg:∀ args w,(callFunc 155 args).run Tryz.prog w=.ok (.enter 155 args) w:=fun _ _=>by kernel_rfl
 clear hb hf
 obtain ⟨v0,hv0⟩:∃ v,Value.agg (lkA y)=v:=⟨_,rfl⟩
 obtain ⟨v1,hv1⟩:∃ v,Value.agg (lkA x)=v:=⟨_,rfl⟩
 have HV0:=zh hv0
 have HV1:=zh hv1
 rw [hv0,hv1] at HM
 clear hv0 hv1
 go_enter Tryz.func216,Tryz.ntmps216
 go_wp2_with (first | (with_reducible refine aC lkP rfl (.tmp 3) rfl w.heap.size 0 rfl y v0 HV0.out r0 ?_) | (with_reducible refine aC lkP rfl (.tmp 2) rfl g 0 rfl x v1 HV1.out r1 ?_))
 refine (HM.out _).mono ?_
 rintro e w5 ⟨rfl,he5⟩
 have HX:=zh (HE.out.trans he5)
 clear he5 c0 r0 r1
 go_wp2_with fail
 go_ret
 exact ⟨by rw [← HQ.out];rfl,HX.out⟩
theorem aAq (A:Option Addr) (n c:Nat) (L:List LkR) (x:LkR) (w:World) (h:SlG w A n c L):Calls Tryz.prog 154 #[.slice A n c,.agg (lkA x),.func (.func 155) #[] #[]] w fun e w'=>∃ k:Nat,e=.returned (.int .i64 (k:Int))∧k≤n∧fM (fun y=>decide (un x.nm < un y.nm)) x L=L.take k ++ x :: L.drop k∧Ext w w':=by
 obtain ⟨W,hW⟩:∃ W,((w.alloc (.cells (lkA x) 94)).alloc (.cells #[.func (.func 155) #[] #[]] 172))=W:=⟨_,rfl⟩
 have HB:=zh (show Blk W w.heap.size 94 (lkA x) from by rw [← hW];exact (Blk.new w 94 (lkA x)).alloc _)
 have HC:=zh (show Blk W (w.heap.size+1) 172 #[.func (.func 155) #[] #[]] from by rw [← hW];exact Blk.newAt _ _ _ _ (by simp))
 have HE:=zh (show Ext w W from by rw [← hW];exact ((Ext.refl w).alloc' _).alloc' _)
 have HF:=zh (show Says lkA 216 #[.pointer (some ⟨w.heap.size+1,0,none⟩),.pointer (some ⟨w.heap.size,0,none⟩)] (fun y=>decide (un x.nm < un y.nm)) W from ⟨fun _ _=>by kernel_rfl,fun y W2 hE2 _=>xD x y _ _ W2 (HC.out.ext hE2) (HB.out.ext hE2)⟩)
 have HLEN:=zh h.len
 have HS:=zh (h.ext HE.out)
 have hcap:=h.cap
 have hle:=h.le
 clear h
 have hcs:=jA (fun y=>decide (un x.nm < un y.nm)) L
 rw [HLEN.out] at hcs
 rcases hcs with hno | ⟨k,hk,h1,h2⟩
 ·have HI := zh (uU HF.out W A n c L HS.out (Ext.refl _) (-1) (.inl ⟨rfl, by rw [HLEN.out]; exact hno⟩))
  have HR:=zh (fL (fun y=>decide (un x.nm < un y.nm)) x L n (by rw [HLEN.out];exact Nat.le_refl _) (fun j hj hl=>by rw [cD hl];exact hno j hj) (fun hh=>absurd hh (by rw [HLEN.out];omega)))
  clear hno
  go_enter Tryz.func154,Tryz.ntmps154
  go_wp2_with fail
  refine HI.out.mono ?_
  rintro e w5 ⟨rfl,he5⟩
  have HX:=zh (HE.out.trans he5)
  clear he5 HI HF hW
  go_wp2_with fail
  go_ret
  exact ⟨n,rfl,Nat.le_refl _,HR.out,HX.out⟩
 have HI:=zh (uU HF.out W A n c L HS.out (Ext.refl _) (k:Int) (.inr ⟨k,rfl,by rw [HLEN.out];exact hk,h1,h2⟩))
 have HR:=zh (fL (fun y=>decide (un x.nm < un y.nm)) x L k (by rw [HLEN.out];omega) (fun j hj hl=>by rw [cD hl];exact h2 j hj) (fun hh=>by rw [cD hh];exact h1))
 clear h1 h2
 go_enter Tryz.func154,Tryz.ntmps154
 go_wp2_with fail
 refine HI.out.mono ?_
 rintro e w5 ⟨rfl,he5⟩
 have HX:=zh (HE.out.trans he5)
 clear he5 HI HF hW
 go_wp2_with fail
 go_ret
 exact ⟨k,rfl,Nat.le_of_lt hk,HR.out,HX.out⟩
theorem xC (x y:UInt64) (gf g:Nat) (w:World) (hf:Blk w gf 127 #[.func (.func 108) #[] #[]]) (hb:Blk w g 30 (nmc x)):Calls Tryz.prog 165 #[.agg (nmc y),.pointer (some ⟨gf,0,none⟩),.pointer (some ⟨g,0,none⟩)] w fun e w'=>e=.returned (.bool ((fun y=>decide (un x < un y)) y))∧Ext w w':=by
 have HB:=zh (Blk.new w 30 (nmc y))
 have HC:=zh (hb.alloc (.cells (nmc y) 30))
 have HE:=zh ((Ext.refl w).alloc' (.cells (nmc y) 30))
 have c0:(w.alloc (.cells (nmc y) 30)).cell? ⟨gf,0,none⟩=some (.func (.func 108) #[] #[]):=(hf.alloc _).cell 0
 have r0:(w.alloc (.cells (nmc y) 30)).rangeAt w.heap.size 0 (RowT.enc y):=bP HB.out
 have r1:(w.alloc (.cells (nmc y) 30)).rangeAt g 0 (RowT.enc x):=bP HC.out
 have HQ:=zh (vL y x)
 have HM:=zh (fun W=>compareNames_any y x W)
 have eg:∀ args w,(callFunc 108 args).run Tryz.prog w=.ok (.enter 108 args) w:=fun _ _=>by kernel_rfl
 clear hb hf
 obtain ⟨v0,hv0⟩:∃ v,Value.agg (nmc y)=v:=⟨_,rfl⟩
 obtain ⟨v1,hv1⟩:∃ v,Value.agg (nmc x)=v:=⟨_,rfl⟩
 have HV0:=zh hv0
 have HV1:=zh hv1
 rw [hv0,hv1] at HM
 clear hv0 hv1
 go_enter Tryz.func165,Tryz.ntmps165
 go_wp2_with (first | (with_reducible refine aC nmP rfl (.tmp 3) rfl w.heap.size 0 rfl y v0 HV0.out r0 ?_) | (with_reducible refine aC nmP rfl (.tmp 2) rfl g 0 rfl x v1 HV1.out r1 ?_))
 refine (HM.out _).mono ?_
 rintro e w5 ⟨rfl,he5⟩
 have HX:=zh (HE.out.trans he5)
 clear he5 c0 r0 r1
 go_wp2_with fail
 go_ret
 exact ⟨by rw [← HQ.out];rfl,HX.out⟩
theorem aAp (A:Option Addr) (n c:Nat) (L:List UInt64) (x:UInt64) (w:World) (h:SlG w A n c L):Calls Tryz.prog 107 #[.slice A n c,.agg (nmc x),.func (.func 108) #[] #[]] w fun e w'=>∃ k:Nat,e=.returned (.int .i64 (k:Int))∧k≤n∧fM (fun y=>decide (un x < un y)) x L=L.take k ++ x :: L.drop k∧Ext w w':=by
 obtain ⟨W,hW⟩:∃ W,((w.alloc (.cells (nmc x) 30)).alloc (.cells #[.func (.func 108) #[] #[]] 127))=W:=⟨_,rfl⟩
 have HB:=zh (show Blk W w.heap.size 30 (nmc x) from by rw [← hW];exact (Blk.new w 30 (nmc x)).alloc _)
 have HC:=zh (show Blk W (w.heap.size+1) 127 #[.func (.func 108) #[] #[]] from by rw [← hW];exact Blk.newAt _ _ _ _ (by simp))
 have HE:=zh (show Ext w W from by rw [← hW];exact ((Ext.refl w).alloc' _).alloc' _)
 have HF:=zh (show Says nmc 165 #[.pointer (some ⟨w.heap.size+1,0,none⟩),.pointer (some ⟨w.heap.size,0,none⟩)] (fun y=>decide (un x < un y)) W from ⟨fun _ _=>by kernel_rfl,fun y W2 hE2 _=>xC x y _ _ W2 (HC.out.ext hE2) (HB.out.ext hE2)⟩)
 have HLEN:=zh h.len
 have HS:=zh (h.ext HE.out)
 have hcap:=h.cap
 have hle:=h.le
 clear h
 have hcs:=jA (fun y=>decide (un x < un y)) L
 rw [HLEN.out] at hcs
 rcases hcs with hno | ⟨k,hk,h1,h2⟩
 ·have HI := zh (aBs HF.out W A n c L HS.out (Ext.refl _) (-1) (.inl ⟨rfl, by rw [HLEN.out]; exact hno⟩))
  have HR:=zh (fL (fun y=>decide (un x < un y)) x L n (by rw [HLEN.out];exact Nat.le_refl _) (fun j hj hl=>by rw [cD hl];exact hno j hj) (fun hh=>absurd hh (by rw [HLEN.out];omega)))
  clear hno
  go_enter Tryz.func107,Tryz.ntmps107
  go_wp2_with fail
  refine HI.out.mono ?_
  rintro e w5 ⟨rfl,he5⟩
  have HX:=zh (HE.out.trans he5)
  clear he5 HI HF hW
  go_wp2_with fail
  go_ret
  exact ⟨n,rfl,Nat.le_refl _,HR.out,HX.out⟩
 have HI:=zh (aBs HF.out W A n c L HS.out (Ext.refl _) (k:Int) (.inr ⟨k,rfl,by rw [HLEN.out];exact hk,h1,h2⟩))
 have HR:=zh (fL (fun y=>decide (un x < un y)) x L k (by rw [HLEN.out];omega) (fun j hj hl=>by rw [cD hl];exact h2 j hj) (fun hh=>by rw [cD hh];exact h1))
 clear h1 h2
 go_enter Tryz.func107,Tryz.ntmps107
 go_wp2_with fail
 refine HI.out.mono ?_
 rintro e w5 ⟨rfl,he5⟩
 have HX:=zh (HE.out.trans he5)
 clear he5 HI HF hW
 go_wp2_with fail
 go_ret
 exact ⟨k,rfl,Nat.le_of_lt hk,HR.out,HX.out⟩
end
end Go.Proofs.YtohmmcahpakokaaGreat
