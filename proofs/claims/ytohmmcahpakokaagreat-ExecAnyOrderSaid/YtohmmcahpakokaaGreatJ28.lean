/- state.Clone: a state of one's own with the same values. -/
import Derived.ArgAppend
import Derived.Test.YtohmmcahpakokaaGreatJ03
import Derived.Test.YtohmmcahpakokaaGreatJ22
import Derived.Test.YtohmmcahpakokaaGreatJ25
set_option maxRecDepth 100000
set_option maxHeartbeats 8000000
set_option linter.unusedSectionVars false
set_option linter.unusedVariables false
set_option linter.unusedSimpArgs false
namespace Go.Proofs.YtohmmcahpakokaaGreat
section
open Go.RowKit
attribute [local go_sem ↓] Go.wp_at_zero Go.wp_at_succ
theorem yZ (s:StR):(ssA s).all (·.oneCell')=true:=by simp [Value.oneCell']
section
variable {ops:Array Oper} {o:Oper} {a:Act} {w:World} {K:Act→World→Prop} {Q:Exit→Act→World→Prop} {X:Prop}
theorem bC (hgd:o.guard=none) (x y:Operand) (ho:o.op=.store 44 x y) (g:Nat) (v:Value) (s:StR) (hv:Value.agg (ssA s)=v) (hx:a.eval x=.pointer (some ⟨g,0,none⟩)) (hy:a.eval y=v) {z:StR} (hb:Blk w g 44 (ssA z))
  (h:∀ W,Hid (w.setCells g 0 (ssA s).toList=W∧Blk W g 44 (ssA s))→K (a.put o.dst undef) W):if Region.wanted o (yielded ops a.tmps)=true then Oper.wp Tryz.prog o a w K Q else X:=by
 have hw:Region.wanted o (yielded ops a.tmps)=true:=by simp [Region.wanted,hgd]
 rw [if_pos hw]
 exact wp_store_mid (P:=Tryz.prog) (Q:=Q) (op:=o) (K:=K) 44 x y ho g 0 (ssA s) hx (by rw [hy,hv]) (show w.there g 0 (ssA z).size from aT hb) (by kernel_rfl) (yZ s) (h _ (zh ⟨rfl,aR (ds:=ssA s) hb rfl⟩))
end
theorem cR (s:StR) (w:World) (h:s.ok w) (hn:s.n1≤1000000∧s.n2≤1000000∧s.n3≤1000000∧s.n4≤1000000):Calls Tryz.prog 51 #[.agg (ssA s)] w (lZ w s.V):=by
 have HP:=zh (show Blk ((w.alloc (.cells (ssA s) 44)).alloc (.cells (ssA ss0) 44)).drew w.heap.size 44 (ssA s) from ((Blk.new w 44 (ssA s)).alloc _).drew)
 have HZ:=zh (show Blk ((w.alloc (.cells (ssA s) 44)).alloc (.cells (ssA ss0) 44)).drew (w.heap.size+1) 44 (ssA ss0) from Blk.drew (Blk.newAt _ _ _ _ (by simp)))
 have HEW:=zh (show Ext w ((w.alloc (.cells (ssA s) 44)).alloc (.cells (ssA ss0) 44)).drew from (((Ext.refl w).alloc' _).alloc' _).drew')
 have HS:=zh (h.ext HEW.out)
 have HW:=zh HEW.out.size
 have HO:=zh h
 have hn1:s.n1≤1000000000:=by omega
 have hn2:s.n2≤1000000000:=by omega
 have hn3:s.n3≤1000000000:=by omega
 have hn4:s.n4≤1000000000:=by omega
 clear h hn
 go_enter Tryz.func51,Tryz.ntmps51
 go_wp2_with fail
 refine wp_region_held_drew (S:=fun W=>Blk W w.heap.size 44 (ssA s)∧(∃ z,Blk W (w.heap.size+1) 44 (ssA z))∧Ext w W) (by kernel_rfl) (⟨HP.out,⟨ss0,HZ.out⟩,HEW.out⟩) (fun aA=>?_)
 refine zz0 [0,1,3,4,6,7,9,10,12,13] ?_;repeat first | refine zz1 ?_ (hy:=by intro W aM;obtain ⟨c0,c1,c2,c3,c4⟩:=aE aM.1;go_simp <;> with_reducible rfl) | refine zz2 ?_ | refine zz9 ?_
 refine zzj (VV 2 (fun v W=>∃ A c,v=.slice A s.n1 c∧W.ownsRow w.heap.size 34 11 (.slice A s.n1 c) s.n1 (gcs s.C)) (VV 5 (fun v W=>∃ A c,v=.slice A s.n2 c∧W.ownsRow w.heap.size 3 1 (.slice A s.n2 c) s.n2 (gcs s.Q)) (VV 8 (fun v W=>∃ A c,v=.slice A s.n3 c∧W.ownsRow w.heap.size 94 19 (.slice A s.n3 c) s.n3 (gcs s.K)) (VV 11 (fun v W=>∃ A c,v=.slice A s.n4 c∧W.ownsRow w.heap.size 30 8 (.slice A s.n4 c) s.n4 (gcs s.P)) VN)))) [(2,some 5),(5,some 8),(8,some 11),(11,some 14)] 2 (fun W W' h e=>⟨h.1.ext e,(by obtain ⟨z,hz⟩:=h.2.1;exact ⟨z,hz.ext e⟩),h.2.2.trans e⟩) (VV.ext (fun v w w' ⟨A,c,h1,h2⟩ e=>⟨A,c,h1,bA h2 e⟩) (VV.ext (fun v w w' ⟨A,c,h1,h2⟩ e=>⟨A,c,h1,bA h2 e⟩) (VV.ext (fun v w w' ⟨A,c,h1,h2⟩ e=>⟨A,c,h1,bA h2 e⟩) (VV.ext (fun v w w' ⟨A,c,h1,h2⟩ e=>⟨A,c,h1,bA h2 e⟩) VN.ext)))) (zzc ?_ (zzc ?_ (zzc ?_ (zzc ?_ zzn)))) ?_
 ·refine zzp fun W hE hS K hK => ?_
  go_simp
  go_at_call 90
  refine (aCp s.A1 s.n1 s.c1 s.C _ (HO.out.ext hS.2.2).s1 hn1).mono ?_
  rintro e w5 ⟨A5,c5,rfl,ho5,he5⟩
  exact zzK (hK.out (.slice A5 s.n1 c5) _ (he5) (⟨A5,c5,rfl,bB ho5 (Nat.le_trans HW.out hE.size)⟩))
 ·refine zzp fun W hE hS K hK => ?_
  go_simp
  go_at_call 91
  refine (aCo s.A2 s.n2 s.c2 s.Q _ (HO.out.ext hS.2.2).s2 hn2).mono ?_
  rintro e w5 ⟨A5,c5,rfl,ho5,he5⟩
  exact zzK (hK.out (.slice A5 s.n2 c5) _ (he5) (⟨A5,c5,rfl,bB ho5 (Nat.le_trans HW.out hE.size)⟩))
 ·refine zzp fun W hE hS K hK => ?_
  go_simp
  go_at_call 92
  refine (aCn s.A3 s.n3 s.c3 s.K _ (HO.out.ext hS.2.2).s3 hn3).mono ?_
  rintro e w5 ⟨A5,c5,rfl,ho5,he5⟩
  exact zzK (hK.out (.slice A5 s.n3 c5) _ (he5) (⟨A5,c5,rfl,bB ho5 (Nat.le_trans HW.out hE.size)⟩))
 ·refine zzp fun W hE hS K hK => ?_
  go_simp
  go_at_call 93
  refine (aCm s.A4 s.n4 s.c4 s.P _ (HO.out.ext hS.2.2).s4 hn4).mono ?_
  rintro e w5 ⟨A5,c5,rfl,ho5,he5⟩
  exact zzK (hK.out (.slice A5 s.n4 c5) _ (he5) (⟨A5,c5,rfl,bB ho5 (Nat.le_trans HW.out hE.size)⟩))
 intro env W hE hS hV
 obtain ⟨h2,h5,h8,h11,-⟩:=zzV hV
 clear hV
 simp only [aO]
 generalize env 2=x2 at h2 ⊢
 generalize env 5=x5 at h5 ⊢
 generalize env 8=x8 at h8 ⊢
 generalize env 11=x11 at h11 ⊢
 obtain ⟨A1,c1,rfl,k1⟩:=h2
 obtain ⟨A2,c2,rfl,k2⟩:=h5
 obtain ⟨A3,c3,rfl,k3⟩:=h8
 obtain ⟨A4,c4,rfl,k4⟩:=h11
 have HK1:=zh k1
 have HK2:=zh k2
 have HK3:=zh k3
 have HK4:=zh k4
 clear k1 k2 k3 k4
 have aA:=hS
 refine zt 14 aA ?_
 refine za 15 (fun K hK=>?_)
 (obtain ⟨z6,hz6⟩:=aA.2.1;refine bC rfl (.tmp 2) (.tmp 17) (by rfl) (w.heap.size+1) (.agg (ssA ⟨A1,s.n1,c1,s.C,A2,s.n2,c2,s.Q,A3,s.n3,c3,s.K,A4,s.n4,c4,s.P,s.G⟩)) ⟨A1,s.n1,c1,s.C,A2,s.n2,c2,s.Q,A3,s.n3,c3,s.K,A4,s.n4,c4,s.P,s.G⟩ rfl (by rfl) (by rfl) hz6 ?_;intro W6 h6)
 refine hK.out _ _ (⟨aA.1.grown (by rw [← h6.out.1];exact aC _ _ _ _) (fun e=>by injection e;omega),⟨_,h6.out.2⟩,by rw [← h6.out.1];exact Below.setCells' aA.2.2 (Nat.le_succ _) _ _⟩) (fun aA=>?_)
 clear hK K
 try simp only [aS]
 refine wpAnyH_done (by kernel_rfl) ?_ _
 have hst:=h6.out.2
 have HOW:=zh (show OwnS W6 w.heap.size ⟨A1,s.n1,c1,s.C,A2,s.n2,c2,s.Q,A3,s.n3,c3,s.K,A4,s.n4,c4,s.P,s.G⟩ from by
  refine OwnS.kept (X:=w.heap.size+1) ⟨HK1.out,HK2.out,HK3.out,HK4.out,HO.out.s1.ok,HO.out.s2.ok,HO.out.s3.ok,HO.out.g⟩ (by rw [← h6.out.1];exact aC _ _ _ _) hz6 (by decide) (by decide) (by decide) (by decide))
 have HX:=zh aA.2.2
 clear h6 hz6 hS hE aA
 go_wp2_with fail
 exact bodyPost_ret (v:=.agg (ssA ⟨A1,s.n1,c1,s.C,A2,s.n2,c2,s.Q,A3,s.n3,c3,s.K,A4,s.n4,c4,s.P,s.G⟩)) (gB rfl _ _ (w.heap.size+1) _ rfl (run_loadVar_row _ _ _ _ _ (0,0) _ hst Tryz.underlying44 rfl (by kernel_rfl))) rfl ⟨_,rfl,HOW.out,rfl,HX.out⟩
end
section
open Go.RowKit
section
variable {α β:Type} [RowT α] [DecidableEq β] {V:α→β} {lt0:α→α→Bool} {lt:β→β→Bool} {d d':Array α} {n:Nat}
theorem aJN (hlt:∀ x y,lt0 x y=lt (V x) (V y)) (hn:d'.size=n) (hs:Sort.SortedIn lt0 0 n d'):Wsc lt (d'.toList.map V):=by
 unfold Wsc
 rw [List.pairwise_iff_getElem]
 intro i j hi hj hij
 simp only [List.length_map,Array.length_toList] at hi hj
 have:=hs i j (Nat.zero_le _) hij (by omega)
 rw [hlt,getElem!_pos d' i hi,getElem!_pos d' j hj] at this
 simpa using this
theorem aBF (hd:d.size=n) (hp:Sort.PermIn 0 n d d') (y:β):y ∈ d'.toList.map V ↔ y ∈ d.toList.map V:=by
 obtain ⟨h1,h2,h3⟩:=hp
 have e1:d'.extract 0 n=d':=by rw [← hd,← h1];exact Array.extract_size
 have e2:d.extract 0 n=d:=by rw [← hd];exact Array.extract_size
 rw [e1,e2] at h3
 exact (h3.map V).mem_iff
theorem sR (hS:STO lt) (hlt:∀ x y,lt0 x y=lt (V x) (V y)) (hd:d.size=n) (hp:Sort.PermIn 0 n d d') (hs:Sort.SortedIn lt0 0 n d'):compO (d'.toList.map V)=oX lt (d.toList.map V) :=
 aCj hS (aJN hlt (by rw [hp.1,hd]) hs) (aBF hd hp)
end
end
section
open Go.RowKit
attribute [local go_sem ↓] Go.wp_at_zero Go.wp_at_succ
theorem aEb (seed m:UInt64) {sq:Int} (h0:0≤sq) (h1:sq≤31):mI seed 1 sq m=some (wF seed sq.toNat m):=by
 unfold mI
 rw [if_pos ⟨rfl,h0,by omega⟩]
theorem SlB.grown {w w':World} {A:Option Addr} {n c X:Nat} {l:List UInt8} {ac sq:Int} {A1 A2:Option Addr} {n1 c1 n2 c2:Nat} {t:TypeId} (h:SlB w A n c l) (hg:w.grownBy w' (some X)) (hb:Blk w X t (stA ac sq A1 n1 c1 A2 n2 c2)):SlB w' A n c l:=by
 refine ⟨h.len,h.le,h.cap,?_⟩
 by_cases hx:bcs l=[]
 ·exact .inl hx
 obtain ⟨b,o,e,hr,hlt⟩:=h.rd.at hx
 refine .inr ⟨b,o,e,aX hr (hg.block b hlt ?_)⟩
 intro e2
 injection e2 with e2
 subst e2
 cases l with
 | nil=>exact hx rfl
 | cons x r =>
  have h0:=hr 0 (bv x) rfl
  rw [Nat.add_zero,hb.cell o] at h0
  match o,h0 with
  | 0,h0=>simp [bv] at h0
  | 1,h0=>simp [bv] at h0
  | 2,h0=>simp [bv] at h0
  | 3,h0=>simp [bv] at h0
  | o+4,h0=>simp at h0
def aLQ (w:World) (seed:UInt64) (ac sq:Int) (L:List OpR) (e:Ending) (w':World):Prop :=
 Ext w w'∧((vTx ac sq L=false∧e=.returned (.tuple #[.agg lR,.int .i64 1])) ∨ (vTx ac sq L=true∧∃ T:TxR,e=.returned (.tuple #[.agg (tA T),.int .i64 0])∧T.ok w'∧T.v=(ac,sq,L.map OpR.v,wF seed sq.toNat (bQ ac sq L))))
end
section
open Go.RowKit
def gS (na nv:Nat) (ht:Int) (H:List UInt8→UInt64) (ev:OpR→Bool) (ac:Int) (R:OpR) (S:StV):Int :=
 if R.k=3 then match fdK S.K R.lk with
  | none=>6
  | some l=>if R.tO ≠ l.tO ∨ R.am ≠ bW S.C (dS R.lk) then 7 else if H R.pre ≠ l.hs then 12 else if l.ul≤ht then 102 else 0
 else if R.k=4 then match fdK S.K R.lk with
  | none=>6
  | some l=>if R.tO ≠ l.ow ∨ R.am ≠ bW S.C (dS R.lk) then 7 else if ht < l.ul then 102 else 0
 else if R.k=6 then (if (nv:Int)≤R.va then 1 else if iV S.G R.va.toNat=true then 7 else if ev R=true then 0 else 12)
 else if R.k=5∧(nv:Int)≤R.va then 1
 else if R.k=5∧iV S.G R.va.toNat=true then 7
 else if R.k ≠ 5∧(na:Int)≤R.tO then 1
 else if R.k=2∧R.ul≤ht then 102
 else if bW S.C (aZ ac) < R.am then 100 else 0
def errN (chk:OpR→StV→Int) (ac sq:Int) (L:List OpR) (S:StV):Nat→Int
 | 0=>0
 | n+1=>if errN chk ac sq L S n ≠ 0 then errN chk ac sq L S n else chk (aY L n) (doN ac sq L S n)
theorem aFI {chk:OpR→StV→Int} {ac sq:Int} {L:List OpR} {S:StV} {k:Nat} (h:errN chk ac sq L S k ≠ 0):∀ n,k≤n→errN chk ac sq L S n=errN chk ac sq L S k:=by
  intro n
  induction n with
  | zero => intro hk; have : k = 0 := by omega
            subst this;rfl
  | succ n ih =>
    intro hk
    by_cases e:k=n+1
    · subst e;rfl
    have e1:=ih (by omega)
    show (if _ then _ else _)=_
    rw [if_pos (by rw [e1];exact h),e1]
def mW (okG:Bool) (na:Nat) (sg:Bool) (S:StV) (ac sq:Int) (L:List OpR):Int :=
 if vTx ac sq L=false ∨ okG=false ∨ (na:Int)≤ac ∨ S.Q.length ≠ na then 1
 else if sg=false then 8
 else if bQ ac sq L ∈ S.P then 7
 else if sq ≠ S.Q.getD ac.toNat 0 then 101
 else 0
def qF (chk:OpR→StV→Int) (okG:Bool) (na:Nat) (sg:Bool) (S:StV) (ac sq:Int) (L:List OpR):Int :=
 if mW okG na sg S ac sq L ≠ 0 then mW okG na sg S ac sq L else errN chk ac sq L S L.length
def aKj (S:StV) (ac sq:Int) (L:List OpR):StV :=
 ⟨(doN ac sq L S L.length).C,(doN ac sq L S L.length).Q.set ac.toNat (sq+1),(doN ac sq L S L.length).K,cM (doN ac sq L S L.length).P (bQ ac sq L),(doN ac sq L S L.length).G⟩
def xC (chk:OpR→StV→Int) (okG:Bool) (na:Nat) (sg:Bool) (S:StV) (ac sq:Int) (L:List OpR):StV :=
 if qF chk okG na sg S ac sq L=0 then aKj S ac sq L else S
section
variable {chk:OpR→StV→Int} {okG:Bool} {na:Nat} {sg:Bool} {S:StV} {ac sq:Int} {L:List OpR}
theorem aIZ (h:mW okG na sg S ac sq L=0):vTx ac sq L=true∧okG=true∧ac < (na:Int)∧S.Q.length=na∧sg=true∧bQ ac sq L ∉ S.P∧sq=S.Q.getD ac.toNat 0:=by
 unfold mW at h
 split at h
 ·cases h
 rename_i h1
 split at h
 ·cases h
 rename_i h2
 split at h
 ·cases h
 rename_i h3
 split at h
 ·cases h
 rename_i h4
 simp only [not_or,Bool.not_eq_false,Decidable.not_not] at h1 h2 h4
 exact ⟨h1.1,h1.2.1,by omega,h1.2.2.2,h2,h3,h4⟩
end
end
section
open Go.RowKit
attribute [local go_sem ↓] Go.wp_at_zero Go.wp_at_succ
theorem mH {P:Program} {t:TypeId} {ops:Array Oper} {o:Oper} {a:Act} {w:World} {K:Act→World→Prop} {Q:Exit→Act→World→Prop} {X:Prop} (hgd:o.guard=none) (s x:Operand) (ho:o.op=.call { callee:=.builtin .append,args:=#[s,x],argTypes:=#[t,t] })
  (vs vx:Value) (hs:a.eval s=vs) (hx:a.eval x=vx) (v':Value) (w':World) (hr:(Builtin.append_ #[t,t] o.type #[vs,vx]).run P w=.ok v' w') (h:K (a.put o.dst v') w'):if Region.wanted o (yielded ops a.tmps)=true then Oper.wp P o a w K Q else X:=by
 have hw:Region.wanted o (yielded ops a.tmps)=true:=by simp [Region.wanted,hgd]
 rw [if_pos hw]
 unfold Oper.wp execOp
 simp only [ho,resolve,invoke,builtin,Sem.run_bind,Sem.run_pure,Result.andThen_ok,List.map_toArray,List.map_cons,List.map_nil,hs,hx,hr]
 exact h
theorem aFL (base g n c:Nat) (L:List DeR) (i:Nat) (w:World) (h:w.ownsRow base 34 11 (.slice (some ⟨g,0,none⟩) n c) n (gcs L)) (hn:n≤1000000000) (hi:i < n) :
  Calls Tryz.prog 102 #[.slice (some ⟨g,0,none⟩) n c,.int .i64 (i:Int),.int .i64 ((i+1:Nat):Int)] w (gO w base 34 11 (some ⟨g,0,none⟩) n c (n - 1) (gcs (L.take i ++ L.drop (i+1)))):=by
 obtain ⟨hle,hcap⟩:=dN h
 have HLEN:=zh (show L.length=n from OwnG.len (e:=34) h)
 have HO:=zh h.drew
 obtain ⟨ti,hti,htz,htsz,htby⟩:=Elem.get deE
 have hsrc0:∀ k v,(gcs L)[k]?=some v→w.cell? ⟨g,k,none⟩=some v:=fun k v hv=>by
  obtain ⟨g',hgg,_,hra⟩:=cF h (by omega)
  obtain rfl:g=g':=by injection hgg with h1;injection h1
  have:=hra k v hv;rwa [Nat.zero_add] at this
 have hdl:(gcs (L.drop (i+1))).length=(n - (i+1)) * 11:=by rw [aH,List.length_drop,HLEN.out];rfl
 have hfit:i * 11+(n - (i+1)) * 11≤n * 11:=by rw [← Nat.add_mul];exact Nat.mul_le_mul_right _ (by omega)
 have hxl:(gcs L).length=n * 11:=by rw [aH,HLEN.out];rfl
 obtain ⟨ad,had⟩:∃ ad:Addr,(if c=i+1 then ⟨g,0,none⟩ else (⟨g,(i+1) * 11,none⟩:Addr))=ad:=⟨_,rfl⟩
 have hnews:∀ j u,(gcs (L.drop (i+1)))[j]?=some u→w.drew.cell? (ad.add j)=some u:=fun j u hu=>by
  have hj:=(List.getElem?_eq_some_iff.1 hu).1
  rw [hdl] at hj
  by_cases hc:c=i+1
  ·have : n - (i + 1) = 0 := by omega
   rw [this] at hj;omega
  rw [← had,if_neg hc,Addr.add_mid]
  show w.cell? _=_
  refine hsrc0 _ u ?_
  rw [← eC,List.getElem?_drop] at hu
  exact hu
 have hrun:=fun ty=>run_append_room_cells (P:=Tryz.prog) (w:=w.drew) 27 ty 34 ti (Elem.ut deE) hti g 0 i c ad (n - (i+1)) (c - (i+1)) (gcs (L.drop (i+1))) (by rw [htsz];exact hdl) hnews (cD _) (by omega)
  (fun j hj=>by rw [htsz,Nat.zero_add,h.drew.cellAt (i * 11+j) (by omega),List.getElem?_eq_getElem (by omega)];rfl) (fun j hj=>by rw [htsz,Nat.zero_add];exact h.drew.frozenAt _)
 rw [htsz,Nat.zero_add,show i+(n - (i+1))=n - 1 by omega] at hrun
 have hsp:=jM (gcs (L.drop (i+1))) (i * 11) w.drew (gcs L) (by omega) h.drew
 obtain ⟨W1,hW1⟩:∃ W1,w.drew.setCells g (i * 11) (gcs (L.drop (i+1)))=W1:=⟨_,rfl⟩
 rw [hW1] at hrun hsp
 have HRUN:=zh hrun
 have HG1:=zh (show w.grownBy W1 (some g) from Grown.trans (Ext.grown ((Ext.refl w).drew') _) hsp.2)
 have HO1:=zh hsp.1
 have HDC:=zh (show (splice (gcs L) (i * 11) (gcs (L.drop (i+1)))).take ((n - 1) * 11)=gcs (L.take i ++ L.drop (i+1)) from by
  have:=rG L (i:=i) (by rw [HLEN.out];exact hi);rw [HLEN.out] at this;exact this)
 have hcl:=fun ty=>aEd deE (by decide) W1 ty g ((n - 1) * 11) 1 (c - (n - 1)) (by omega) (fun j hj=>by
  have hh:=Nat.mul_le_mul_right 11 (show (n - 1)+1≤n by omega)
  rw [Nat.add_mul] at hh
  rw [HO1.out.cellAt ((n - 1) * 11+j) (by omega),List.getElem?_eq_getElem (by rw [HO1.out.1];omega)];rfl) (fun j hj=>HO1.out.frozenAt _)
 obtain ⟨xs',o1,o2,o3⟩:=uF (Builtin.zeroCells (Value.agg de0).cells 1).toList ((n - 1) * 11) W1 _ HO1.out
 have HEND:=zh (show (W1.setCells g ((n - 1) * 11) (Builtin.zeroCells (Value.agg de0).cells 1).toList).ownsRow base 34 11 (.slice (some ⟨g,0,none⟩) (n - 1) c) (n - 1) (gcs (L.take i ++ L.drop (i+1))) from by
  have:=sV o1 (i:=n - 1) (by omega) (by simp)
  rw [o2,HDC.out] at this;exact this)
 have HG2:=zh (Grown.trans HG1.out o3)
 obtain ⟨W2,hW2⟩:∃ W2,W1.setCells g ((n - 1) * 11) (Builtin.zeroCells (Value.agg de0).cells 1).toList=W2:=⟨_,rfl⟩
 rw [hW2] at hcl HEND HG2
 have HAD:=zh had
 have i0:(0:Int)≤(i:Int):=by omega
 have i1:(i:Int)+1≤(n:Int):=by omega
 have i2:(n:Int)≤(c:Int):=by omega
 have i3:(i:Int)≤(n:Int):=by omega
 have i4:¬ c=i:=by omega
 have i6:(i:Int)≤(c:Int):=by omega
 have i7:¬ n=i:=by omega
 have i8:¬ c=n - 1:=by omega
 have i9:((n - 1:Nat):Int)≤(n:Int):=by omega
 have i10:(0:Int)≤(i:Int)+1:=by omega
 have i11:((i:Int)+1).toNat=i+1:=by omega
 have i12:¬ (i:Int)+1 < 0:=by omega
 have i13:n - (n - 1)=1:=by omega
 have HI:=zh hi
 clear h hsrc0 hnews hrun hsp hW1 hW2 o1 o2 o3 hti htz htsz htby hdl hfit hxl had
 go_enter Tryz.func102,Tryz.ntmps102
 go_wp2_with fail
 refine wp_region_held_drew (S:=fun W=>True) (by kernel_rfl) (trivial) (fun aA=>?_)
 refine zzr [0,1,2,3,4] ?_
 refine zu 5 (v:=.slice (some ad) (n - (i+1)) (c - (i+1))) aA ?_ (hy:=by (rcases Classical.em (c=i+1) with hc | hc <;> (refine Or.inl ⟨by rfl,fun W _=>?_⟩;rw [← HAD.out];(first | rw [if_pos hc] | rw [if_neg hc]);go_simp <;> with_reducible rfl)))
 refine za 6 (fun K hK=>?_)
 (refine mH rfl (.tmp 22) (.tmp 25) rfl (.slice (some ⟨g,0,none⟩) i c) (.slice (some ad) (n - (i+1)) (c - (i+1))) (by rfl) (by rfl) _ _ (HRUN.out _) ?_)
 refine hK.out _ _ (trivial) (fun aA=>?_)
 clear hK K
 try simp only [aS]
 refine zt 7 aA ?_
 refine wpAnyH_done (by kernel_rfl) ?_ _
 clear HRUN
 go_wp2_with fail
 go_ret
 exact ⟨some ⟨g,0,none⟩,c,rfl,HEND.out,HG2.out⟩
theorem aFK (base g n c:Nat) (L:List LkR) (i:Nat) (w:World) (h:w.ownsRow base 94 19 (.slice (some ⟨g,0,none⟩) n c) n (gcs L)) (hn:n≤1000000000) (hi:i < n) :
  Calls Tryz.prog 156 #[.slice (some ⟨g,0,none⟩) n c,.int .i64 (i:Int),.int .i64 ((i+1:Nat):Int)] w (gO w base 94 19 (some ⟨g,0,none⟩) n c (n - 1) (gcs (L.take i ++ L.drop (i+1)))):=by
 obtain ⟨hle,hcap⟩:=dN h
 have HLEN:=zh (show L.length=n from OwnG.len (e:=94) h)
 have HO:=zh h.drew
 obtain ⟨ti,hti,htz,htsz,htby⟩:=Elem.get lkE
 have hsrc0:∀ k v,(gcs L)[k]?=some v→w.cell? ⟨g,k,none⟩=some v:=fun k v hv=>by
  obtain ⟨g',hgg,_,hra⟩:=cF h (by omega)
  obtain rfl:g=g':=by injection hgg with h1;injection h1
  have:=hra k v hv;rwa [Nat.zero_add] at this
 have hdl:(gcs (L.drop (i+1))).length=(n - (i+1)) * 19:=by rw [aH,List.length_drop,HLEN.out];rfl
 have hfit:i * 19+(n - (i+1)) * 19≤n * 19:=by rw [← Nat.add_mul];exact Nat.mul_le_mul_right _ (by omega)
 have hxl:(gcs L).length=n * 19:=by rw [aH,HLEN.out];rfl
 obtain ⟨ad,had⟩:∃ ad:Addr,(if c=i+1 then ⟨g,0,none⟩ else (⟨g,(i+1) * 19,none⟩:Addr))=ad:=⟨_,rfl⟩
 have hnews:∀ j u,(gcs (L.drop (i+1)))[j]?=some u→w.drew.cell? (ad.add j)=some u:=fun j u hu=>by
  have hj:=(List.getElem?_eq_some_iff.1 hu).1
  rw [hdl] at hj
  by_cases hc:c=i+1
  ·have : n - (i + 1) = 0 := by omega
   rw [this] at hj;omega
  rw [← had,if_neg hc,Addr.add_mid]
  show w.cell? _=_
  refine hsrc0 _ u ?_
  rw [← eC,List.getElem?_drop] at hu
  exact hu
 have hrun:=fun ty=>run_append_room_cells (P:=Tryz.prog) (w:=w.drew) 41 ty 94 ti (Elem.ut lkE) hti g 0 i c ad (n - (i+1)) (c - (i+1)) (gcs (L.drop (i+1))) (by rw [htsz];exact hdl) hnews (cD _) (by omega)
  (fun j hj=>by rw [htsz,Nat.zero_add,h.drew.cellAt (i * 19+j) (by omega),List.getElem?_eq_getElem (by omega)];rfl) (fun j hj=>by rw [htsz,Nat.zero_add];exact h.drew.frozenAt _)
 rw [htsz,Nat.zero_add,show i+(n - (i+1))=n - 1 by omega] at hrun
 have hsp:=jM (gcs (L.drop (i+1))) (i * 19) w.drew (gcs L) (by omega) h.drew
 obtain ⟨W1,hW1⟩:∃ W1,w.drew.setCells g (i * 19) (gcs (L.drop (i+1)))=W1:=⟨_,rfl⟩
 rw [hW1] at hrun hsp
 have HRUN:=zh hrun
 have HG1:=zh (show w.grownBy W1 (some g) from Grown.trans (Ext.grown ((Ext.refl w).drew') _) hsp.2)
 have HO1:=zh hsp.1
 have HDC:=zh (show (splice (gcs L) (i * 19) (gcs (L.drop (i+1)))).take ((n - 1) * 19)=gcs (L.take i ++ L.drop (i+1)) from by
  have:=rG L (i:=i) (by rw [HLEN.out];exact hi);rw [HLEN.out] at this;exact this)
 have hcl:=fun ty=>aEd lkE (by decide) W1 ty g ((n - 1) * 19) 1 (c - (n - 1)) (by omega) (fun j hj=>by
  have hh:=Nat.mul_le_mul_right 19 (show (n - 1)+1≤n by omega)
  rw [Nat.add_mul] at hh
  rw [HO1.out.cellAt ((n - 1) * 19+j) (by omega),List.getElem?_eq_getElem (by rw [HO1.out.1];omega)];rfl) (fun j hj=>HO1.out.frozenAt _)
 obtain ⟨xs',o1,o2,o3⟩:=uF (Builtin.zeroCells (Value.agg lk0).cells 1).toList ((n - 1) * 19) W1 _ HO1.out
 have HEND:=zh (show (W1.setCells g ((n - 1) * 19) (Builtin.zeroCells (Value.agg lk0).cells 1).toList).ownsRow base 94 19 (.slice (some ⟨g,0,none⟩) (n - 1) c) (n - 1) (gcs (L.take i ++ L.drop (i+1))) from by
  have:=sV o1 (i:=n - 1) (by omega) (by simp)
  rw [o2,HDC.out] at this;exact this)
 have HG2:=zh (Grown.trans HG1.out o3)
 obtain ⟨W2,hW2⟩:∃ W2,W1.setCells g ((n - 1) * 19) (Builtin.zeroCells (Value.agg lk0).cells 1).toList=W2:=⟨_,rfl⟩
 rw [hW2] at hcl HEND HG2
 have HAD:=zh had
 have i0:(0:Int)≤(i:Int):=by omega
 have i1:(i:Int)+1≤(n:Int):=by omega
 have i2:(n:Int)≤(c:Int):=by omega
 have i3:(i:Int)≤(n:Int):=by omega
 have i4:¬ c=i:=by omega
 have i6:(i:Int)≤(c:Int):=by omega
 have i7:¬ n=i:=by omega
 have i8:¬ c=n - 1:=by omega
 have i9:((n - 1:Nat):Int)≤(n:Int):=by omega
 have i10:(0:Int)≤(i:Int)+1:=by omega
 have i11:((i:Int)+1).toNat=i+1:=by omega
 have i12:¬ (i:Int)+1 < 0:=by omega
 have i13:n - (n - 1)=1:=by omega
 have HI:=zh hi
 clear h hsrc0 hnews hrun hsp hW1 hW2 o1 o2 o3 hti htz htsz htby hdl hfit hxl had
 go_enter Tryz.func156,Tryz.ntmps156
 go_wp2_with fail
 refine wp_region_held_drew (S:=fun W=>True) (by kernel_rfl) (trivial) (fun aA=>?_)
 refine zzr [0,1,2,3,4] ?_
 refine zu 5 (v:=.slice (some ad) (n - (i+1)) (c - (i+1))) aA ?_ (hy:=by (rcases Classical.em (c=i+1) with hc | hc <;> (refine Or.inl ⟨by rfl,fun W _=>?_⟩;rw [← HAD.out];(first | rw [if_pos hc] | rw [if_neg hc]);go_simp <;> with_reducible rfl)))
 refine za 6 (fun K hK=>?_)
 (refine mH rfl (.tmp 22) (.tmp 25) rfl (.slice (some ⟨g,0,none⟩) i c) (.slice (some ad) (n - (i+1)) (c - (i+1))) (by rfl) (by rfl) _ _ (HRUN.out _) ?_)
 refine hK.out _ _ (trivial) (fun aA=>?_)
 clear hK K
 try simp only [aS]
 refine zt 7 aA ?_
 refine wpAnyH_done (by kernel_rfl) ?_ _
 clear HRUN
 go_wp2_with fail
 go_ret
 exact ⟨some ⟨g,0,none⟩,c,rfl,HEND.out,HG2.out⟩
end
end Go.Proofs.YtohmmcahpakokaaGreat
