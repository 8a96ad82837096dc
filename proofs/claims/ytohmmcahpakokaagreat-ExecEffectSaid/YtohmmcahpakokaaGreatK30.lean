/- What transactions do tO a state (plain). -/
import Derived.Test.YtohmmcahpakokaaGreatK03
import Derived.Test.YtohmmcahpakokaaGreatK23
import Derived.Test.YtohmmcahpakokaaGreatK26
set_option maxRecDepth 100000
set_option maxHeartbeats 8000000
set_option linter.unusedVariables false
set_option linter.unusedSimpArgs false
namespace Go.Proofs.YtohmmcahpakokaaGreat
open Go.RowKit
def effO (ac sq:Int) (L:List OpR) (i:Nat):List DeR :=
 if (nthO L i).k=1 then movC (balC ac) (balC (nthO L i).tO) (nthO L i).am
 else if (nthO L i).k=2 then movC (balC ac) (lckC (lockNm ac sq L (i:Int))) (nthO L i).am
 else if (nthO L i).k=3 ∨ (nthO L i).k=4 then movC (lckC (nthO L i).lk) (balC (nthO L i).tO) (nthO L i).am
 else if (nthO L i).k=5 then movC (balC ac) (stkC (nthO L i).va) (nthO L i).am
 else []
def effN (ac sq:Int) (L:List OpR) (n:Nat):List DeR:=(List.range n).flatMap (effO ac sq L)
def effT (ac sq:Int) (L:List OpR):List DeR:=if vTx ac sq L=true then effN ac sq L L.length else []
theorem effN_succ (ac sq:Int) (L:List OpR) (n:Nat):effN ac sq L (n+1)=effN ac sq L n ++ effO ac sq L n:=by
 unfold effN;rw [List.range_succ,List.flatMap_append,List.flatMap_cons,List.flatMap_nil,List.append_nil]
theorem sum_append (l m:List DeR):sumC (l ++ m)=sumC l+sumC m:=by unfold sumC;rw [List.map_append,List.sum_append]
theorem sum_effO (ac sq:Int) (L:List OpR) (i:Nat):wr (sumC (effO ac sq L i))=0:=by
 unfold effO
 split
 ·exact sum_mov ..
 ·split
  ·exact sum_mov ..
  ·split
   ·exact sum_mov ..
   ·split
    ·exact sum_mov ..
    ·rfl
theorem sum_effN (ac sq:Int) (L:List OpR) (n:Nat):wr (sumC (effN ac sq L n))=0:=by
 induction n with
 | zero=>rfl
 | succ n ih=>rw [effN_succ,sum_append,← wr_add,ih,← wr_add',sum_effO];rfl
theorem sum_effT (ac sq:Int) (L:List OpR):wr (sumC (effT ac sq L))=0:=by
 unfold effT;split
 ·exact sum_effN ..
 ·rfl
def outN (L:List OpR) (n:Nat):Int:=wr ((L.take n).map OpR.am).sum
def outT (ac sq:Int) (L:List OpR):Int:=if vTx ac sq L=true then outN L L.length else 0
def addS (S:StV) (l:List DeR):StV:=⟨addL S.C l,S.Q,S.K,S.P,S.G⟩
def expS1 (g:Int) (S:StV) (i:Nat):StV :=
 if hasM g i=true∧hasM S.G i=false then ⟨addL S.C (movC (stkC (i:Int)) polC (getC S.C (stkC (i:Int)))),S.Q,S.K,S.P,addM S.G i⟩ else S
def expN (g:Int) (S:StV) (n:Nat):StV:=(List.range n).foldl (expS1 g) S
def expS (g:Int) (S:StV):StV:=expN g S 10
theorem expN_succ (g:Int) (S:StV) (n:Nat):expN g S (n+1)=expS1 g (expN g S n) n:=by
 unfold expN;rw [List.range_succ,List.foldl_append];rfl
def chgO (ac sq:Int) (L:List OpR) (S:StV) (i:Nat):StV :=
 if (nthO L i).k=2 then ⟨S.C,S.Q,openK S.K ⟨lockNm ac sq L (i:Int),(nthO L i).hs,ac,(nthO L i).tO,(nthO L i).ul⟩,S.P,S.G⟩
 else if (nthO L i).k=3 ∨ (nthO L i).k=4 then ⟨S.C,S.Q,closeK (nthO L i).lk S.K,S.P,S.G⟩
 else if (nthO L i).k=6 then expS (2 ^ (nthO L i).va.toNat) S
 else S
def doO (ac sq:Int) (L:List OpR) (S:StV) (i:Nat):StV:=chgO ac sq L (addS S (effO ac sq L i)) i
def doN (ac sq:Int) (L:List OpR) (S:StV) (n:Nat):StV:=(List.range n).foldl (doO ac sq L) S
theorem doN_succ (ac sq:Int) (L:List OpR) (S:StV) (n:Nat):doN ac sq L S (n+1)=doO ac sq L (doN ac sq L S n) n:=by
 unfold doN;rw [List.range_succ,List.foldl_append];rfl
theorem expN_QP (g:Int) (S:StV) (n:Nat):(expN g S n).Q=S.Q∧(expN g S n).P=S.P:=by
 induction n with
 | zero=>exact ⟨rfl,rfl⟩
 | succ n ih =>
  rw [expN_succ];unfold expS1;split
  ·exact ih
  ·exact ih
theorem chg_QP (ac sq:Int) (L:List OpR) (S:StV) (i:Nat):(chgO ac sq L S i).Q=S.Q∧(chgO ac sq L S i).P=S.P:=by
 unfold chgO
 split
 ·exact ⟨rfl,rfl⟩
 ·split
  ·exact ⟨rfl,rfl⟩
  ·split
   ·exact expN_QP _ _ _
   ·exact ⟨rfl,rfl⟩
theorem doN_QP (ac sq:Int) (L:List OpR) (S:StV) (n:Nat):(doN ac sq L S n).Q=S.Q∧(doN ac sq L S n).P=S.P:=by
 induction n with
 | zero=>exact ⟨rfl,rfl⟩
 | succ n ih =>
  rw [doN_succ]
  have:=chg_QP ac sq L (addS (doN ac sq L S n) (effO ac sq L n)) n
  exact ⟨this.1.trans ih.1,this.2.trans ih.2⟩
def nxtQ (Q:List Int) (ac sq:Int):List Int:=if ac < (Q.length:Int) then Q.set ac.toNat (max (Q.getD ac.toNat 0) (sq+1)) else Q
def repS (S:StV) (ac sq:Int) (L:List OpR):StV :=
 if vTx ac sq L=false ∨ txNm ac sq L ∈ S.P then S
 else ⟨(doN ac sq L S L.length).C,nxtQ (doN ac sq L S L.length).Q ac sq,(doN ac sq L S L.length).K,markP (doN ac sq L S L.length).P (txNm ac sq L),(doN ac sq L S L.length).G⟩
def chkO (na nv:Nat) (ht:Int) (H:List UInt8→UInt64) (ev:OpR→Bool) (ac:Int) (R:OpR) (S:StV):Int :=
 if R.k=3 then match fdK S.K R.lk with
  | none=>6
  | some l=>if R.tO ≠ l.tO ∨ R.am ≠ getC S.C (lckC R.lk) then 7 else if H R.pre ≠ l.hs then 12 else if l.ul≤ht then 102 else 0
 else if R.k=4 then match fdK S.K R.lk with
  | none=>6
  | some l=>if R.tO ≠ l.ow ∨ R.am ≠ getC S.C (lckC R.lk) then 7 else if ht < l.ul then 102 else 0
 else if R.k=6 then (if (nv:Int)≤R.va then 1 else if hasM S.G R.va.toNat=true then 7 else if ev R=true then 0 else 12)
 else if R.k=5∧(nv:Int)≤R.va then 1
 else if R.k=5∧hasM S.G R.va.toNat=true then 7
 else if R.k ≠ 5∧(na:Int)≤R.tO then 1
 else if R.k=2∧R.ul≤ht then 102
 else if getC S.C (balC ac) < R.am then 100 else 0
def errN (chk:OpR→StV→Int) (ac sq:Int) (L:List OpR) (S:StV):Nat→Int
 | 0=>0
 | n+1=>if errN chk ac sq L S n ≠ 0 then errN chk ac sq L S n else chk (nthO L n) (doN ac sq L S n)
theorem errN_stay {chk:OpR→StV→Int} {ac sq:Int} {L:List OpR} {S:StV} {k:Nat} (h:errN chk ac sq L S k ≠ 0):∀ n,k≤n→errN chk ac sq L S n=errN chk ac sq L S k:=by
  intro n
  induction n with
  | zero => intro hk; have : k = 0 := by omega
            subst this;rfl
  | succ n ih =>
    intro hk
    by_cases e:k=n+1
    · subst e;rfl
    · have e1 := ih (by omega)
      show (if _ then _ else _)=_
      rw [if_pos (by rw [e1];exact h),e1]
def bgnE (okG:Bool) (na:Nat) (sg:Bool) (S:StV) (ac sq:Int) (L:List OpR):Int :=
 if vTx ac sq L=false ∨ okG=false ∨ (na:Int)≤ac ∨ S.Q.length ≠ na then 1
 else if sg=false then 8
 else if txNm ac sq L ∈ S.P then 7
 else if sq ≠ S.Q.getD ac.toNat 0 then 101
 else 0
def exeC (chk:OpR→StV→Int) (okG:Bool) (na:Nat) (sg:Bool) (S:StV) (ac sq:Int) (L:List OpR):Int :=
 if bgnE okG na sg S ac sq L ≠ 0 then bgnE okG na sg S ac sq L else errN chk ac sq L S L.length
def exeT (S:StV) (ac sq:Int) (L:List OpR):StV :=
 ⟨(doN ac sq L S L.length).C,(doN ac sq L S L.length).Q.set ac.toNat (sq+1),(doN ac sq L S L.length).K,markP (doN ac sq L S L.length).P (txNm ac sq L),(doN ac sq L S L.length).G⟩
def exeS (chk:OpR→StV→Int) (okG:Bool) (na:Nat) (sg:Bool) (S:StV) (ac sq:Int) (L:List OpR):StV :=
 if exeC chk okG na sg S ac sq L=0 then exeT S ac sq L else S
section
variable {chk:OpR→StV→Int} {okG:Bool} {na:Nat} {sg:Bool} {S:StV} {ac sq:Int} {L:List OpR}
theorem bgnE_ok (h:bgnE okG na sg S ac sq L=0):vTx ac sq L=true∧okG=true∧ac < (na:Int)∧S.Q.length=na∧sg=true∧txNm ac sq L ∉ S.P∧sq=S.Q.getD ac.toNat 0:=by
 unfold bgnE at h
 split at h
 ·cases h
 ·rename_i h1
  split at h
  ·cases h
  ·rename_i h2
   split at h
   ·cases h
   ·rename_i h3
    split at h
    ·cases h
    ·rename_i h4
     simp only [not_or,Bool.not_eq_false,Decidable.not_not] at h1 h2 h4
     exact ⟨h1.1,h1.2.1,by omega,h1.2.2.2,h2,h3,h4⟩
end
end Go.Proofs.YtohmmcahpakokaaGreat
namespace Go.Proofs.YtohmmcahpakokaaGreat
open Go.RowKit
attribute [local go_sem ↓] Go.wp_at_zero Go.wp_at_succ
theorem ssA_all (s:StR):(ssA s).all (·.oneCell')=true:=by simp [Value.oneCell']
section
variable {ops:Array Oper} {o:Oper} {a:Act} {w:World} {K:Act→World→Prop} {Q:Exit→Act→World→Prop} {X:Prop}
theorem step_storeSs (hgd:o.guard=none) (x y:Operand) (ho:o.op=.store 44 x y) (g:Nat) (v:Value) (s:StR) (hv:Value.agg (ssA s)=v) (hx:a.eval x=.pointer (some ⟨g,0,none⟩)) (hy:a.eval y=v) {z:StR} (hb:Blk w g 44 (ssA z))
  (h:∀ W,Hid (w.setCells g 0 (ssA s).toList=W∧Blk W g 44 (ssA s))→K (a.put o.dst undef) W):if Region.wanted o (yielded ops a.tmps)=true then Oper.wp Tryz.prog o a w K Q else X:=by
 have hw:Region.wanted o (yielded ops a.tmps)=true:=by simp [Region.wanted,hgd]
 rw [if_pos hw]
 exact wp_store_mid (P:=Tryz.prog) (Q:=Q) (op:=o) (K:=K) 44 x y ho g 0 (ssA s) hx (by rw [hy,hv]) (show w.there g 0 (ssA z).size from there_of_blk hb) (by kernel_rfl) (ssA_all s) (h _ (zh ⟨rfl,blk_whole (ds:=ssA s) hb rfl⟩))
end
theorem stClone_any (s:StR) (w:World) (h:s.ok w) (hn:s.n1≤1000000∧s.n2≤1000000∧s.n3≤1000000∧s.n4≤1000000):Calls Tryz.prog 51 #[.agg (ssA s)] w (StOut w s.V):=by
 have HP:=zh (show Blk ((w.alloc (.cells (ssA s) 44)).alloc (.cells (ssA ss0) 44)).drew w.heap.size 44 (ssA s) from ((Blk.new w 44 (ssA s)).alloc _).drew)
 have HZ:=zh (show Blk ((w.alloc (.cells (ssA s) 44)).alloc (.cells (ssA ss0) 44)).drew (w.heap.size+1) 44 (ssA ss0) from Blk.drew (Blk.newAt _ _ _ _ (by simp)))
 have HEW:=zh (show Ext w ((w.alloc (.cells (ssA s) 44)).alloc (.cells (ssA ss0) 44)).drew from (((Ext.refl w).alloc' _).alloc' _).drew')
 have HS:=zh (h.ext HEW.out)
 have HW:=zh HEW.out.size
 have HO:=zh h
 have hn1:s.n1≤1000000000:=by omega
 have hn2:s.n2≤1000000000:=by omega
 have hn3:s.n3≤1000000000:=by omega
 have hn4:s.n4≤1000000000:=by omega
 clear h hn
 go_enter Tryz.func51,Tryz.ntmps51
 go_wp2_with fail
 refine wp_region_held_drew (S:=fun W=>Blk W w.heap.size 44 (ssA s)∧(∃ z,Blk W (w.heap.size+1) 44 (ssA z))∧Ext w W) (by kernel_rfl) (⟨HP.out,⟨ss0,HZ.out⟩,HEW.out⟩) (fun hHeld=>?_)
 refine zt 0 hHeld ?_
 (refine zt 1 hHeld ?_ (hy:=by intro W hSW;obtain ⟨c0,c1,c2,c3,c4⟩:=ss_facts hSW.1;go_simp <;> with_reducible rfl))
 refine zt 3 hHeld ?_
 (refine zt 4 hHeld ?_ (hy:=by intro W hSW;obtain ⟨c0,c1,c2,c3,c4⟩:=ss_facts hSW.1;go_simp <;> with_reducible rfl))
 refine zt 6 hHeld ?_
 (refine zt 7 hHeld ?_ (hy:=by intro W hSW;obtain ⟨c0,c1,c2,c3,c4⟩:=ss_facts hSW.1;go_simp <;> with_reducible rfl))
 refine zt 9 hHeld ?_
 (refine zt 10 hHeld ?_ (hy:=by intro W hSW;obtain ⟨c0,c1,c2,c3,c4⟩:=ss_facts hSW.1;go_simp <;> with_reducible rfl))
 refine zt 12 hHeld ?_
 (refine zt 13 hHeld ?_ (hy:=by intro W hSW;obtain ⟨c0,c1,c2,c3,c4⟩:=ss_facts hSW.1;go_simp <;> with_reducible rfl))
 refine held_joint (VV 2 (fun v W=>∃ A c,v=.slice A s.n1 c∧W.ownsRow w.heap.size 34 11 (.slice A s.n1 c) s.n1 (gcs s.C)) (VV 5 (fun v W=>∃ A c,v=.slice A s.n2 c∧W.ownsRow w.heap.size 3 1 (.slice A s.n2 c) s.n2 (gcs s.Q)) (VV 8 (fun v W=>∃ A c,v=.slice A s.n3 c∧W.ownsRow w.heap.size 94 19 (.slice A s.n3 c) s.n3 (gcs s.K)) (VV 11 (fun v W=>∃ A c,v=.slice A s.n4 c∧W.ownsRow w.heap.size 30 8 (.slice A s.n4 c) s.n4 (gcs s.P)) (VN))))) [(2,some 5),(5,some 8),(8,some 11),(11,some 14)] (fuel:=2) (by kernel_rfl) (by kernel_rfl) (fun W W' h e=>⟨h.1.ext e,(by obtain ⟨z,hz⟩:=h.2.1;exact ⟨z,hz.ext e⟩),h.2.2.trans e⟩) (VV.ext (fun v w w' ⟨A,c,h1,h2⟩ e=>⟨A,c,h1,own_ext h2 e⟩) (VV.ext (fun v w w' ⟨A,c,h1,h2⟩ e=>⟨A,c,h1,own_ext h2 e⟩) (VV.ext (fun v w w' ⟨A,c,h1,h2⟩ e=>⟨A,c,h1,own_ext h2 e⟩) (VV.ext (fun v w w' ⟨A,c,h1,h2⟩ e=>⟨A,c,h1,own_ext h2 e⟩) (VN.ext))))) hHeld ?hm1 rfl ?hr1
 case hm1 =>
  refine Members.cons ?mm1_2 (Members.cons ?mm1_5 (Members.cons ?mm1_8 (Members.cons ?mm1_11 (Members.nil _))))
  case mm1_2 =>
   refine zm [] (fun env W hE hS hD K hK=>?_)
   clear hD
   try simp only [layj]
   go_simp
   go_at_call 90
   refine (cloneDe_any s.A1 s.n1 s.c1 s.C _ (HO.out.ext hS.2.2).s1 hn1).mono ?_
   rintro e w5 ⟨A5,c5,rfl,ho5,he5⟩
   have hk:=hK.out (.slice A5 s.n1 c5) _ (he5) (⟨A5,c5,rfl,own_mono ho5 (Nat.le_trans HW.out hE.size)⟩)
   try simp only [layj] at hk
   exact hk
  case mm1_5 =>
   refine zm [] (fun env W hE hS hD K hK=>?_)
   clear hD
   try simp only [layj]
   go_simp
   go_at_call 91
   refine (cloneIn_any s.A2 s.n2 s.c2 s.Q _ (HO.out.ext hS.2.2).s2 hn2).mono ?_
   rintro e w5 ⟨A5,c5,rfl,ho5,he5⟩
   have hk:=hK.out (.slice A5 s.n2 c5) _ (he5) (⟨A5,c5,rfl,own_mono ho5 (Nat.le_trans HW.out hE.size)⟩)
   try simp only [layj] at hk
   exact hk
  case mm1_8 =>
   refine zm [] (fun env W hE hS hD K hK=>?_)
   clear hD
   try simp only [layj]
   go_simp
   go_at_call 92
   refine (cloneLk_any s.A3 s.n3 s.c3 s.K _ (HO.out.ext hS.2.2).s3 hn3).mono ?_
   rintro e w5 ⟨A5,c5,rfl,ho5,he5⟩
   have hk:=hK.out (.slice A5 s.n3 c5) _ (he5) (⟨A5,c5,rfl,own_mono ho5 (Nat.le_trans HW.out hE.size)⟩)
   try simp only [layj] at hk
   exact hk
  case mm1_11 =>
   refine zm [] (fun env W hE hS hD K hK=>?_)
   clear hD
   try simp only [layj]
   go_simp
   go_at_call 93
   refine (cloneNm_any s.A4 s.n4 s.c4 s.P _ (HO.out.ext hS.2.2).s4 hn4).mono ?_
   rintro e w5 ⟨A5,c5,rfl,ho5,he5⟩
   have hk:=hK.out (.slice A5 s.n4 c5) _ (he5) (⟨A5,c5,rfl,own_mono ho5 (Nat.le_trans HW.out hE.size)⟩)
   try simp only [layj] at hk
   exact hk
 case hr1 =>
  intro env W hE hS hV
  have h2:(fun v W=>∃ A c,v=.slice A s.n1 c∧W.ownsRow w.heap.size 34 11 (.slice A s.n1 c) s.n1 (gcs s.C)) (env 2) W:=hV (2,some 5) (by simp)
  have h5:(fun v W=>∃ A c,v=.slice A s.n2 c∧W.ownsRow w.heap.size 3 1 (.slice A s.n2 c) s.n2 (gcs s.Q)) (env 5) W:=hV (5,some 8) (by simp)
  have h8:(fun v W=>∃ A c,v=.slice A s.n3 c∧W.ownsRow w.heap.size 94 19 (.slice A s.n3 c) s.n3 (gcs s.K)) (env 8) W:=hV (8,some 11) (by simp)
  have h11:(fun v W=>∃ A c,v=.slice A s.n4 c∧W.ownsRow w.heap.size 30 8 (.slice A s.n4 c) s.n4 (gcs s.P)) (env 11) W:=hV (11,some 14) (by simp)
  clear hV
  try simp only [layj]
  generalize env 2=x2 at h2 ⊢
  generalize env 5=x5 at h5 ⊢
  generalize env 8=x8 at h8 ⊢
  generalize env 11=x11 at h11 ⊢
  obtain ⟨A1,c1,rfl,k1⟩:=h2
  obtain ⟨A2,c2,rfl,k2⟩:=h5
  obtain ⟨A3,c3,rfl,k3⟩:=h8
  obtain ⟨A4,c4,rfl,k4⟩:=h11
  have HK1:=zh k1
  have HK2:=zh k2
  have HK3:=zh k3
  have HK4:=zh k4
  clear k1 k2 k3 k4
  have hHeld:=hS
  refine zt 14 hHeld ?_
  refine za 15 (fun K hK=>?_)
  (obtain ⟨z6,hz6⟩:=hHeld.2.1;refine step_storeSs rfl (.tmp 2) (.tmp 17) (by rfl) (w.heap.size+1) (.agg (ssA ⟨A1,s.n1,c1,s.C,A2,s.n2,c2,s.Q,A3,s.n3,c3,s.K,A4,s.n4,c4,s.P,s.G⟩)) ⟨A1,s.n1,c1,s.C,A2,s.n2,c2,s.Q,A3,s.n3,c3,s.K,A4,s.n4,c4,s.P,s.G⟩ rfl (by rfl) (by rfl) hz6 ?_;intro W6 h6)
  refine hK.out _ _ (⟨hHeld.1.grown (by rw [← h6.out.1];exact grown_setCells' _ _ _ _) (fun e=>by injection e;omega),⟨_,h6.out.2⟩,by rw [← h6.out.1];exact Below.setCells' hHeld.2.2 (Nat.le_succ _) _ _⟩) (fun hHeld=>?_)
  clear hK K
  try simp only [lays]
  refine wpAnyH_done (by kernel_rfl) ?_ _
  have hst:=h6.out.2
  have HOW:=zh (show OwnS W6 w.heap.size ⟨A1,s.n1,c1,s.C,A2,s.n2,c2,s.Q,A3,s.n3,c3,s.K,A4,s.n4,c4,s.P,s.G⟩ from by
   refine OwnS.kept (X:=w.heap.size+1) ⟨HK1.out,HK2.out,HK3.out,HK4.out,HO.out.s1.ok,HO.out.s2.ok,HO.out.s3.ok,HO.out.g⟩ (by rw [← h6.out.1];exact grown_setCells' _ _ _ _) hz6 (by decide) (by decide) (by decide) (by decide))
  have HX:=zh hHeld.2.2
  clear h6 hz6 hS hE hHeld
  go_wp2_with fail
  exact bodyPost_ret (v:=.agg (ssA ⟨A1,s.n1,c1,s.C,A2,s.n2,c2,s.Q,A3,s.n3,c3,s.K,A4,s.n4,c4,s.P,s.G⟩)) (retC rfl _ _ (w.heap.size+1) _ rfl (run_loadVar_row _ _ _ _ _ (0,0) _ hst Tryz.underlying44 rfl (by kernel_rfl))) rfl ⟨_,rfl,HOW.out,rfl,HX.out⟩
theorem step_apprun {P:Program} {t:TypeId} {ops:Array Oper} {o:Oper} {a:Act} {w:World} {K:Act→World→Prop} {Q:Exit→Act→World→Prop} {X:Prop} (hgd:o.guard=none) (s x:Operand) (ho:o.op=.call { callee:=.builtin .append,args:=#[s,x],argTypes:=#[t,t] })
  (vs vx:Value) (hs:a.eval s=vs) (hx:a.eval x=vx) (v':Value) (w':World) (hr:(Builtin.append_ #[t,t] o.type #[vs,vx]).run P w=.ok v' w') (h:K (a.put o.dst v') w'):if Region.wanted o (yielded ops a.tmps)=true then Oper.wp P o a w K Q else X:=by
 have hw:Region.wanted o (yielded ops a.tmps)=true:=by simp [Region.wanted,hgd]
 rw [if_pos hw]
 unfold Oper.wp execOp
 simp only [ho,resolve,invoke,builtin,Sem.run_bind,Sem.run_pure,Result.andThen_ok,List.map_toArray,List.map_cons,List.map_nil,hs,hx,hr]
 exact h
theorem delDe_any (base g n c:Nat) (L:List DeR) (i:Nat) (w:World) (h:w.ownsRow base 34 11 (.slice (some ⟨g,0,none⟩) n c) n (gcs L)) (hn:n≤1000000000) (hi:i < n) :
  Calls Tryz.prog 102 #[.slice (some ⟨g,0,none⟩) n c,.int .i64 (i:Int),.int .i64 ((i+1:Nat):Int)] w (RowOut w base 34 11 (some ⟨g,0,none⟩) n c (n - 1) (gcs (L.take i ++ L.drop (i+1)))):=by
 obtain ⟨hle,hcap⟩:=own_cap h
 have HLEN:=zh (show L.length=n from OwnG.len (e:=34) h)
 have HO:=zh h.drew
 obtain ⟨ti,hti,htz,htsz,htby⟩:=Elem.get deE
 have hsrc0:∀ k v,(gcs L)[k]?=some v→w.cell? ⟨g,k,none⟩=some v:=fun k v hv=>by
  obtain ⟨g',hgg,_,hra⟩:=own_at h (by omega)
  obtain rfl:g=g':=by injection hgg with h1;injection h1
  have:=hra k v hv;rwa [Nat.zero_add] at this
 have hdl:(gcs (L.drop (i+1))).length=(n - (i+1)) * 11:=by rw [gcs_length,List.length_drop,HLEN.out];rfl
 have hfit:i * 11+(n - (i+1)) * 11≤n * 11:=by rw [← Nat.add_mul];exact Nat.mul_le_mul_right _ (by omega)
 have hxl:(gcs L).length=n * 11:=by rw [gcs_length,HLEN.out];rfl
 obtain ⟨ad,had⟩:∃ ad:Addr,(if c=i+1 then ⟨g,0,none⟩ else (⟨g,(i+1) * 11,none⟩:Addr))=ad:=⟨_,rfl⟩
 have hnews:∀ j u,(gcs (L.drop (i+1)))[j]?=some u→w.drew.cell? (ad.add j)=some u:=fun j u hu=>by
  have hj:=(List.getElem?_eq_some_iff.1 hu).1
  rw [hdl] at hj
  by_cases hc:c=i+1
  ·have : n - (i + 1) = 0 := by omega
   rw [this] at hj;omega
  ·rw [← had, if_neg hc, Addr.add_mid]
   show w.cell? _=_
   refine hsrc0 _ u ?_
   rw [← gcs_drop,List.getElem?_drop] at hu
   exact hu
 have hrun:=fun ty=>run_append_room_cells (P:=Tryz.prog) (w:=w.drew) 27 ty 34 ti (Elem.ut deE) hti g 0 i c ad (n - (i+1)) (c - (i+1)) (gcs (L.drop (i+1))) (by rw [htsz];exact hdl) hnews (gcs_cell _) (by omega)
  (fun j hj=>by rw [htsz,Nat.zero_add,h.drew.cellAt (i * 11+j) (by omega),List.getElem?_eq_getElem (by omega)];rfl) (fun j hj=>by rw [htsz,Nat.zero_add];exact h.drew.frozenAt _)
 rw [htsz,Nat.zero_add,show i+(n - (i+1))=n - 1 by omega] at hrun
 have hsp:=own_splice (gcs (L.drop (i+1))) (i * 11) w.drew (gcs L) (by omega) h.drew
 obtain ⟨W1,hW1⟩:∃ W1,w.drew.setCells g (i * 11) (gcs (L.drop (i+1)))=W1:=⟨_,rfl⟩
 rw [hW1] at hrun hsp
 have HRUN:=zh hrun
 have HG1:=zh (show w.grownBy W1 (some g) from Grown.trans (Ext.grown ((Ext.refl w).drew') _) hsp.2)
 have HO1:=zh hsp.1
 have HDC:=zh (show (splice (gcs L) (i * 11) (gcs (L.drop (i+1)))).take ((n - 1) * 11)=gcs (L.take i ++ L.drop (i+1)) from by
  have:=del_cells L (i:=i) (by rw [HLEN.out];exact hi);rw [HLEN.out] at this;exact this)
 have hcl:=fun ty=>run_clr deE (by decide) W1 ty g ((n - 1) * 11) 1 (c - (n - 1)) (by omega) (fun j hj=>by
  have hh:=Nat.mul_le_mul_right 11 (show (n - 1)+1≤n by omega)
  rw [Nat.add_mul] at hh
  rw [HO1.out.cellAt ((n - 1) * 11+j) (by omega),List.getElem?_eq_getElem (by rw [HO1.out.1];omega)];rfl) (fun j hj=>HO1.out.frozenAt _)
 obtain ⟨xs',o1,o2,o3⟩:=own_over (Builtin.zeroCells (Value.agg de0).cells 1).toList ((n - 1) * 11) W1 _ HO1.out
 have HEND:=zh (show (W1.setCells g ((n - 1) * 11) (Builtin.zeroCells (Value.agg de0).cells 1).toList).ownsRow base 34 11 (.slice (some ⟨g,0,none⟩) (n - 1) c) (n - 1) (gcs (L.take i ++ L.drop (i+1))) from by
  have:=own_cut o1 (i:=n - 1) (by omega) (by simp)
  rw [o2,HDC.out] at this;exact this)
 have HG2:=zh (Grown.trans HG1.out o3)
 obtain ⟨W2,hW2⟩:∃ W2,W1.setCells g ((n - 1) * 11) (Builtin.zeroCells (Value.agg de0).cells 1).toList=W2:=⟨_,rfl⟩
 rw [hW2] at hcl HEND HG2
 have HAD:=zh had
 have i0:(0:Int)≤(i:Int):=by omega
 have i1:(i:Int)+1≤(n:Int):=by omega
 have i2:(n:Int)≤(c:Int):=by omega
 have i3:(i:Int)≤(n:Int):=by omega
 have i4:¬ c=i:=by omega
 have i6:(i:Int)≤(c:Int):=by omega
 have i7:¬ n=i:=by omega
 have i8:¬ c=n - 1:=by omega
 have i9:((n - 1:Nat):Int)≤(n:Int):=by omega
 have i10:(0:Int)≤(i:Int)+1:=by omega
 have i11:((i:Int)+1).toNat=i+1:=by omega
 have i12:¬ (i:Int)+1 < 0:=by omega
 have i13:n - (n - 1)=1:=by omega
 have HI:=zh hi
 clear h hsrc0 hnews hrun hsp hW1 hW2 o1 o2 o3 hti htz htsz htby hdl hfit hxl had
 go_enter Tryz.func102,Tryz.ntmps102
 go_wp2_with fail
 refine wp_region_held_drew (S:=fun W=>True) (by kernel_rfl) (trivial) (fun hHeld=>?_)
 refine zt 0 hHeld ?_
 refine zt 1 hHeld ?_
 refine zt 2 hHeld ?_
 refine zt 3 hHeld ?_
 refine zt 4 hHeld ?_
 refine zu 5 (v:=.slice (some ad) (n - (i+1)) (c - (i+1))) hHeld ?_ (hy:=by (rcases Classical.em (c=i+1) with hc | hc <;> (refine Or.inl ⟨by rfl,fun W _=>?_⟩;rw [← HAD.out];(first | rw [if_pos hc] | rw [if_neg hc]);go_simp <;> with_reducible rfl)))
 refine za 6 (fun K hK=>?_)
 (refine step_apprun rfl (.tmp 22) (.tmp 25) rfl (.slice (some ⟨g,0,none⟩) i c) (.slice (some ad) (n - (i+1)) (c - (i+1))) (by rfl) (by rfl) _ _ (HRUN.out _) ?_)
 refine hK.out _ _ (trivial) (fun hHeld=>?_)
 clear hK K
 try simp only [lays]
 refine zt 7 hHeld ?_
 refine wpAnyH_done (by kernel_rfl) ?_ _
 clear HRUN
 go_wp2_with fail
 go_ret
 exact ⟨some ⟨g,0,none⟩,c,rfl,HEND.out,HG2.out⟩
theorem delLk_any (base g n c:Nat) (L:List LkR) (i:Nat) (w:World) (h:w.ownsRow base 94 19 (.slice (some ⟨g,0,none⟩) n c) n (gcs L)) (hn:n≤1000000000) (hi:i < n) :
  Calls Tryz.prog 156 #[.slice (some ⟨g,0,none⟩) n c,.int .i64 (i:Int),.int .i64 ((i+1:Nat):Int)] w (RowOut w base 94 19 (some ⟨g,0,none⟩) n c (n - 1) (gcs (L.take i ++ L.drop (i+1)))):=by
 obtain ⟨hle,hcap⟩:=own_cap h
 have HLEN:=zh (show L.length=n from OwnG.len (e:=94) h)
 have HO:=zh h.drew
 obtain ⟨ti,hti,htz,htsz,htby⟩:=Elem.get lkE
 have hsrc0:∀ k v,(gcs L)[k]?=some v→w.cell? ⟨g,k,none⟩=some v:=fun k v hv=>by
  obtain ⟨g',hgg,_,hra⟩:=own_at h (by omega)
  obtain rfl:g=g':=by injection hgg with h1;injection h1
  have:=hra k v hv;rwa [Nat.zero_add] at this
 have hdl:(gcs (L.drop (i+1))).length=(n - (i+1)) * 19:=by rw [gcs_length,List.length_drop,HLEN.out];rfl
 have hfit:i * 19+(n - (i+1)) * 19≤n * 19:=by rw [← Nat.add_mul];exact Nat.mul_le_mul_right _ (by omega)
 have hxl:(gcs L).length=n * 19:=by rw [gcs_length,HLEN.out];rfl
 obtain ⟨ad,had⟩:∃ ad:Addr,(if c=i+1 then ⟨g,0,none⟩ else (⟨g,(i+1) * 19,none⟩:Addr))=ad:=⟨_,rfl⟩
 have hnews:∀ j u,(gcs (L.drop (i+1)))[j]?=some u→w.drew.cell? (ad.add j)=some u:=fun j u hu=>by
  have hj:=(List.getElem?_eq_some_iff.1 hu).1
  rw [hdl] at hj
  by_cases hc:c=i+1
  ·have : n - (i + 1) = 0 := by omega
   rw [this] at hj;omega
  ·rw [← had, if_neg hc, Addr.add_mid]
   show w.cell? _=_
   refine hsrc0 _ u ?_
   rw [← gcs_drop,List.getElem?_drop] at hu
   exact hu
 have hrun:=fun ty=>run_append_room_cells (P:=Tryz.prog) (w:=w.drew) 41 ty 94 ti (Elem.ut lkE) hti g 0 i c ad (n - (i+1)) (c - (i+1)) (gcs (L.drop (i+1))) (by rw [htsz];exact hdl) hnews (gcs_cell _) (by omega)
  (fun j hj=>by rw [htsz,Nat.zero_add,h.drew.cellAt (i * 19+j) (by omega),List.getElem?_eq_getElem (by omega)];rfl) (fun j hj=>by rw [htsz,Nat.zero_add];exact h.drew.frozenAt _)
 rw [htsz,Nat.zero_add,show i+(n - (i+1))=n - 1 by omega] at hrun
 have hsp:=own_splice (gcs (L.drop (i+1))) (i * 19) w.drew (gcs L) (by omega) h.drew
 obtain ⟨W1,hW1⟩:∃ W1,w.drew.setCells g (i * 19) (gcs (L.drop (i+1)))=W1:=⟨_,rfl⟩
 rw [hW1] at hrun hsp
 have HRUN:=zh hrun
 have HG1:=zh (show w.grownBy W1 (some g) from Grown.trans (Ext.grown ((Ext.refl w).drew') _) hsp.2)
 have HO1:=zh hsp.1
 have HDC:=zh (show (splice (gcs L) (i * 19) (gcs (L.drop (i+1)))).take ((n - 1) * 19)=gcs (L.take i ++ L.drop (i+1)) from by
  have:=del_cells L (i:=i) (by rw [HLEN.out];exact hi);rw [HLEN.out] at this;exact this)
 have hcl:=fun ty=>run_clr lkE (by decide) W1 ty g ((n - 1) * 19) 1 (c - (n - 1)) (by omega) (fun j hj=>by
  have hh:=Nat.mul_le_mul_right 19 (show (n - 1)+1≤n by omega)
  rw [Nat.add_mul] at hh
  rw [HO1.out.cellAt ((n - 1) * 19+j) (by omega),List.getElem?_eq_getElem (by rw [HO1.out.1];omega)];rfl) (fun j hj=>HO1.out.frozenAt _)
 obtain ⟨xs',o1,o2,o3⟩:=own_over (Builtin.zeroCells (Value.agg lk0).cells 1).toList ((n - 1) * 19) W1 _ HO1.out
 have HEND:=zh (show (W1.setCells g ((n - 1) * 19) (Builtin.zeroCells (Value.agg lk0).cells 1).toList).ownsRow base 94 19 (.slice (some ⟨g,0,none⟩) (n - 1) c) (n - 1) (gcs (L.take i ++ L.drop (i+1))) from by
  have:=own_cut o1 (i:=n - 1) (by omega) (by simp)
  rw [o2,HDC.out] at this;exact this)
 have HG2:=zh (Grown.trans HG1.out o3)
 obtain ⟨W2,hW2⟩:∃ W2,W1.setCells g ((n - 1) * 19) (Builtin.zeroCells (Value.agg lk0).cells 1).toList=W2:=⟨_,rfl⟩
 rw [hW2] at hcl HEND HG2
 have HAD:=zh had
 have i0:(0:Int)≤(i:Int):=by omega
 have i1:(i:Int)+1≤(n:Int):=by omega
 have i2:(n:Int)≤(c:Int):=by omega
 have i3:(i:Int)≤(n:Int):=by omega
 have i4:¬ c=i:=by omega
 have i6:(i:Int)≤(c:Int):=by omega
 have i7:¬ n=i:=by omega
 have i8:¬ c=n - 1:=by omega
 have i9:((n - 1:Nat):Int)≤(n:Int):=by omega
 have i10:(0:Int)≤(i:Int)+1:=by omega
 have i11:((i:Int)+1).toNat=i+1:=by omega
 have i12:¬ (i:Int)+1 < 0:=by omega
 have i13:n - (n - 1)=1:=by omega
 have HI:=zh hi
 clear h hsrc0 hnews hrun hsp hW1 hW2 o1 o2 o3 hti htz htsz htby hdl hfit hxl had
 go_enter Tryz.func156,Tryz.ntmps156
 go_wp2_with fail
 refine wp_region_held_drew (S:=fun W=>True) (by kernel_rfl) (trivial) (fun hHeld=>?_)
 refine zt 0 hHeld ?_
 refine zt 1 hHeld ?_
 refine zt 2 hHeld ?_
 refine zt 3 hHeld ?_
 refine zt 4 hHeld ?_
 refine zu 5 (v:=.slice (some ad) (n - (i+1)) (c - (i+1))) hHeld ?_ (hy:=by (rcases Classical.em (c=i+1) with hc | hc <;> (refine Or.inl ⟨by rfl,fun W _=>?_⟩;rw [← HAD.out];(first | rw [if_pos hc] | rw [if_neg hc]);go_simp <;> with_reducible rfl)))
 refine za 6 (fun K hK=>?_)
 (refine step_apprun rfl (.tmp 22) (.tmp 25) rfl (.slice (some ⟨g,0,none⟩) i c) (.slice (some ad) (n - (i+1)) (c - (i+1))) (by rfl) (by rfl) _ _ (HRUN.out _) ?_)
 refine hK.out _ _ (trivial) (fun hHeld=>?_)
 clear hK K
 try simp only [lays]
 refine zt 7 hHeld ?_
 refine wpAnyH_done (by kernel_rfl) ?_ _
 clear HRUN
 go_wp2_with fail
 go_ret
 exact ⟨some ⟨g,0,none⟩,c,rfl,HEND.out,HG2.out⟩
end Go.Proofs.YtohmmcahpakokaaGreat
