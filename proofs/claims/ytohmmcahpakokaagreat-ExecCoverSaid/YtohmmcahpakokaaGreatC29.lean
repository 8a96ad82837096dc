/- slices.Delete of one element at entries and locks, in a row of one's own. -/
import Derived.Shelf.SlSortCmp.WholeK
import Derived.Shelf.SlSortCmp.NoneTotal
import Derived.Test.YtohmmcahpakokaaGreatC25
import Derived.Test.YtohmmcahpakokaaGreatC28
set_option maxRecDepth 100000
set_option maxHeartbeats 8000000
set_option linter.unusedSectionVars false
set_option linter.unusedVariables false
set_option linter.unusedSimpArgs false
namespace Go.Proofs.YtohmmcahpakokaaGreat
open Go.RowKit
attribute [local go_sem ↓] Go.wp_at_zero Go.wp_at_succ
theorem step_apprun {P:Program} {t:TypeId} {ops:Array Oper} {o:Oper} {a:Act} {w:World} {K:Act→World→Prop} {Q:Exit→Act→World→Prop} {X:Prop} (hgd:o.guard=none) (s x:Operand) (ho:o.op=.call { callee:=.builtin .append,args:=#[s,x],argTypes:=#[t,t] })
  (vs vx:Value) (hs:a.eval s=vs) (hx:a.eval x=vx) (v':Value) (w':World) (hr:(Builtin.append_ #[t,t] o.type #[vs,vx]).run P w=.ok v' w') (h:K (a.put o.dst v') w'):if Region.wanted o (yielded ops a.tmps)=true then Oper.wp P o a w K Q else X:=by
 have hw:Region.wanted o (yielded ops a.tmps)=true:=by simp [Region.wanted,hgd]
 rw [if_pos hw]
 unfold Oper.wp execOp
 simp only [ho,resolve,invoke,builtin,Sem.run_bind,Sem.run_pure,Result.andThen_ok,List.map_toArray,List.map_cons,List.map_nil,hs,hx,hr]
 exact h
theorem delDe_any (base g n c:Nat) (L:List DeR) (i:Nat) (w:World) (h:w.ownsRow base 34 11 (.slice (some ⟨g,0,none⟩) n c) n (gcs L)) (hn:n≤1000000000) (hi:i < n) :
  Calls Tryz.prog 102 #[.slice (some ⟨g,0,none⟩) n c,.int .i64 (i:Int),.int .i64 ((i+1:Nat):Int)] w (RowOut w base 34 11 (some ⟨g,0,none⟩) n c (n - 1) (gcs (L.take i ++ L.drop (i+1)))):=by
 obtain ⟨hle,hcap⟩:=own_cap h
 have HLEN:=zh (show L.length=n from OwnG.len (e:=34) h)
 have HO:=zh h.drew
 obtain ⟨ti,hti,htz,htsz,htby⟩:=Elem.get deE
 have hsrc0:∀ k v,(gcs L)[k]?=some v→w.cell? ⟨g,k,none⟩=some v:=fun k v hv=>by
  obtain ⟨g',hgg,_,hra⟩:=own_at h (by omega)
  obtain rfl:g=g':=by injection hgg with h1;injection h1
  have:=hra k v hv;rwa [Nat.zero_add] at this
 have hdl:(gcs (L.drop (i+1))).length=(n - (i+1)) * 11:=by rw [gcs_length,List.length_drop,HLEN.out];rfl
 have hfit:i * 11+(n - (i+1)) * 11≤n * 11:=by rw [← Nat.add_mul];exact Nat.mul_le_mul_right _ (by omega)
 have hxl:(gcs L).length=n * 11:=by rw [gcs_length,HLEN.out];rfl
 obtain ⟨ad,had⟩:∃ ad:Addr,(if c=i+1 then ⟨g,0,none⟩ else (⟨g,(i+1) * 11,none⟩:Addr))=ad:=⟨_,rfl⟩
 have hnews:∀ j u,(gcs (L.drop (i+1)))[j]?=some u→w.drew.cell? (ad.add j)=some u:=fun j u hu=>by
  have hj:=(List.getElem?_eq_some_iff.1 hu).1
  rw [hdl] at hj
  by_cases hc:c=i+1
  ·have : n - (i + 1) = 0 := by omega
   rw [this] at hj;omega
  ·rw [← had, if_neg hc, Addr.add_mid]
   show w.cell? _=_
   refine hsrc0 _ u ?_
   rw [← gcs_drop,List.getElem?_drop] at hu
   exact hu
 have hrun:=fun ty=>run_append_room_cells (P:=Tryz.prog) (w:=w.drew) 27 ty 34 ti (Elem.ut deE) hti g 0 i c ad (n - (i+1)) (c - (i+1)) (gcs (L.drop (i+1))) (by rw [htsz];exact hdl) hnews (gcs_cell _) (by omega)
  (fun j hj=>by rw [htsz,Nat.zero_add,h.drew.cellAt (i * 11+j) (by omega),List.getElem?_eq_getElem (by omega)];rfl) (fun j hj=>by rw [htsz,Nat.zero_add];exact h.drew.frozenAt _)
 rw [htsz,Nat.zero_add,show i+(n - (i+1))=n - 1 by omega] at hrun
 have hsp:=own_splice (gcs (L.drop (i+1))) (i * 11) w.drew (gcs L) (by omega) h.drew
 obtain ⟨W1,hW1⟩:∃ W1,w.drew.setCells g (i * 11) (gcs (L.drop (i+1)))=W1:=⟨_,rfl⟩
 rw [hW1] at hrun hsp
 have HRUN:=zh hrun
 have HG1:=zh (show w.grownBy W1 (some g) from Grown.trans (Ext.grown ((Ext.refl w).drew') _) hsp.2)
 have HO1:=zh hsp.1
 have HDC:=zh (show (splice (gcs L) (i * 11) (gcs (L.drop (i+1)))).take ((n - 1) * 11)=gcs (L.take i ++ L.drop (i+1)) from by
  have:=del_cells L (i:=i) (by rw [HLEN.out];exact hi);rw [HLEN.out] at this;exact this)
 have hcl:=fun ty=>run_clr deE (by decide) W1 ty g ((n - 1) * 11) 1 (c - (n - 1)) (by omega) (fun j hj=>by
  have hh:=Nat.mul_le_mul_right 11 (show (n - 1)+1≤n by omega)
  rw [Nat.add_mul] at hh
  rw [HO1.out.cellAt ((n - 1) * 11+j) (by omega),List.getElem?_eq_getElem (by rw [HO1.out.1];omega)];rfl) (fun j hj=>HO1.out.frozenAt _)
 obtain ⟨xs',o1,o2,o3⟩:=own_over (Builtin.zeroCells (Value.agg de0).cells 1).toList ((n - 1) * 11) W1 _ HO1.out
 have HEND:=zh (show (W1.setCells g ((n - 1) * 11) (Builtin.zeroCells (Value.agg de0).cells 1).toList).ownsRow base 34 11 (.slice (some ⟨g,0,none⟩) (n - 1) c) (n - 1) (gcs (L.take i ++ L.drop (i+1))) from by
  have:=own_cut o1 (i:=n - 1) (by omega) (by simp)
  rw [o2,HDC.out] at this;exact this)
 have HG2:=zh (Grown.trans HG1.out o3)
 obtain ⟨W2,hW2⟩:∃ W2,W1.setCells g ((n - 1) * 11) (Builtin.zeroCells (Value.agg de0).cells 1).toList=W2:=⟨_,rfl⟩
 rw [hW2] at hcl HEND HG2
 have HAD:=zh had
 have i0:(0:Int)≤(i:Int):=by omega
 have i1:(i:Int)+1≤(n:Int):=by omega
 have i2:(n:Int)≤(c:Int):=by omega
 have i3:(i:Int)≤(n:Int):=by omega
 have i4:¬ c=i:=by omega
 have i6:(i:Int)≤(c:Int):=by omega
 have i7:¬ n=i:=by omega
 have i8:¬ c=n - 1:=by omega
 have i9:((n - 1:Nat):Int)≤(n:Int):=by omega
 have i10:(0:Int)≤(i:Int)+1:=by omega
 have i11:((i:Int)+1).toNat=i+1:=by omega
 have i12:¬ (i:Int)+1 < 0:=by omega
 have i13:n - (n - 1)=1:=by omega
 have HI:=zh hi
 clear h hsrc0 hnews hrun hsp hW1 hW2 o1 o2 o3 hti htz htsz htby hdl hfit hxl had
 go_enter Tryz.func102,Tryz.ntmps102
 go_wp2_with fail
 refine wp_region_held_drew (S:=fun W=>True) (by kernel_rfl) (trivial) (fun hHeld=>?_)
 refine zzr [0,1,2,3,4] ?_
 refine zu 5 (v:=.slice (some ad) (n - (i+1)) (c - (i+1))) hHeld ?_ (hy:=by (rcases Classical.em (c=i+1) with hc | hc <;> (refine Or.inl ⟨by rfl,fun W _=>?_⟩;rw [← HAD.out];(first | rw [if_pos hc] | rw [if_neg hc]);go_simp <;> with_reducible rfl)))
 refine za 6 (fun K hK=>?_)
 (refine step_apprun rfl (.tmp 22) (.tmp 25) rfl (.slice (some ⟨g,0,none⟩) i c) (.slice (some ad) (n - (i+1)) (c - (i+1))) (by rfl) (by rfl) _ _ (HRUN.out _) ?_)
 refine hK.out _ _ (trivial) (fun hHeld=>?_)
 clear hK K
 try simp only [lays]
 refine zt 7 hHeld ?_
 refine wpAnyH_done (by kernel_rfl) ?_ _
 clear HRUN
 go_wp2_with fail
 go_ret
 exact ⟨some ⟨g,0,none⟩,c,rfl,HEND.out,HG2.out⟩
theorem delLk_any (base g n c:Nat) (L:List LkR) (i:Nat) (w:World) (h:w.ownsRow base 94 19 (.slice (some ⟨g,0,none⟩) n c) n (gcs L)) (hn:n≤1000000000) (hi:i < n) :
  Calls Tryz.prog 156 #[.slice (some ⟨g,0,none⟩) n c,.int .i64 (i:Int),.int .i64 ((i+1:Nat):Int)] w (RowOut w base 94 19 (some ⟨g,0,none⟩) n c (n - 1) (gcs (L.take i ++ L.drop (i+1)))):=by
 obtain ⟨hle,hcap⟩:=own_cap h
 have HLEN:=zh (show L.length=n from OwnG.len (e:=94) h)
 have HO:=zh h.drew
 obtain ⟨ti,hti,htz,htsz,htby⟩:=Elem.get lkE
 have hsrc0:∀ k v,(gcs L)[k]?=some v→w.cell? ⟨g,k,none⟩=some v:=fun k v hv=>by
  obtain ⟨g',hgg,_,hra⟩:=own_at h (by omega)
  obtain rfl:g=g':=by injection hgg with h1;injection h1
  have:=hra k v hv;rwa [Nat.zero_add] at this
 have hdl:(gcs (L.drop (i+1))).length=(n - (i+1)) * 19:=by rw [gcs_length,List.length_drop,HLEN.out];rfl
 have hfit:i * 19+(n - (i+1)) * 19≤n * 19:=by rw [← Nat.add_mul];exact Nat.mul_le_mul_right _ (by omega)
 have hxl:(gcs L).length=n * 19:=by rw [gcs_length,HLEN.out];rfl
 obtain ⟨ad,had⟩:∃ ad:Addr,(if c=i+1 then ⟨g,0,none⟩ else (⟨g,(i+1) * 19,none⟩:Addr))=ad:=⟨_,rfl⟩
 have hnews:∀ j u,(gcs (L.drop (i+1)))[j]?=some u→w.drew.cell? (ad.add j)=some u:=fun j u hu=>by
  have hj:=(List.getElem?_eq_some_iff.1 hu).1
  rw [hdl] at hj
  by_cases hc:c=i+1
  ·have : n - (i + 1) = 0 := by omega
   rw [this] at hj;omega
  ·rw [← had, if_neg hc, Addr.add_mid]
   show w.cell? _=_
   refine hsrc0 _ u ?_
   rw [← gcs_drop,List.getElem?_drop] at hu
   exact hu
 have hrun:=fun ty=>run_append_room_cells (P:=Tryz.prog) (w:=w.drew) 41 ty 94 ti (Elem.ut lkE) hti g 0 i c ad (n - (i+1)) (c - (i+1)) (gcs (L.drop (i+1))) (by rw [htsz];exact hdl) hnews (gcs_cell _) (by omega)
  (fun j hj=>by rw [htsz,Nat.zero_add,h.drew.cellAt (i * 19+j) (by omega),List.getElem?_eq_getElem (by omega)];rfl) (fun j hj=>by rw [htsz,Nat.zero_add];exact h.drew.frozenAt _)
 rw [htsz,Nat.zero_add,show i+(n - (i+1))=n - 1 by omega] at hrun
 have hsp:=own_splice (gcs (L.drop (i+1))) (i * 19) w.drew (gcs L) (by omega) h.drew
 obtain ⟨W1,hW1⟩:∃ W1,w.drew.setCells g (i * 19) (gcs (L.drop (i+1)))=W1:=⟨_,rfl⟩
 rw [hW1] at hrun hsp
 have HRUN:=zh hrun
 have HG1:=zh (show w.grownBy W1 (some g) from Grown.trans (Ext.grown ((Ext.refl w).drew') _) hsp.2)
 have HO1:=zh hsp.1
 have HDC:=zh (show (splice (gcs L) (i * 19) (gcs (L.drop (i+1)))).take ((n - 1) * 19)=gcs (L.take i ++ L.drop (i+1)) from by
  have:=del_cells L (i:=i) (by rw [HLEN.out];exact hi);rw [HLEN.out] at this;exact this)
 have hcl:=fun ty=>run_clr lkE (by decide) W1 ty g ((n - 1) * 19) 1 (c - (n - 1)) (by omega) (fun j hj=>by
  have hh:=Nat.mul_le_mul_right 19 (show (n - 1)+1≤n by omega)
  rw [Nat.add_mul] at hh
  rw [HO1.out.cellAt ((n - 1) * 19+j) (by omega),List.getElem?_eq_getElem (by rw [HO1.out.1];omega)];rfl) (fun j hj=>HO1.out.frozenAt _)
 obtain ⟨xs',o1,o2,o3⟩:=own_over (Builtin.zeroCells (Value.agg lk0).cells 1).toList ((n - 1) * 19) W1 _ HO1.out
 have HEND:=zh (show (W1.setCells g ((n - 1) * 19) (Builtin.zeroCells (Value.agg lk0).cells 1).toList).ownsRow base 94 19 (.slice (some ⟨g,0,none⟩) (n - 1) c) (n - 1) (gcs (L.take i ++ L.drop (i+1))) from by
  have:=own_cut o1 (i:=n - 1) (by omega) (by simp)
  rw [o2,HDC.out] at this;exact this)
 have HG2:=zh (Grown.trans HG1.out o3)
 obtain ⟨W2,hW2⟩:∃ W2,W1.setCells g ((n - 1) * 19) (Builtin.zeroCells (Value.agg lk0).cells 1).toList=W2:=⟨_,rfl⟩
 rw [hW2] at hcl HEND HG2
 have HAD:=zh had
 have i0:(0:Int)≤(i:Int):=by omega
 have i1:(i:Int)+1≤(n:Int):=by omega
 have i2:(n:Int)≤(c:Int):=by omega
 have i3:(i:Int)≤(n:Int):=by omega
 have i4:¬ c=i:=by omega
 have i6:(i:Int)≤(c:Int):=by omega
 have i7:¬ n=i:=by omega
 have i8:¬ c=n - 1:=by omega
 have i9:((n - 1:Nat):Int)≤(n:Int):=by omega
 have i10:(0:Int)≤(i:Int)+1:=by omega
 have i11:((i:Int)+1).toNat=i+1:=by omega
 have i12:¬ (i:Int)+1 < 0:=by omega
 have i13:n - (n - 1)=1:=by omega
 have HI:=zh hi
 clear h hsrc0 hnews hrun hsp hW1 hW2 o1 o2 o3 hti htz htsz htby hdl hfit hxl had
 go_enter Tryz.func156,Tryz.ntmps156
 go_wp2_with fail
 refine wp_region_held_drew (S:=fun W=>True) (by kernel_rfl) (trivial) (fun hHeld=>?_)
 refine zzr [0,1,2,3,4] ?_
 refine zu 5 (v:=.slice (some ad) (n - (i+1)) (c - (i+1))) hHeld ?_ (hy:=by (rcases Classical.em (c=i+1) with hc | hc <;> (refine Or.inl ⟨by rfl,fun W _=>?_⟩;rw [← HAD.out];(first | rw [if_pos hc] | rw [if_neg hc]);go_simp <;> with_reducible rfl)))
 refine za 6 (fun K hK=>?_)
 (refine step_apprun rfl (.tmp 22) (.tmp 25) rfl (.slice (some ⟨g,0,none⟩) i c) (.slice (some ad) (n - (i+1)) (c - (i+1))) (by rfl) (by rfl) _ _ (HRUN.out _) ?_)
 refine hK.out _ _ (trivial) (fun hHeld=>?_)
 clear hK K
 try simp only [lays]
 refine zt 7 hHeld ?_
 refine wpAnyH_done (by kernel_rfl) ?_ _
 clear HRUN
 go_wp2_with fail
 go_ret
 exact ⟨some ⟨g,0,none⟩,c,rfl,HEND.out,HG2.out⟩
end Go.Proofs.YtohmmcahpakokaaGreat
namespace Go.Proofs.YtohmmcahpakokaaGreat
open Go.RowKit
def cov1 (C:List DeR) (c:CeR):List DeR :=
 if getC C polC≤0 ∨ 0≤getC C c then C
 else addL C (movC polC c (if - getC C polC < getC C c then - getC C c else getC C polC))
def kindB (c:CeR):Bool:=decide (1≤c.k∧c.k≤3)
def covL (C:List DeR):List CeR:=canonO ltCe ((C.map DeR.c).filter kindB)
def covC (C:List DeR):List DeR:=(covL C).foldl cov1 C
def covS (S:StV):StV:=⟨covC S.C,S.Q,S.K,S.P,S.G⟩
theorem getC_mov_ne {C:List DeR} {x y c:CeR} {n:Int} (h1:x ≠ c) (h2:y ≠ c):getC (addL C (movC x y n)) c=getC C c:=by
 show getC (addC (addC C x (wr (-n))) y n) c=_
 rw [getC_addC_ne h2,getC_addC_ne h1]
theorem cov1_ne {C:List DeR} {c d:CeR} (h1:polC ≠ d) (h2:c ≠ d):getC (cov1 C c) d=getC C d:=by
 unfold cov1;split
 ·rfl
 ·exact getC_mov_ne h1 h2
theorem cov1_no {C:List DeR} {c:CeR} (h:0≤getC C c):cov1 C c=C:=if_pos (.inr h)
theorem cov_tot (L:List CeR):∀ (C:List DeR),totC (L.foldl cov1 C)=totC C:=by
 induction L with
 | nil=>intro C;rfl
 | cons c r ih =>
  intro C
  rw [List.foldl_cons,ih]
  unfold cov1;split
  ·rfl
  ·exact tot_add (sum_mov ..)
theorem cov_filter (C0:List DeR) (L:List CeR):∀ (C:List DeR),L.Nodup→polC ∉ L→(∀ c,c ∈ L→getC C c=getC C0 c)→L.foldl cov1 C=(L.filter fun c=>decide (getC C0 c < 0)).foldl cov1 C:=by
 induction L with
 | nil=>intro C _ _ _;rfl
 | cons c r ih =>
  intro C hd hp he
  obtain ⟨hd1,hd2⟩:=List.nodup_cons.1 hd
  have hc:=he c (List.mem_cons_self ..)
  have hpr:polC ∉ r:=fun h=>hp (List.mem_cons_of_mem _ h)
  rw [List.foldl_cons,List.filter_cons]
  by_cases hn:getC C0 c < 0
  ·rw [if_pos (decide_eq_true hn), List.foldl_cons]
   exact ih _ hd2 hpr (fun d hdm=>by
    rw [cov1_ne (fun e=>hpr (by rw [e];exact hdm)) (fun e=>hd1 (by rw [e];exact hdm))]
    exact he d (List.mem_cons_of_mem _ hdm))
  ·rw [if_neg (by simp [hn]), cov1_no (by omega)]
   exact ih _ hd2 hpr (fun d hdm=>he d (List.mem_cons_of_mem _ hdm))
theorem asc_nodup {β:Type} [DecidableEq β] {lt:β→β→Bool} (h:STO lt) {L:List β} (ha:Asc lt L):L.Nodup :=
 List.Pairwise.imp (fun {a b} hab e=>by rw [e,h.irrefl] at hab;cases hab) ha
theorem mem_covL {C:List DeR} {c:CeR}:c ∈ covL C ↔ (∃ d,d ∈ C∧d.c=c)∧kindB c=true:=by
 unfold covL
 rw [mem_canonO ltCe_sto,List.mem_filter,List.mem_map]
theorem pol_covL (C:List DeR):polC ∉ covL C:=fun h=>by have:=(mem_covL.1 h).2;revert this;decide
theorem covL_nodup (C:List DeR):(covL C).Nodup:=asc_nodup ltCe_sto (asc_canonO ltCe_sto _)
def negL (C:List DeR):List CeR:=canonO ltCe ((C.map DeR.c).filter fun c=>kindB c && decide (getC C c < 0))
theorem negL_eq (C:List DeR):negL C=(covL C).filter fun c=>decide (getC C c < 0):=by
 refine asc_uniq ltCe_sto _ _ (asc_canonO ltCe_sto _) (List.Pairwise.filter _ (asc_canonO ltCe_sto _)) (fun c=>?_)
 unfold negL
 rw [mem_canonO ltCe_sto,List.mem_filter,List.mem_filter,mem_covL,List.mem_map]
 simp only [Bool.and_eq_true]
 constructor
 ·rintro ⟨h1,h2,h3⟩;exact ⟨⟨h1,h2⟩,h3⟩
 ·rintro ⟨⟨h1,h2⟩,h3⟩;exact ⟨h1,h2,h3⟩
theorem covC_neg (C:List DeR):covC C=(negL C).foldl cov1 C:=by
 rw [negL_eq];exact cov_filter C (covL C) C (covL_nodup C) (pol_covL C) (fun _ _=>rfl)
theorem cov1_asc {C:List DeR} (h:AscC C) (c:CeR):AscC (cov1 C c):=by
 unfold cov1;split
 ·exact h
 ·exact ascC_addL _ h
theorem cov1_nz {C:List DeR} (h:nzC C) (c:CeR):nzC (cov1 C c):=by
 unfold cov1;split
 ·exact h
 ·exact nzC_addL _ h
theorem pay_in {p n:Int} (hp:0 < p∧in64 p) (hn:n < 0∧in64 n):(if -p < n then -n else p)≤p∧0 < (if -p < n then -n else p)∧n+(if -p < n then -n else p)≤0∧(n+(if -p < n then -n else p) < 0→p - (if -p < n then -n else p)=0):=by
 unfold in64 at *;split <;> omega
theorem cov1_at {C:List DeR} (h:AscC C) (hn:nzC C) {c:CeR} (hc:polC ≠ c) (h1:0 < getC C polC) (h2:getC C c < 0) :
  getC (cov1 C c) polC≤getC C polC∧0≤getC (cov1 C c) polC∧getC C c≤getC (cov1 C c) c∧getC (cov1 C c) c≤0∧(getC (cov1 C c) c < 0→getC (cov1 C c) polC=0):=by
 have i1:=getC_in hn polC
 have i2:=getC_in hn c
 have e:cov1 C c=addL C (movC polC c (if - getC C polC < getC C c then - getC C c else getC C polC)):=if_neg (by omega)
 obtain ⟨q1,q2,q3,q4⟩:=pay_in (p:=getC C polC) (n:=getC C c) ⟨h1,i1⟩ ⟨h2,i2⟩
 rw [e]
 generalize (if - getC C polC < getC C c then - getC C c else getC C polC)=a at q1 q2 q3 q4
 have e1:getC (addL C (movC polC c a)) polC=getC C polC - a:=by
  show getC (addC (addC C polC (wr (-a))) c a) polC=_
  rw [getC_addC_ne (Ne.symm hc),getC_addC_eq h,wr_add']
  refine (wr_id ?_).trans (by omega)
  unfold in64 at *;omega
 have e2:getC (addL C (movC polC c a)) c=getC C c+a:=by
  show getC (addC (addC C polC (wr (-a))) c a) c=_
  rw [getC_addC_eq (ascC_addC h _ _),getC_addC_ne hc]
  refine wr_id ?_
  unfold in64 at *;omega
 rw [e1,e2]
 omega
theorem cov_law (L:List CeR):∀ {C:List DeR},AscC C→nzC C→L.Nodup→polC ∉ L →
  (∀ c,c ≠ polC→getC C c≤getC (L.foldl cov1 C) c∧(0≤getC C c→getC (L.foldl cov1 C) c=getC C c)) ∧
  (∀ c,c ∈ L→getC (L.foldl cov1 C) c < 0→getC (L.foldl cov1 C) polC≤0) ∧
  getC (L.foldl cov1 C) polC≤max 0 (getC C polC)∧(getC C polC≤0→L.foldl cov1 C=C):=by
 induction L with
 | nil=>intro C h hn _ _;exact ⟨fun c _=>⟨Int.le_refl _,fun _=>rfl⟩,(fun c hc=>by cases hc),(show getC C polC≤max 0 (getC C polC) from by omega),fun _=>rfl⟩
 | cons d r ih =>
  intro C h hn hd hp
  obtain ⟨hd1,hd2⟩:=List.nodup_cons.1 hd
  have hpd:polC ≠ d:=fun e=>hp (by rw [e];exact List.mem_cons_self ..)
  have hpr:polC ∉ r:=fun e=>hp (List.mem_cons_of_mem _ e)
  obtain ⟨i1,i2,i3,i4⟩:=ih (cov1_asc h d) (cov1_nz hn d) hd2 hpr
  rw [List.foldl_cons]
  by_cases hs:getC C polC≤0 ∨ 0≤getC C d
  ·have e : cov1 C d = C := if_pos hs
   rw [e] at i1 i2 i3 i4 ⊢
   refine ⟨i1,fun c hc hneg=>?_,i3,i4⟩
   rcases List.mem_cons.1 hc with rfl | hc
   ·rcases hs with hs | hs
    ·rw [i4 hs];exact hs
    ·have:=(i1 c (Ne.symm hpd)).2 hs;omega
   ·exact i2 c hc hneg
  ·obtain ⟨j1, j2, j3, j4, j5⟩ := cov1_at h hn hpd (by omega) (by omega)
   refine ⟨fun c hc=>?_,fun c hc hneg=>?_,by omega,fun hle=>by omega⟩
   ·by_cases e : c = d
    ·subst e
     have:=(i1 c hc).1
     exact ⟨by omega,fun h0=>by omega⟩
    ·have e1 : getC (cov1 C d) c = getC C c := cov1_ne (Ne.symm hc) (Ne.symm e)
     have:=i1 c hc
     rw [e1] at this
     exact this
   ·rcases List.mem_cons.1 hc with rfl | hc
    ·have k1 := (i1 c (Ne.symm hpd)).1
     have k2:=j5 (by omega)
     rw [i4 (by omega)];omega
    ·exact i2 c hc hneg
theorem cmpC_neg (a b:CeR):decide (cmpC a b < 0)=ltCe a b:=by
 unfold cmpC firstI ltCe ceKey
 rcases Int.lt_trichotomy a.k b.k with h | h | h
 ·rw [cmpI_lt h,if_pos (by decide),lexI,if_neg (by omega),decide_eq_true h];rfl
 ·rw [h, cmpI_eq, if_neg (by decide), lexI, if_pos rfl]
  rcases Int.lt_trichotomy a.id b.id with h2 | h2 | h2
  ·rw [cmpI_lt h2,if_pos (by decide),lexI,if_neg (by omega),decide_eq_true h2];rfl
  ·rw [h2, cmpI_eq, if_neg (by decide), lexI, if_pos rfl, lexI]
   rcases Int.lt_trichotomy (un a.lk) (un b.lk) with h3 | h3 | h3
   ·rw [cmpI_lt h3,if_neg (by omega),decide_eq_true h3];rfl
   ·rw [h3,cmpI_eq,if_pos rfl];rfl
   ·rw [cmpI_gt h3,if_neg (by omega),decide_eq_false (by omega:¬ un a.lk < un b.lk)];rfl
  ·rw [cmpI_gt h2,if_pos (by decide),lexI,if_neg (by omega),decide_eq_false (by omega:¬ a.id < b.id)];rfl
 ·rw [cmpI_gt h,if_pos (by decide),lexI,if_neg (by omega),decide_eq_false (by omega:¬ a.k < b.k)];rfl
section
variable {α:Type} [RowT α]
theorem flatK_gcs (d:Array α):Sort.flatK RowT.enc (RowT.sz α) d=(gcs d.toList).toArray:=by
 have hl:(gcs d.toList).length=d.size * RowT.sz α:=by rw [gcs_length];simp
 refine Sort.ext_get! (by simp [hl]) (fun t ht=>?_)
 have ht':t < d.size * RowT.sz α:=by simpa using ht
 rw [Sort.get_flatK _ _ _ _ ht']
 have hp:=RowT.pos (α:=α)
 have hq:t / RowT.sz α < d.size:=Nat.div_lt_of_lt_mul (by rwa [Nat.mul_comm] at ht')
 have hm:=Nat.mod_lt t hp
 have h1:=gcs_at (L:=d.toList) (k:=t / RowT.sz α) (by simpa using hq)
 rw [arr_nth,← h1]
 have hlen:(List.take (RowT.sz α) (List.drop (t / RowT.sz α * RowT.sz α) (gcs d.toList))).length=RowT.sz α:=by rw [h1,RowT.len]
 rw [getElem!_pos _ _ (by rw [hlen];exact hm),List.getElem_take,List.getElem_drop,getElem!_pos _ _ (by simp [hl];exact ht'),List.getElem_toArray]
 congr 1
 have:=Nat.div_add_mod t (RowT.sz α)
 rw [Nat.mul_comm] at this
 exact this
end
theorem grownBy_swV {w:World} {g n:Nat} {os:Array Obj} (d:Array Value):w.grownBy (sortWorld id w g 0 n d os) (some g):=by
 unfold sortWorld
 refine ⟨rfl,rfl,rfl,by simp,fun k hk hne=>?_⟩
 rw [Sort.heap_grow_old _ _ (by simpa using hk)]
 have:g ≠ k:=fun e=>hne (by rw [e])
 simp [Sort.putRow,Sort.mapBlock,Sort.ahead,Array.getElem?_modify,this]
theorem heap_swV {w:World} {g n:Nat} {os:Array Obj} {cur:Array Value} {e:TypeId} {fr:Nat × Nat} (d:Array Value) (hb:w.heap[g]?=some (.cells cur e fr)) :
  (sortWorld id w g 0 n d os).heap[g]?=some (.cells (Sort.putCells id 0 d cur) e fr):=by
 have hg:g < w.heap.size:=(Array.getElem?_eq_some_iff.1 hb).1
 unfold sortWorld
 rw [Sort.heap_grow_old _ _ (by simpa using hg)]
 simp [Sort.putRow,Sort.mapBlock,Sort.ahead,Array.getElem?_modify,hb,Sort.onCells]
theorem take_putV (cur d:Array Value) (h:d.size≤cur.size):(Sort.putCells id 0 d cur).toList.take d.size=d.toList:=by
 apply List.ext_getElem?
 intro j
 by_cases hj:j < d.size
 ·rw [List.getElem?_take_of_lt hj, Array.getElem?_toList]
  simp [Sort.putCells,hj,show j < cur.size by omega]
 ·rw [List.getElem?_take_eq_none (by omega),List.getElem?_eq_none (by simp;omega)]
theorem own_swV {w:World} {base g c n m size:Nat} {e:TypeId} {os:Array Obj} {xs:List Value} (d:Array Value) (hd:d.size=n * size) (h:w.ownsRow base e size (.slice (some ⟨g,0,none⟩) n c) n xs) :
  (sortWorld id w g 0 m d os).ownsRow base e size (.slice (some ⟨g,0,none⟩) n c) n d.toList:=by
 have hl:=h.1
 rcases h.2 with ⟨hv,_⟩ | ⟨g',cap,cur,hv,hb,hh,hn,hm,hs,ht⟩
 ·cases hv
 cases hv
 have hle:d.size≤cur.size:=by
  have:=congrArg List.length ht
  rw [List.length_take,hl] at this
  simp at this;omega
 exact ⟨by simp [hd],.inr ⟨g,c,_,rfl,hb,heap_swV d hh,hn,hm,by simp [Sort.putCells,hs],by rw [← hd];exact take_putV cur d hle⟩⟩
theorem ceSwo:Sort.SWO (ltOf cmpC):=by
 have e:ltOf cmpC=ltCe:=funext fun x=>funext fun y=>cmpC_neg x y
 rw [e]
 exact ⟨ltCe_sto.irrefl,fun x y z h1 h2=>ltCe_sto.trans _ _ _ h1 h2,fun x y z h1 h2=>ltCe_sto.ntrans h1 h2⟩
theorem ceCmp {g n size:Nat} {w:World}:CmpLays Tryz.prog 65 #[] (RowT.enc (α:=CeR)) 10 cmpC g 0 size w:=fun m os dk hs x y=>by
 have h:=GW.compareC_any x y (sortWorldK RowT.enc 10 w g 0 m dk os)
 rw [Array.append_empty,ceP.eq,ceP.eq]
 refine h.mono ?_
 rintro e w' ⟨rfl,hg⟩
 exact ⟨rfl,hg.grow⟩
theorem sortCe_any (w0 w:World) (base:Nat) (A:Option Addr) (n c:Nat) (d:Array CeR) (h:RowS w0 w base 32 A n c d) (hn:n≤1000000000) :
  Calls Tryz.prog 64 #[.slice A n c,.func (.func 65) #[] #[]] w (fun e w'=>e=.returned (.tuple #[])∧∃ d',RowS w0 w' base 32 A n c d'∧Sort.PermIn 0 n d d'∧Sort.SortedIn ltCe 0 n d'):=by
 rcases Nat.eq_zero_or_pos n with rfl | hpos
 ·refine (AnyF.slices_SortFunc_none (P := Tryz.prog) (ρ := sortCe_ren) { sortCe with } A c (.func (.func 65) #[] #[]) w).mono ?_
  rintro e w' ⟨rfl,rfl⟩
  exact ⟨rfl,d,h,Sort.permIn_refl _ _ _,fun i j _ _ hj=>absurd hj (Nat.not_lt_zero _)⟩
 obtain ⟨g,rfl,-,hr⟩:=h.at hpos
 have hsz:=h.size
 have ho:w.ownsRow base 32 10 (.slice (some ⟨g,0,none⟩) n c) n (gcs d.toList):=h.own
 have hH:Sort.HoldsK (RowT.enc (α:=CeR)) 10 w g 0 d:=fun j hj=>by
  have e1:=flatK_gcs d
  rw [show RowT.sz CeR=10 from rfl] at e1
  rw [Sort.size_flatK,hsz] at hj
  have hl:(gcs d.toList).length=n * 10:=ho.1
  refine ⟨?_,ho.frozenAt _⟩
  rw [e1,ho.cellAt (0+j) (by omega),Nat.zero_add,List.getElem?_eq_getElem (by omega),getElem!_pos _ j (by simp;omega)]
  simp
 have hlt:g < w.heap.size:=(ho.lt g rfl).2
 have eg:∀ args w,(callFunc 65 args).run Tryz.prog w=.ok (.enter 65 args) w:=enters_of Tryz.func65 (by kernel_rfl) rfl
 have hc:=AnyQ.slices_SortFunc sortCe 10 (fun w=>by kernel_rfl) (fun w=>by kernel_rfl) (RowT.enc (α:=CeR)) (RowT.len (α:=CeR)) (fun x v hv=>RowT.one x v hv) cmpC ceSwo 65 #[] g 0 c d w eg (ceCmp (n:=n)) hH hlt (by omega)
 rw [hsz] at hc
 change Calls Tryz.prog 64 _ _ _ at hc
 refine hc.mono ?_
 rintro e w' ⟨rfl,d',m,os,hp,hs,rfl⟩
 have hw:sortWorldK (RowT.enc (α:=CeR)) 10 w g 0 m d' os=sortWorld id w g 0 m (Sort.flatK RowT.enc 10 d') os:=rfl
 rw [hw]
 have hf:=flatK_gcs d'
 rw [show RowT.sz CeR=10 from rfl] at hf
 refine ⟨rfl,d',⟨?_,fun x hx=>?_,Grown.trans h.gr (grownBy_swV _),h.ne⟩,hp,fun i j h1 h2 h3=>?_⟩
 ·have := own_swV (os := os) (m := m) (Sort.flatK RowT.enc 10 d') (by rw [Sort.size_flatK, hp.1, hsz]) ho
  rw [hf] at this ⊢
  simp only [List.toList_toArray] at this ⊢
  exact this
 ·have hm:x ∈ d.toList:=by
   obtain ⟨p1,p2,p3⟩:=hp
   have e1:d'.extract 0 n=d':=by rw [← hsz,← p1];exact Array.extract_size
   have e2:d.extract 0 n=d:=by rw [← hsz];exact Array.extract_size
   rw [e1,e2] at p3
   exact p3.mem_iff.1 hx
  exact h.ow x hm
 ·have := hs i j h1 h2 h3
  unfold ltOf at this
  rwa [cmpC_neg] at this
end Go.Proofs.YtohmmcahpakokaaGreat
