/- Runs of tactics that come again, each as a law with one automatic argument. -/
import Derived.WalkKit
import Derived.WalkSpells
import Derived.WalkLawsBesides
import Derived.Lib.Hide
import Derived.Deep.QuietTactic
import Derived.BigQuiet
import Derived.RegionTactic
import Derived.StillTailTactics
import Derived.Deep.RegionHeld3
import Derived.Deep.DrawnRows
import Derived.Deep.MidRow
import Derived.Laws.BitsAllLaws
import Derived.Laws.CopyOwn
import Derived.Deep.AppendLies
import Derived.Maps.AppendAt
import Derived.Test.YtgmnmjeccfnmbaaGreatRows
namespace Go.Proofs.YtgmnmjeccfnmbaaGreat
universe u
theorem gx {α:Sort u} (a:α):∃ x,a=x:=⟨_,rfl⟩
theorem wpd {P:Program} {md:Region.Mode} {ops:Array Oper} {S:World→Prop} {fuel:Nat} {Q:Exit→Act→World→Prop} {listed:Array Bool} {a:Act} {w:World} (h:Q .normal a w) (hr:Region.ready md ops listed=[]:=by kernel_rfl):wpAnyH P md ops Q S fuel listed a w:=wpAnyH_done hr h _
theorem zcl {P:Program} {f:FuncId} {ags:Array Value} {w:World} {v:Value} {K:Ending→World→Prop} {R:World→Prop} (h:Calls P f ags w fun e w1=>e=.returned v∧R w1) (k:∀ w1,R w1→K (.returned v) w1):Calls P f ags w K:=h.mono fun e w1 q=>by obtain ⟨rfl,q⟩:=q;exact k _ q
theorem kd1 {k:Int} (h:k=1):(k == 1)=true∧decide (k=1)=true∧(k == 2)=false∧decide (k=2)=false∧(k == 3)=false∧decide (k=3)=false∧(k == 4)=false∧decide (k=4)=false∧(k == 5)=false∧decide (k=5)=false∧(k == 6)=false∧decide (k=6)=false:=by subst h;exact ⟨rfl,rfl,rfl,rfl,rfl,rfl,rfl,rfl,rfl,rfl,rfl,rfl⟩
theorem kd2 {k:Int} (h:k=2):(k == 1)=false∧decide (k=1)=false∧(k == 2)=true∧decide (k=2)=true∧(k == 3)=false∧decide (k=3)=false∧(k == 4)=false∧decide (k=4)=false∧(k == 5)=false∧decide (k=5)=false∧(k == 6)=false∧decide (k=6)=false:=by subst h;exact ⟨rfl,rfl,rfl,rfl,rfl,rfl,rfl,rfl,rfl,rfl,rfl,rfl⟩
theorem kd3 {k:Int} (h:k=3):(k == 1)=false∧decide (k=1)=false∧(k == 2)=false∧decide (k=2)=false∧(k == 3)=true∧decide (k=3)=true∧(k == 4)=false∧decide (k=4)=false∧(k == 5)=false∧decide (k=5)=false∧(k == 6)=false∧decide (k=6)=false:=by subst h;exact ⟨rfl,rfl,rfl,rfl,rfl,rfl,rfl,rfl,rfl,rfl,rfl,rfl⟩
theorem kd4 {k:Int} (h:k=4):(k == 1)=false∧decide (k=1)=false∧(k == 2)=false∧decide (k=2)=false∧(k == 3)=false∧decide (k=3)=false∧(k == 4)=true∧decide (k=4)=true∧(k == 5)=false∧decide (k=5)=false∧(k == 6)=false∧decide (k=6)=false:=by subst h;exact ⟨rfl,rfl,rfl,rfl,rfl,rfl,rfl,rfl,rfl,rfl,rfl,rfl⟩
theorem kd5 {k:Int} (h:k=5):(k == 1)=false∧decide (k=1)=false∧(k == 2)=false∧decide (k=2)=false∧(k == 3)=false∧decide (k=3)=false∧(k == 4)=false∧decide (k=4)=false∧(k == 5)=true∧decide (k=5)=true∧(k == 6)=false∧decide (k=6)=false:=by subst h;exact ⟨rfl,rfl,rfl,rfl,rfl,rfl,rfl,rfl,rfl,rfl,rfl,rfl⟩
theorem kd6 {k:Int} (h:k=6):(k == 1)=false∧decide (k=1)=false∧(k == 2)=false∧decide (k=2)=false∧(k == 3)=false∧decide (k=3)=false∧(k == 4)=false∧decide (k=4)=false∧(k == 5)=false∧decide (k=5)=false∧(k == 6)=true∧decide (k=6)=true:=by subst h;exact ⟨rfl,rfl,rfl,rfl,rfl,rfl,rfl,rfl,rfl,rfl,rfl,rfl⟩
variable {p:Prop}
theorem aa (h:p:=by omega):p:=h
theorem ab (h:p:=by kernel_rfl):p:=h
theorem ae (h:p:=by decide):p:=h
theorem af (h:p:=by intro W aP;have t0:=aP.1.cell 0;have t1:=aP.1.cell 1;have t2:=aP.1.cell 2;have k1:W.cell? ⟨X,1,none⟩=some (.int .i64 R.tO):=aP.2.1.cell 1;have k2:W.cell? ⟨X,2,none⟩=some (.int .i64 R.am):=aP.2.1.cell 2;have k4:W.cell? ⟨X,4,none⟩=some (.int .i64 R.va):=aP.2.1.cell 4;go_simp <;> with_reducible rfl):p:=h
theorem ag (h:p:=by rw [← hW];exact Blk.newAt _ _ _ _ dr):p:=h
theorem ai (h:p:=by rw [← hW];exact ((Ext.refl w).alloc' _).alloc' _):p:=h
theorem aj (h:p:=by intro W aP;obtain ⟨q0,q1,q2,q3,q4⟩:=aE aP.1;have t0:=aP.2.1.cell 0;have t1:=aP.2.1.cell 1;have t2:=aP.2.1.cell 2;have p0:=aP.2.2.1.cell 0;have p1:=aP.2.2.1.cell 1;have p2:=aP.2.2.1.cell 2;have p3:=aP.2.2.1.cell 3;have p4:=aP.2.2.1.cell 4;go_simp <;> with_reducible rfl):p:=h
theorem ak (h:p:=by rw [HLEN.out];exact hlt):p:=h
theorem al (h:p:=by rw [← h6.out.1];exact aB _ _ _ _):p:=h
theorem an (h:p:=by intro W aP;obtain ⟨q0,q1,q2,q3,q4⟩:=aE aP.1;have t0:=aP.2.1.cell 0;have t1:=aP.2.1.cell 1;have t2:=aP.2.1.cell 2;go_simp <;> with_reducible rfl):p:=h
theorem aq (h:p:=by intro W aP;have t0:=aP.1.cell 0;have t1:=aP.1.cell 1;have t2:=aP.1.cell 2;have p0:=aP.2.1.cell 0;have p1:=aP.2.1.cell 1;have p2:=aP.2.1.cell 2;have p3:=aP.2.1.cell 3;have p4:=aP.2.1.cell 4;go_simp <;> with_reducible rfl):p:=h
theorem ar (h:p:=by go_num):p:=h
theorem av (h:p:=by rw [HF.out];rfl):p:=h
theorem aw (h:p:=by rw [← hW];exact Blk.alloc (Blk.newAt _ _ _ _ dr) _):p:=h
theorem ax (h:p:=by rw [← h4.out,← HXS.out];exact Blk.new W 52 (opA R)):p:=h
theorem ay (h:p:=by with_unfolding_all rfl):p:=h
theorem az (h:p:=by intro W aP;have q9:W.cell? ⟨w.heap.size,2,none⟩=some (.slice (some ⟨bb,0,none⟩) s1.n3 s1.c3):=lz;go_simp <;> with_reducible rfl):p:=h
theorem a8 (h:p:=by rw [← h6.out];exact (Ext.refl w5).alloc' _):p:=h
theorem ba (h:p:=by rw [← h6.out,← HXS.out];exact Blk.new w5 81 (lkA l)):p:=h
theorem bc (h:p:=by rw [← hW];exact (((Ext.refl w).alloc' _).alloc' _).alloc' _):p:=h
theorem be (h:p:=by rw [← hW];exact (Ext.refl w).alloc' _):p:=h
theorem bg (h:p:=by rw [HV.out];rfl):p:=h
theorem bi (h:p:=by rw [← h4.out];exact (Ext.refl W).alloc' _):p:=h
theorem bj (h:p:=by first | exact ⟨aA.1.ext he8,aA.2.1.ext he8,aA.2.2.trans he8⟩ | exact aA):p:=h
theorem bk (h:p:=by intro W aP;have q9:W.cell? ⟨w.heap.size,3,none⟩=some (.slice (some ⟨bb,0,none⟩) s1.n4 s1.c4):=(by rw [← HAB.out];exact aP.1.cell 3);go_simp <;> with_reducible rfl):p:=h
theorem bm (h:p:=by rw [HSP.out];rfl):p:=h
theorem bn (h:p:=by refine .inl ⟨dp,fun V aP=>?_⟩;have k2:V.cell? ⟨X,2,none⟩=some (.int .i64 R.am):=aP.2.1.cell 2;go_simp;(try rfl)):p:=h
theorem bp (h:p:=by intro W aP;obtain ⟨q0,q1,q2,q3,q4⟩:=aE aP.2.1;have g3:=aP.1.cell 3;have t0:=aP.2.2.1.cell 0;have t1:=aP.2.2.1.cell 1;have t2:=aP.2.2.1.cell 2;have t3:=aP.2.2.1.cell 3;go_simp <;> with_reducible rfl):p:=h
theorem bq (h:p:=by intro W aP;have q9:W.cell? ⟨w.heap.size+1,22,none⟩=some (.slice S.A S.n S.c):=aP.2.1.cell 22;go_simp <;> with_reducible rfl):p:=h
theorem br (h:p:=by first | exact bM _ | exact eY _):p:=h
theorem bs (h:p:=by exact aG vtP dp (.tmp 10) dp (w.heap.size+1) 0 dp S.v vv HVV.out (fun V h=>aQ (k:=22) (aC h.2.1))):p:=h
theorem bw (h:p:=by intro W aP;have q9:W.cell? ⟨w.heap.size,0,none⟩=some (.slice (some ⟨bb,0,none⟩) s1.n1 s1.c1):=sy;go_simp <;> with_reducible rfl):p:=h
theorem bx (h:p:=by exact aG vtP dp (.tmp 5) dp (w.heap.size+1) 0 dp S.v vv HVV.out (fun V h=>aQ (k:=22) (aC h.2.1))):p:=h
theorem bz (h:p:=by first | exact blkN hb 0 | exact hI hb):p:=h
theorem ce (h:p:=by intro W aP;have q9:W.cell? ⟨w.heap.size,2,none⟩=some (.slice (some ⟨b,o,none⟩) s.n3 s.c3):=lz;have q8:W.cell? ⟨w.heap.size+1,2,none⟩=some (.slice (some ⟨b2,o2,none⟩) t.n3 t.c3):=(by rw [← HAB2.out];exact aP.2.1.cell 2);go_simp <;> with_reducible rfl):p:=h
theorem cf (h:p:=by rw [← hW];exact ((Blk.new w 30 (ssA s0)).alloc _).alloc _):p:=h
theorem cg (h:p:=by rw [← hW];exact (Blk.new w 30 (ssA s)).alloc _):p:=h
theorem ci (h:p:=by rw [← h8.out];exact Rd.cutG HRD.out rfl HSN.out hkn hnc):p:=h
theorem cj (h:p:=by rw [cH h9];exact HPK.out (by rw [← HL1.out];exact h9)):p:=h
theorem ck (h:p:=by injection hgg with h1;injection h1):p:=h
theorem cn (h:p:=by exact cK dp (.tmp 32) (.tmp 34) dp (vx:=.agg (nmc (cL R.pre))) (vy:=.agg (nmc l.hs)) dp dp (fZ _ _ _ _ _) (HNE.out)):p:=h
theorem co (h:p:=by exact aG nmP dp (.tmp 2) dp w.heap.size 0 dp pub _ rfl (fun V h=>bS h.1)):p:=h
theorem cp (h:p:=by rw [HL1.out];exact HKN.out):p:=h
theorem cq (h:p:=by obtain ⟨z,hz⟩:=h.2.2.2.1;exact ⟨z,hz.ext e⟩):p:=h
theorem cr (h:p:=by intro W aP;obtain ⟨g2,g3,q0,q1,q2,q3,q4,t0,p0,p1,p2,p3,p4,p7,p8⟩:=(H9.out.ext aP).f HK.out;go_simp <;> with_reducible rfl):p:=h
theorem cu (h:p:=by rw [← h9.out];exact aN (ds:=ssA s2) HFR.out rfl):p:=h
theorem cv (h:p:=by obtain ⟨z,hz⟩:=h.2.2.1;exact ⟨z,hz.ext e⟩):p:=h
theorem cw (h:p:=by rw [← hW];exact Blk.new w 33 (txA ac sq A n c)):p:=h
theorem cx (h:p:=by intro W aP;have q1:W.cell? ⟨w.heap.size,1,none⟩=some (.slice (some ⟨bb,0,none⟩) s.n2 s.c2):=(by rw [← HBB.out];exact aP.1.cell 1);have t0:=aP.2.1.cell 0;have t1:=aP.2.1.cell 1;have t2:=aP.2.1.cell 2;go_simp <;> with_reducible rfl):p:=h
theorem cy (h:p:=by rw [← hW8.out];exact aB _ _ _ _):p:=h
theorem dc (h:p:=by rw [HV.out];simp):p:=h
theorem dd (h:p:=by intro W aP;have q1:W.cell? ⟨w.heap.size+1,1,none⟩=some (.slice (some ⟨qb,qo,none⟩) s.n2 s.c2):=(by rw [← HQB.out];exact aP.2.1.cell 1);have t1:=aP.2.2.1.cell 1;have c9:=HQC.out W aP.2.2.2;go_simp <;> with_reducible rfl):p:=h
theorem de (h:p:=by intro W aP;obtain ⟨c1,c2⟩:=HC.out W aP;go_simp <;> with_reducible rfl):p:=h
theorem df (h:p:=by rw [← hk];exact (HB.out.ext he1).cell 0):p:=h
theorem dh (h:p:=by first | rfl | simp):p:=h
theorem di (h:p:=by simp [Region.wanted,hgd]):p:=h
theorem dj (h:p:=by rw [← hW];exact (Blk.new w 70 (stpA x)).alloc _):p:=h
theorem dl (h:p:=by refine .inl ⟨dp,fun V aP=>?_⟩;obtain ⟨q0,q1,q2,q3⟩:=nF (R9m.out.ext aP);go_simp;try rfl):p:=h
theorem dm (h:p:=by intro W aP;(try dsimp only at aP);go_simp <;> with_reducible rfl):p:=h
theorem dn (h:p:=by rw [HC.out];rfl):p:=h
theorem dp (h:p:=by rfl):p:=h
theorem dq (h:p:=by injection e;omega):p:=h
theorem dr (h:p:=by simp):p:=h
theorem dt (h:p:=by rw [IntKind.wrap_i64];omega):p:=h
theorem du (h:p:=by have:=HN.out;omega):p:=h
theorem dv (h:p:=by unfold kH;omega):p:=h
theorem dw (h:p:=by clear q hp;omega):p:=h
theorem dx (h:p:=by rw [← Nat.add_mul];congr 1;omega):p:=h
theorem dy (h:p:=by first | exact bM _ | (rw [← bM];omega)):p:=h
theorem dz (h:p:=by have:=HM.out;omega):p:=h
theorem ea (h:p:=by rw [← h9.out];exact Below.setCells' HF.out.low aa _ _):p:=h
theorem eb (h:p:=by have:=hR.prf.le;have:=hR.prf.cap;omega):p:=h
theorem ec (h:p:=by have:=hR.pre.le;have:=hR.pre.cap;omega):p:=h
theorem ee (h:p:=by show min _ _=_;omega):p:=h
theorem ef (h:p:=by rw [HLEN.out];omega):p:=h
theorem eh (h:p:=by rw [← h4.out];exact (Ext.refl wr).alloc' _):p:=h
theorem ei (h:p:=by rw [HC.out] at h;exact absurd h ae):p:=h
theorem ej (h:p:=by rw [← h6.out.1];exact Below.setCells' aA.2.2.2.2 aa _ _):p:=h
theorem ek (h:p:=by rw [pI ak,HDD.out,if_pos (show oT d.c=true from by unfold oT;rw [HKK.out];decide)]):p:=h
theorem el (h:p:=by have:=HNN.out;omega):p:=h
theorem eo (h:p:=by rw [← h9.out];exact Below.setCells' HX7.out aa _ _):p:=h
theorem ep (h:p:=by obtain ⟨z,hz⟩:=aA.2.2.1;exact ⟨z,hz.ext he8⟩):p:=h
theorem es (h:p:=by unfold maxLen at hm;omega):p:=h
theorem et (h:p:=by rw [List.length_take,List.length_drop,HL.out];omega):p:=h
theorem eu (h:p:=by rw [HN.out]):p:=h
theorem ew (h:p:=by rw [h];decide):p:=h
theorem ex (h:p:=by rw [← HVX.out,← HVY.out];exact mP op x y R T W):p:=h
theorem ey (h:p:=by rw [← hW];exact (Blk.new w 124 (vtA a)).alloc _):p:=h
theorem fa (h:p:=by rw [cH hl];exact HPJ.out j hj):p:=h
theorem fc (h:p:=by rw [← h2.out];exact StB.start HO1.out HB1.out HX1.out (Nat.le_refl _)):p:=h
theorem fd (h:p:=by rw [← hW6.out];exact aB _ _ _ _):p:=h
theorem fe (h:p:=by rw [HLEN.out];exact Nat.le_refl _):p:=h
theorem ff (h:p:=by rw [aT,hr.len,Nat.mul_one]):p:=h
theorem fg (h:p:=by rw [← hk];exact hlt):p:=h
theorem fh (h:p:=by rw [List.length_append,hla,hl,Nat.add_mul]):p:=h
theorem fi (h:p:=by injection e;have:=HX0.out;omega):p:=h
theorem fj (h:p:=by have:=HLEN.out;omega):p:=h
theorem fk (h:p:=by rw [HLEN.out]; exact hlt):p:=h
theorem fl (h:p:=by rw [← hWF];exact (HR8.out.ext HX10.out).far (p:=⟨w.heap.size,3,none⟩) (show w.heap.size+2 ≠ w.heap.size by omega) _):p:=h
theorem fm (h:p:=by rw [← hWF];exact (HR8.out.ext HX10.out).far (p:=⟨w.heap.size,2,none⟩) (show w.heap.size+2 ≠ w.heap.size by omega) _):p:=h
theorem fo (h:p:=by rw [← hWF];exact (HR8.out.ext HX10.out).far (p:=⟨w.heap.size,0,none⟩) (show w.heap.size+2 ≠ w.heap.size by omega) _):p:=h
theorem fp (h:p:=by rw [aT,aK];exact Nat.le_refl _):p:=h
theorem fq (h:p:=by first | exact decide_eq_true ⟨h1,h2⟩ | exact decide_eq_false (fun h=>h2 h.2) | exact decide_eq_false (fun h=>h1 h.1)):p:=h
theorem fs (h:p:=by have:=HBD.out;omega):p:=h
theorem ft (h:p:=by have h1:=HS.out.len;have h2:=HM.out.len;rw [e] at h1;omega):p:=h
theorem fu (h:p:=by rw [eL,HEF.out,bL];exact ho5):p:=h
theorem fv (h:p:=by rw [← h4.out,← HXS.out];exact Blk.new wr 52 (opA R)):p:=h
theorem fw (h:p:=by rw [List.length_append,htl,HJL.out,HLEN.out];exact hle3):p:=h
theorem fx (h:p:=by rw [HDK.out];exact hb):p:=h
theorem fy (h:p:=by rw [HSP.out];exact HSL.out):p:=h
theorem fz (h:p:=by rw [← Nat.add_mul];exact Nat.mul_le_mul_right _ aa):p:=h
theorem f5 (h:p:=by rw [hjs,show n+1 - n=1 by omega];exact Nat.one_mul _):p:=h
theorem f7 (h:p:=by rw [hby];omega):p:=h
theorem ga (h:p:=by rw [bL,gK];exact ho9):p:=h
theorem gc (h:p:=by have:=HKI.out;have:=HBI.out;omega):p:=h
theorem gd (h:p:=by rcases List.mem_append.1 hd with hd | hd;exact List.mem_of_mem_take hd;exact List.mem_of_mem_drop hd):p:=h
theorem ge (h:p:=by rw [← hW];exact (Blk.new w 30 (ssA s0)).alloc _):p:=h
theorem gg (h:p:=by rw [← hW1];exact ((Ext.refl w).drew').alloc' _):p:=h
theorem gh (h:p:=by rw [HLEN.out];exact hi):p:=h
theorem gi (h:p:=by have:=pH hra k hlt;rwa [Nat.zero_add] at this):p:=h
theorem gj (h:p:=by simp;omega):p:=h
theorem gk (h:p:=by simp only [List.length_append,Array.length_toList,List.toList_toArray,hzs,List.size_toArray,htl];omega):p:=h
theorem gl (h:p:=by rw [aJ,List.length_take,HLEN.out,Nat.min_eq_left aa];rfl):p:=h
theorem gm (h:p:=by simp only [maxLen];omega):p:=h
theorem gn (h:p:=by rw [← h9.out.1];exact (HR6.out.ext hE).grown (aB _ _ _ _) (fun e=>dq)):p:=h
theorem gp (h:p:=by rw [e];rfl):p:=h
theorem gq (h:p:=by rw [aJ,List.length_drop,HSN.out];rfl):p:=h
theorem gu (h:p:=by intro h;have:=congrArg List.length h;simp [ics,iN] at this):p:=h
theorem gy (h:p:=by unfold cP;rw [HRR.out,HKK.out];rfl):p:=h
theorem gz (h:p:=by (rcases Classical.em (c=i+1) with hc | hc <;> (refine Or.inl ⟨dp,fun W _=>?_⟩;rw [← HAD.out];(first | rw [if_pos hc] | rw [if_neg hc]);go_simp <;> with_reducible rfl))):p:=h
theorem ia (h:p:=by rw [HC.out]):p:=h
theorem ib (h:p:=by rw [aJ,List.length_drop,HLEN.out,show Nat.min (n+1 - i) (n - i)=n - i from ee];rfl):p:=h
theorem ic (h:p:=by rw [aJ,List.length_drop,HLEN.out,show Nat.min (c - i) (c - i)=c - i from ee];rfl):p:=h
theorem ie (h:p:=by unfold flw;simp only [decide_eq_false_iff_not];omega):p:=h
theorem ig (h:p:=by intro W aP;obtain ⟨g0,g1,g2,g3,g4,q0,q1,q2,q3,q4,t0,t1,t2,t3,o0,o1,o2,o3,o4⟩:=(H9.out.ext aP).f HA.out;rw [HGB.out] at g3;go_simp <;> with_reducible rfl):p:=h
theorem ii (h:p:=by exact aG nmP dp (.tmp 3) dp (w.heap.size+1) 0 dp x _ rfl (fun V h=>bS h.2.1)):p:=h
theorem ij (h:p:=by (first | rw [HBE.out] | rw [Int.toNat_natCast,HBE.out]);show _=Ending.returned (.int .i64 (if sq ≠ aS s.Q a then (101:Int) else 0));rw [HSP.out];rfl):p:=h
theorem ik (h:p:=by rw [← h9.out];exact aN (ds:=ssA s5) HR7.out rfl):p:=h
theorem il (h:p:=by rw [← h9.out];exact aN (ds:=ssA s2) HR5.out rfl):p:=h
theorem im (h:p:=by rw [← HSP.out];rfl):p:=h
theorem io (h:p:=by exact aG nmP dp (.tmp 3) rfl w.heap.size 0 rfl x _ rfl (fun V h=>bS h.1)):p:=h
theorem ip (h:p:=by rw [RowT.len];rfl):p:=h
theorem ir (h:p:=by exact aG nmP dp (.tmp 33) rfl X 8 rfl l.hs _ rfl (fun V h=>aBF h.2.2.1)):p:=h
theorem iu (h:p:=by exact cK (vx:=.agg (nmc x)) (vy:=.agg (nmc (aS L k))) dp (.tmp 11) (.tmp 15) rfl rfl rfl (fun w=>fZ _ _ _ _ _ w) (fun w=>by rw [cE,HD.out])):p:=h
theorem iw (h:p:=by rw [HL8.out];exact Nat.le_of_ble_eq_true rfl):p:=h
theorem ix (h:p:=by intro W aP;have q4:=HQ4.out W aP.1;go_simp <;> with_reducible rfl):p:=h
theorem iy (h:p:=by intro W aP;have a0:=aP.2.1.cell 21;go_simp <;> with_reducible rfl):p:=h
theorem iz (h:p:=by rw [show (256:Nat)=2 ^ 8 from rfl,← Nat.pow_mul];congr 1;omega):p:=h
theorem ja (h:p:=by unfold vdV vdC;rw [hv];exact ⟨rfl,rfl⟩):p:=h
theorem jb (h:p:=by unfold gY; rw [HK.out, hk]; rfl):p:=h
theorem jc (h:p:=by unfold cP; rw [HK.out, hk]; rfl):p:=h
theorem jd (h:p:=by simp only [Array.size_append,hzs,List.size_toArray,htl];omega):p:=h
theorem je (h:p:=by rw [← hjs,HLEN.out,Array.length_toList,size_zeroCells];rfl):p:=h
theorem jf (h:p:=by rw [← h2.out];exact HR1.out.grown (aB _ _ _ _) (fun e=>dq)):p:=h
theorem jg (h:p:=by rw [← h2.out];exact HD1.out.grown (aB _ _ _ _) (fun e=>dq)):p:=h
theorem jh (h:p:=by rw [aJ,HU5.out.len];rfl):p:=h
theorem ji (h:p:=by rw [← hW8.out];exact aN (ds:=rcA (⟨0,A5,n5,c5,gH (a:Int) sq L,bits .andNot .i64 s4.G s0.G⟩:RcR)) hQ6 rfl):p:=h
theorem jj (h:p:=by rw [← hW8.out];exact aN (ds:=rcA (⟨0,A5,n5,c5,gH x.ac x.sq L,bits .andNot .i64 s5.G s1.G⟩:RcR)) hQ6 rfl):p:=h
theorem jk (h:p:=by rw [RowT.len,show Nat.min 1 (n+1 - i)=1 from ee];rfl):p:=h
theorem jl (h:p:=by rw [RowT.len,show Nat.min 1 (c+1 - i)=1 from ee];rfl):p:=h
theorem jm (h:p:=by rw [← h9.out];exact aN (ds:=ssA s) HA.out.res rfl):p:=h
theorem jo (h:p:=by intro W aP;obtain ⟨q0,q1,q2,q3,q4⟩:=aE aP.1;have r10:=aP.2.1.cell 10;go_simp <;> with_reducible rfl):p:=h
theorem jq (h:p:=by have:=(dX HVT.out).1.2.2.2.2.2;have:=HLEN.out;omega):p:=h
theorem jr (h:p:=by rw [← hW8.out];refine Below.setCells' ?_ aa _ _;rw [← h9.out];exact Below.setCells' HX7.out aa _ _):p:=h
theorem jt (h:p:=by rw [HS1.out];rfl):p:=h
theorem ju (h:p:=by have:=h.len;simpa using this.symm):p:=h
theorem jv (h:p:=by intro W aP;obtain ⟨q0,q1,q2,q3,q4⟩:=mI aP.1;have a0:=aP.1.cell 10;go_simp <;> with_reducible rfl):p:=h
theorem jw (h:p:=by refine .inl ⟨dp,fun V aP=>?_⟩;obtain ⟨q0,q1,q2,q3,q4⟩:=aE (B12m.out.ext aP);go_simp;try rfl):p:=h
theorem jx (h:p:=by refine .inl ⟨dp,fun V aP=>?_⟩;obtain ⟨q0,q1,q2,q3⟩:=kY (TB3m.out.ext aP);go_simp;try rfl):p:=h
theorem jy (h:p:=by exact aG nmP dp (.tmp 26) dp (w.heap.size+1) 0 dp d.nm _ rfl (fun V h=>aQ (k:=8) (aC h.2.1))):p:=h
theorem jz (h:p:=by have := hs.out; rw [gX i' n' h2 (by rw [← Hk.out]; exact hlt), ← Hk.out] at this; omega):p:=h
theorem j3 (h:p:=by rw [← h9.out];exact World.ownsRow.kept hob (aB WF g _ 0) (.inr (Ne.symm (aL hob hB ae)))):p:=h
theorem j4 (h:p:=by rw [← h9.out];exact World.ownsRow.kept hoa (aB WF g _ 0) (.inr (Ne.symm (aL hoa hB ae)))):p:=h
theorem j5 (h:p:=by refine oA ?hw (.tmp 4) rfl w1.heap.size 0 ?hx v (fun W h=>h);(case hw=>rfl);(case hx=>rfl)):p:=h
theorem j6 (h:p:=by rw [← hb.out.2];exact Below.setCells' HEa.out (by rw [HGG.out];exact Nat.le_succ _) _ _):p:=h
theorem j7 (h:p:=by rw [← ha.out.2];exact Below.setCells' HU.out (by rw [HGG.out];exact Nat.le_refl _) _ _):p:=h
theorem j8 (h:p:=by simpa [Ext] using hE3):p:=h
theorem j9 (h:p:=by rw [← h4];exact Bool.beq_eq_decide_eq _ _):p:=h
theorem ka (h:p:=by rw [← h3];exact Bool.beq_eq_decide_eq _ _):p:=h
theorem kb (h:p:=by rw [← h1];exact Bool.beq_eq_decide_eq _ _):p:=h
theorem kd (h:p:=by have:=hs.out;rw [fO i' n' h2 (by rw [← Hk.out];exact hlt),← Hk.out] at this;omega):p:=h
theorem ke (h:p:=by exact aG ceP dp (.tmp 62) dp bb (k * 11) dp d.c vd HVD.out (fun V h=>HDR.out V h.2.2)):p:=h
theorem kf (h:p:=by rw [← hW];simp):p:=h
theorem kg (h:p:=by rw [← h9.out.1];exact StB.start ho2 (HS6.out.blk.ext hE) (HS6.out.low.trans hE) aa):p:=h
theorem kh (h:p:=by rw [HVS.out];rfl):p:=h
theorem ki (h:p:=by rw [HV1.out];rfl):p:=h
theorem kl (h:p:=by rw [← hW];exact (((((Ext.refl w).alloc' _).alloc' _).alloc' _).alloc' _).alloc' _):p:=h
theorem kn (h:p:=by rw [cR];rfl):p:=h
theorem ko (h:p:=by rw [List.length_take];omega):p:=h
theorem kp (h:p:=by exact aG nmP dp (.tmp 32) dp bb (k * 19) dp d9.nm _ rfl (fun V h=>HDR.out V h.2.2)):p:=h
theorem kq (h:p:=by have:=HO.out;rwa [Nat.sub_zero,List.take_of_length_le (by rw [dE];omega)] at this):p:=h
theorem kr (h:p:=by first | exact (Ext.refl W1).drew'.alloc' _ | exact ((Ext.refl W1).alloc' _).drew'):p:=h
theorem ks (h:p:=by exact aG ceP dp (.tmp 4) dp (w.heap.size+1) 0 dp c vc HVC.out (fun V h=>aC h.2.1)):p:=h
theorem kt (h:p:=by rw [htby];omega):p:=h
theorem ku (h:p:=by rw [hlen];omega):p:=h
theorem kv (h:p:=by rw [HQ.out];rfl):p:=h
theorem kx (h:p:=by rw [HLEN.out];exact Nat.le_of_lt HI.out):p:=h
theorem kz (h:p:=by rw [HG.out];rfl):p:=h
theorem k8 (h:p:=by intro W aP;obtain ⟨c0,c1,c2,c3,c4⟩:=aE aP.1;go_simp <;> with_reducible rfl):p:=h
theorem lc (h:p:=by have:=Below.trans hw2 (he3.mono (B':=w.heap.size+1) aa);simpa [Ext] using this):p:=h
theorem ld (h:p:=by exact aG nmP dp (.tmp 24) dp bb (k * 8) dp d9 _ rfl (fun V h=>HDR.out V h.2.2)):p:=h
theorem lf (h:p:=by rw [Addr.add_mid];exact HV2.out j v hv):p:=h
theorem lg (h:p:=by injection e with e;have:=HGS.out;omega):p:=h
theorem lh (h:p:=by rw [HS.out];go_num):p:=h
theorem li (h:p:=by rw [Addr.add_mid];exact HV.out j v hv):p:=h
theorem lj (h:p:=by first | exact aA.trans he5 | exact aA):p:=h
theorem ll (h:p:=by exact aG sgP dp (.tmp 3) dp w.heap.size 0 dp S vs HVS.out (fun V h=>aC h.1)):p:=h
theorem lm (h:p:=by exact aG nmP dp (.tmp 14) rfl b (o+k * 8) rfl (aS L k) _ rfl (fun V h=>h.2)):p:=h
theorem ln (h:p:=by rw [HR.out,eG];exact ho3):p:=h
theorem lp (h:p:=by rw [← hW];exact ((Blk.alloc (Blk.newAt _ _ _ _ dr) _).alloc _).alloc _):p:=h
theorem lq (h:p:=by refine .inl ⟨dp,fun V _=>?_⟩;go_simp;exact (kT ⟨gc,gc⟩).trans aa):p:=h
theorem lr (h:p:=by rw [← h9.out.1];exact (HG6.out.ext hE).grown (aB _ _ _ _) (fun e=>dq)):p:=h
theorem ls (h:p:=by cases h):p:=h
theorem lu (h:p:=by rw [show p * 10=p * 10 from rfl];exact RowCe.load HD.out rfl hpn hT he):p:=h
theorem lw (h:p:=by rw [show k * 10=k * 10 from rfl];exact RowCe.load HD.out rfl hlt hR he):p:=h
theorem lx (h:p:=by simpa using h):p:=h
theorem ly (h:p:=by simp [HC.out]):p:=h
theorem lz (h:p:=by rw [← HAB.out];exact aP.1.cell 2):p:=h
theorem l5 (h:p:=by rw [lS];intro d hd;exact (b1 p hp).2.2.2 d (by rw [← hds];exact hd)):p:=h
theorem l6 (h:p:=by obtain ⟨z,hz⟩:=aA.2.2.2.2.1;exact ⟨z,hz.grown al (fun e=>dq)⟩):p:=h
theorem l8 (h:p:=by rw [← h9.out];exact Below.setCells' (HEX.out.trans HX5.out) aa _ _):p:=h
theorem ma (h:p:=by rw [HL1.out];exact hlt):p:=h
theorem mb (h:p:=by exact aG nmP dp (.tmp 39) rfl X 5 rfl R.lk _ rfl (fun V h=>kJ h.2.1)):p:=h
theorem mc (h:p:=by rw [List.length_take,h.len];omega):p:=h
theorem me (h:p:=by obtain ⟨z,hz⟩:=aA.2.2.2.1;exact ⟨z,hz.grown cy (fun e=>dq)⟩):p:=h
theorem mf (h:p:=by have:=h.le;omega):p:=h
theorem mh (h:p:=by have:=(b1 p hp).2.2.1;unfold aBe at this;rw [ho] at this;exact this):p:=h
theorem mi (h:p:=by exact aG nmP dp (.tmp 64) dp X 5 dp R.lk _ rfl (fun V h=>kJ h.2.1)):p:=h
theorem mj (h:p:=by simp [bcs]):p:=h
theorem ml (h:p:=by rw [hd,hd2];exact hne):p:=h
theorem mm (h:p:=by refine .inl ⟨dp,fun V _=>?_⟩;rw [← HBB.out];go_simp;try rfl):p:=h
theorem mn (h:p:=by have:=aBX ((nmb m).take k);rw [List.length_take,hl] at this;omega):p:=h
theorem mo (h:p:=by rw [hk3];rfl):p:=h
theorem mp (h:p:=by rw [hk2];rfl):p:=h
theorem mq (h:p:=by rw [hk1];rfl):p:=h
theorem mr (h:p:=by rw [← hR,mC];exact cN hrow aa):p:=h
theorem ms (h:p:=by injection e with e;exact e.symm):p:=h
theorem mt (h:p:=by rw [← hs2.out];rfl):p:=h
theorem mu (h:p:=by rw [← hW];exact (Blk.alloc (Blk.newAt _ _ _ _ dr) _).alloc _):p:=h
theorem mv (h:p:=by rw [← hW8.out];exact h6.out.2.grown (aB _ _ _ _) (fun e=>dq)):p:=h
theorem mw (h:p:=by rw [← e2];exact hw):p:=h
theorem mx (h:p:=by rw [h.info,RowT.len]):p:=h
theorem my (h:p:=by rw [HV2.out,HSP.out]):p:=h
theorem mz (h:p:=by rw [← h9.out];exact HQ7.out.grown (aB _ _ _ _) (fun e=>dq)):p:=h
theorem m6 (h:p:=by unfold dG; rw [hk]; simp [h1]):p:=h
theorem m7 (h:p:=by rw [← h6.out.1];exact Below.setCells' aA.2.2.2.2.2 aa _ _):p:=h
theorem m8 (h:p:=by rw [← HS.out];rfl):p:=h
theorem m9 (h:p:=by rw [aJ,hs7.len];rfl):p:=h
theorem nb (h:p:=by have:=HQN.out;omega):p:=h
theorem nc (h:p:=by have:=HKK.out;omega):p:=h
theorem nd (h:p:=by rw [← hW];exact ((Blk.new w 30 (ssA s)).alloc _).alloc _):p:=h
theorem nf (h:p:=by rw [← hW8.out];exact hst9.grown (aB _ _ _ _) (fun e=>dq)):p:=h
theorem ng (h:p:=by rw [← hW8.out];exact Below.setCells' aA.2.2.2.2.2 aa _ _):p:=h
theorem nh (h:p:=by have h7:=hs8.len;have h8:(dF cA cc pd).length=2:=rfl;omega):p:=h
theorem ni (h:p:=by first | exact ⟨aA.1.ext he8,aA.2.trans he8⟩ | exact aA):p:=h
theorem nj (h:p:=by rw [← h9.out];exact aN (ds:=evA E) hB rz):p:=h
theorem nk (h:p:=by rw [← h6.out,← HYS.out];exact Blk.new w5 126 (sgA S2)):p:=h
theorem nl (h:p:=by rw [← h4.out,← HXS.out];exact Blk.new w1 126 (sgA S1)):p:=h
theorem nn (h:p:=by rw [← HS.out.len];exact hj):p:=h
theorem np (h:p:=by have hv:=HVS.out.2.2.1;rw [← hv];unfold fL;rw [HFK.out]):p:=h
theorem nr (h:p:=by rw [← h4.out,← HXS.out];exact Blk.new w2 128 (evA E)):p:=h
theorem nt (h:p:=by rw [← h.out];rfl):p:=h
theorem nu (h:p:=by have:=bG (k:=23) (aY hr (h.block b hb));rwa [e2] at this):p:=h
theorem nw (h:p:=by have:=aQ (k:=23) (aY hr (h.block b hb));rwa [e1] at this):p:=h
theorem nx (h:p:=by have:=HJ.out;omega):p:=h
theorem ny (h:p:=by rw [← h6.out.1];exact Below.setCells' aA.2.2.2 aa _ _):p:=h
theorem nz (h:p:=by rw [← h4.out,← HXS.out];exact Blk.new wr 92 (deA d)):p:=h
theorem nC (h:p:=by rw [List.length_drop,h.len]):p:=h
theorem nD (h:p:=by rw [IntKind.wrap_u64];omega):p:=h
theorem oa (h:p:=by rw [← hW];exact aC ((Blk.new w 124 (vtA v)).alloc _)):p:=h
theorem oc (h:p:=by simp [IntKind.wrap,IntKind.bits,IntKind.signed];omega):p:=h
theorem od (h:p:=by rw [← hs2];exact HNX.out):p:=h
theorem oe (h:p:=by rw [← HLEN.out];exact hj):p:=h
theorem og (h:p:=by rw [hd];exact heq):p:=h
theorem oh (h:p:=by rw [HS.out.len,HM.out.len]):p:=h
theorem om (h:p:=by obtain ⟨z,hz⟩:=h.2.2.2.2.1;exact ⟨z,hz.ext e⟩):p:=h
theorem oo (h:p:=by obtain ⟨v,h1,h2,h3⟩:=hR;exact key v u w' h1 h2 h3):p:=h
theorem oq (h:p:=by rw [← h9.out];exact Below.setCells' HX5.out aa _ _):p:=h
theorem ot (h:p:=by rw [← h9.out];exact Below.setCells' HEX.out aa _ _):p:=h
theorem ou (h:p:=by have:=hb1.out;rw [uH] at this;rw [HD.out];exact this):p:=h
theorem ov (h:p:=by have:=HM.out;rw [gX i n hn2 fg,← hk] at this;omega):p:=h
theorem ox (h:p:=by have:=HM.out;rw [fO i n hn2 fg,← hk] at this;omega):p:=h
theorem oy (h:p:=by rw [← hb.out.2];exact HBa.out.setCells_far aa _ _):p:=h
theorem oz (h:p:=by rw [cH hl];exact hno j hj):p:=h
theorem o5 (h:p:=by rw [HS.out.len];exact hlt):p:=h
theorem o6 (h:p:=by rw [HM.out.len];exact hlt):p:=h
theorem o7 (h:p:=by rw [HLEN.out] at hj;omega):p:=h
theorem o8 (h:p:=by have h7:=kE (a:Int) sq L k;rw [hs8.len] at h7;omega):p:=h
theorem pe (h:p:=by rw [← ha.out.2];exact HQ.out.setCells_far aa _ _):p:=h
theorem pg (h:p:=by rw [← hW];exact (Blk.new w 50 (nmc pub)).alloc _):p:=h
theorem ph (h:p:=by rw [← HAB.out];exact (HSD.out.blk.ext hE).cell 2):p:=h
theorem pi (h:p:=by rw [← HAB.out];exact (HSD.out.blk.ext hE).cell 0):p:=h
theorem pj (h:p:=by rw [RowT.len,Nat.add_mul,Nat.one_mul,Nat.add_comm]):p:=h
theorem pl (h:p:=by rw [E2.out];exact RowCe.load HD.out rfl hjpn hT he):p:=h
theorem pm (h:p:=by unfold iO;rw [if_pos hv]):p:=h
theorem pn (h:p:=by simp [h0]):p:=h
theorem po (h:p:=by rw [← h9.out];exact aN (ds:=ssA s1) HZ7.out rfl):p:=h
theorem pp (h:p:=by rw [cH hl];exact h2 j hj):p:=h
theorem pq (h:p:=by rw [aJ,List.length_drop]):p:=h
theorem ps (h:p:=by rw [HLEN.out]; exact hno):p:=h
theorem pt (h:p:=by rw [E1.out];exact RowCe.load HD.out rfl hjn hR he):p:=h
theorem pu (h:p:=by rw [← hW];exact (Blk.new w 50 (nmc n)).alloc _):p:=h
theorem pv (h:p:=by rw [← h9.out];exact aN (ds:=ssA s0) HR.out rfl):p:=h
theorem px (h:p:=by rw [List.set_eq_take_append_cons_drop,if_pos hk]):p:=h
theorem py (h:p:=by rw [List.length_take];exact Nat.min_le_right _ _):p:=h
theorem pz (h:p:=by unfold sdC;rw [hS.len];rw [if_neg aa,if_pos hn]):p:=h
theorem p5 (h:p:=by rw [← h9.out];exact Below.setCells' hX hg _ _):p:=h
theorem p9 (h:p:=by rw [size_zeroCells];rfl):p:=h
theorem qa (h:p:=by rw [bne,b1];rfl):p:=h
theorem qc (h:p:=by rw [aJ];rfl):p:=h
theorem qd (h:p:=by obtain ⟨z,hz⟩:=h.2.1;exact ⟨z,hz.ext e⟩):p:=h
theorem qe (h:p:=by rw [htsz,Nat.zero_add];exact h.drew.frozenAt _):p:=h
theorem qf (h:p:=by rw [← hk]; exact hlt):p:=h
theorem qg (h:p:=by rw [HLEN.out];exact hk):p:=h
theorem qh (h:p:=by have:=y.toNat_lt;omega):p:=h
theorem qi (h:p:=by have:=x.toNat_lt;omega):p:=h
theorem qj (h:p:=by simpa using hq):p:=h
theorem qk (h:p:=by simpa using hp):p:=h
theorem ql (h:p:=by simpa using hO):p:=h
theorem qm (h:p:=by rw [← h4.out];exact (Ext.refl w2).alloc' _):p:=h
theorem qn (h:p:=by rw [← h4.out];exact (Ext.refl w1).alloc' _):p:=h
theorem qp (h:p:=by rw [Array.length_toList,size_zeroCells,E.zs]):p:=h
theorem qq (h:p:=by rw [← h5];exact Bool.beq_eq_decide_eq _ _):p:=h
theorem qr (h:p:=by rw [← N2.out];exact HSRC.out _ HZ.out _ _):p:=h
theorem qs (h:p:=by rw [← N1.out];exact HSRC.out _ HZ.out _ _):p:=h
theorem qt (h:p:=by rw [aJ,List.length_take,Nat.min_eq_left hi]):p:=h
theorem qu (h:p:=by rw [HT.out];exact World.ownsRow_nil _ _ _ _):p:=h
theorem qv (h:p:=by have:=hs.out;rw [jO i' n' h2] at this;omega):p:=h
theorem qx (h:p:=by rw [← (b1 q hq).2.2.1,e,(b1 p hp).2.2.1]):p:=h
theorem qy (h:p:=by rw [List.length_append,htl,RowT.len];omega):p:=h
theorem qz (h:p:=by simpa [Ext] using hB):p:=h
theorem re (h:p:=by rw [← hA2,Option.map_some,Addr.add_mid]):p:=h
theorem rf (h:p:=by rw [pG];omega):p:=h
theorem rg (h:p:=by rw [hS.len];exact hi):p:=h
theorem rh (h:p:=by rw [HV5.out,HV4.out]):p:=h
theorem ri (h:p:=by rw [HSP.out,HV2.out]):p:=h
theorem rj (h:p:=by rw [Array.size_setIfInBounds];exact h.lsz):p:=h
theorem rk (h:p:=by have:=HKK.out;have:=HQ.out;congr 1;omega):p:=h
theorem rl (h:p:=by have:=HA6.out.st.own.o1;rwa [hA] at this):p:=h
theorem rm (h:p:=by rw [← hW];exact Blk.new w 128 (evA E)):p:=h
theorem rp (h:p:=by rw [← hW];exact Blk.new w 126 (sgA S)):p:=h
theorem rq (h:p:=by rw [← HQ.out];rfl):p:=h
theorem rr (h:p:=by rw [htsz];exact hdl):p:=h
theorem rs (h:p:=by rw [cH hh];exact h1):p:=h
theorem rt (h:p:=by rw [bL,gK];exact hO):p:=h
theorem ru (h:p:=by unfold sdC;rw [hl,if_neg aa,if_neg aa]):p:=h
theorem rz (h:p:=by rw [hcs];rfl):p:=h
theorem r8 (h:p:=by rw [bne_iff_ne];exact fun e=>hs e.symm):p:=h
theorem sc (h:p:=by rw [HSP.out]):p:=h
theorem sd (h:p:=by unfold vdV;split;exact aDO _;exact dB):p:=h
theorem se (h:p:=by unfold sdC;rw [hS.len];rw [if_pos hn]):p:=h
theorem sf (h:p:=by rw [h.tsz];exact (b1 q hq).2.2.2 t ht):p:=h
theorem sh (h:p:=by rw [aJ,List.length_drop,HLEN.out];rfl):p:=h
theorem sj (h:p:=by rw [List.length_append,htl,hdl];omega):p:=h
theorem sk (h:p:=by rw [← hW];exact Blk.new w 128 ev0):p:=h
theorem sm (h:p:=by rw [hlen] at hj;simpa using hf j hj):p:=h
theorem sn (h:p:=by rw [hlen] at hj;simpa using hc j hj):p:=h
theorem so (h:p:=by rw [hl];rfl):p:=h
theorem sr (h:p:=by rw [aDm];exact Blk.newAt _ _ _ _ dr):p:=h
theorem ss (h:p:=by rw [HX.out]):p:=h
theorem sv (h:p:=by injection e):p:=h
theorem sw (h:p:=by have:=h.cap;omega):p:=h
theorem sx (h:p:=by have:=HE5.out.size;simpa using this):p:=h
theorem sy (h:p:=by rw [← HAB.out];exact aP.1.cell 0):p:=h
theorem s8 (h:p:=by rw [h1]; exact bne_self_eq_false _):p:=h
theorem tc (h:p:=by rw [List.take_of_length_le aa];rfl):p:=h
theorem td (h:p:=by injection hA3 with h6;injection h6):p:=h
theorem CW (h:p:=by
 rw [← hs4]
 have:=HBD.out
 show s.n1≤1000000∧s.n2≤1000000∧s.n3≤1000000∧s.n4≤1000000
 omega):p:=h
theorem CV (h:p:=by
 rw [← h6.out.1]
 exact ho8.kept (aB _ _ _ _) (.inr (Ne.symm (aL ho8 hz6 ae)))):p:=h
theorem CU (h:p:=by
 go_simp
 have hk:=hK.out (.agg (ssA s)) _ (Ext.refl _) (rfl)
 try simp only [aR] at hk
 exact hk):p:=h
theorem CT (h:p:=by
 go_wp2_with fail
 go_roundw
 case rel=>exact ⟨k+1,s3,ar,hlt,HF⟩
 case measure=>simp [intOf];omega):p:=h
theorem CS (h:p:=by
 injection e2 with e3
 injection e3 with e4 e5
 subst e4
 subst e5
 exact cN hr2 ak):p:=h
theorem CR (h:p:=by
 have hk:=hK.out (.slice A5 n5 c5) _ (he5) (⟨A5,n5,c5,rfl,hs5⟩)
 try simp only [aR] at hk
 exact hk):p:=h
theorem CQ (h:p:=by
 rintro e w5 ⟨s3,rfl,ho3,hv3,he5⟩
 have hk:=hK.out (.agg (ssA s3)) _ (he5) (⟨s3,rfl,ho3,by rw [hv3,hv2];rfl⟩)
 try simp only [aR] at hk
 exact hk):p:=h
theorem CP (h:p:=by
 rw [← h9.out]
 exact HA.out.st.own.kept (aB _ _ _ _) HA.out.res ae ae ae ae):p:=h
theorem CO (h:p:=by exact zzF hK (.agg (deA ⟨(aV (a:Int)),Go.Proofs.YtgmnmjeccfnmbaaGreat.wr (-R.am)⟩))):p:=h
theorem CN (h:p:=by exact CW):p:=h
theorem CM (h:p:=by
 rintro e w5 ⟨s5,rfl,ho5,hv5,he5⟩
 have hk:=hK.out (.agg (ssA s5)) _ (he5) (⟨s5,rfl,bO ho5 hS.2.2.2.size,hv5⟩)
 try simp only [aR] at hk
 exact hk):p:=h
theorem CL (h:p:=by
 go_wp2_with fail
 go_ret
 exact ⟨av,HE.out.trans HX.out⟩):p:=h
theorem CK (h:p:=by
 refine hsrc0 _ v ?_
 rw [← fB,List.getElem?_drop] at hv
 exact hv):p:=h
theorem CJ (h:p:=by
 have hh:doO ac sq L s0.V i=gY ac sq L s1.V i:=ki
 rw [hh]
 unfold gY
 rw [HK.out,hk];rfl):p:=h
theorem CI (h:p:=by
 go_wp2_with fail
 go_roundw
 case rel=>exact ⟨k+1,s,ar,hlt,HF⟩
 case measure=>simp [intOf];omega):p:=h
theorem CH (h:p:=by exact CU):p:=h
theorem CG (h:p:=by
 have hk:=hK.out (.agg (nmc (cG (a:Int) sq L))) _ (he5) (rfl)
 try simp only [aR] at hk
 exact hk):p:=h
theorem CF (h:p:=by
 intro g W2 h2
 exact zzK (hK.out (.slice (some ⟨g,0,none⟩) 2 2) _ (h2.out.2) (⟨g,rfl,h2.out.1⟩))):p:=h
theorem CE (h:p:=by
 rintro e w5 ⟨j,rfl,hj,hins,he5⟩
 exact zzK (hK.out (.int .i64 (j:Int)) _ (he5) (⟨j,rfl,hj,hins⟩))):p:=h
theorem CD (h:p:=by
 rintro e w5 ⟨A9,n9,c9,rfl,hs9,he5⟩
 exact zzK (hK.out (.slice A9 n9 c9) _ (he5) (⟨A9,n9,c9,rfl,hs9⟩))):p:=h
theorem CC (h:p:=by
 refine zzp fun W hE hS K hK => ?_
 go_simp
 go_at_call 49
 refine zcl (HVAL.out _ hS.2.2.2) fun w5 he5=>?_
 exact zzK (hK.out (.int .i64 0) _ (he5) (rfl))):p:=h
theorem CB (h:p:=by
 refine zt 6 aA ?_
 refine wpd ?_
 have HX9:=zh aA.2.2.2
 have a1:=aA.1.cell 13
 have a2:=aA.2.2.1.cell 18
 clear aA hE hS
 go_wp2_with fail
 go_ret
 exact ⟨bm,HX9.out⟩):p:=h
theorem CA (h:p:=by
 go_wp2_with fail
 go_ret
 exact ⟨av,Ext.refl w⟩):p:=h
theorem Cz (h:p:=by
 rw [← had]
 split
 ·rfl
 rw [Option.map_some,Addr.add_mid,Nat.zero_add]):p:=h
theorem Cy (h:p:=by
 go_wp2_with fail
 go_ret
 exact ⟨by rw [HSP.out];simp [h5,i5],H10.out.low⟩):p:=h
theorem Cx (h:p:=by
 rcases Nat.lt_or_ge j q with h | h
 ·exact HP.out j h
 obtain rfl:j=q:=aa
 exact hx):p:=h
theorem Cw (h:p:=by
 obtain ⟨q0,q1,q2,q3,q4⟩:=aE (HS6.out.blk.ext hE)
 go_simp
 exact zzF hK (.agg (ssA s))):p:=h
theorem Cv (h:p:=by
 clear hk hvx hvo hz
 go_enter func26,ntmps26
 go_wp2_with fail
 go_ret
 exact ⟨bm,HX.out⟩):p:=h
theorem Cu (h:p:=by
 obtain ⟨g',hgg,_,hra⟩:=cM h aa
 obtain rfl:g=g':=ck
 have:=hra k v hv;rwa [Nat.zero_add] at this):p:=h
theorem Ct (h:p:=by exact CG):p:=h
theorem Cs (h:p:=by
 rintro e w5 ⟨A5,n5,c5,rfl,hs5,he5⟩
 exact zzK (hK.out (.slice A5 n5 c5) _ (he5) (⟨A5,n5,c5,rfl,hs5⟩))):p:=h
theorem Cr (h:p:=by exact zzK (hK.out (.slice (some ⟨W6.heap.size,0,none⟩) 1 1) _ ((Ext.refl _).alloc' _) (⟨_,rfl,Blk.new _ _ _,hE.size⟩))):p:=h
theorem Cq (h:p:=by
 refine zzp fun W hE hS K hK => ?_
 go_simp
 go_at_call 79
 refine zcl (fF ac _) fun w5 he5=>?_
 exact zzK (hK.out (.agg (ceA (aV ac))) _ (he5) (rfl))):p:=h
theorem Cp (h:p:=by
 refine zzp fun W hE hS K hK => ?_
 go_simp
 go_at_call 21
 refine zcl (dC R.tO _) fun w5 he5=>?_
 exact zzK (hK.out (.agg (ceA (aV R.tO))) _ (he5) (rfl))):p:=h
theorem Co (h:p:=by
 refine zzp fun W hE hS K hK => ?_
 go_simp
 go_at_call 126
 refine zcl (HSUM.out _ hS.2.2.2) fun w5 he5=>?_
 exact zzK (hK.out (.agg (nmc (cL R.pre))) _ (he5) (rfl))):p:=h
theorem Cn (h:p:=by
 refine zm [] (fun env W hE hS hD K hK=>?_)
 clear hD
 try simp only [aR]
 go_simp
 go_at_call 31
 refine zcl (fV (a:Int) sq A n c L _ (HS.out.ext hS.2.2.2)) fun w5 he5=>?_
 exact CG):p:=h
theorem Cm (h:p:=by
 have:=ho10
 rw [← bL,List.append_assoc] at this
 exact bA this HS8.out.low.size):p:=h
theorem Cl (h:p:=by
 have hk:=hK.out (.agg (ceA cA)) _ (he5) (rfl)
 try simp only [aR] at hk
 exact hk):p:=h
theorem Ck (h:p:=by
 refine wpd ?_
 have HX:=zh aA.2
 clear aA
 go_wp2_with fail
 go_ret
 exact ⟨bg,HX.out⟩):p:=h
theorem Cj (h:p:=by
 have HX:=zh (HE.out.trans he1)
 clear he1
 go_wp2_with fail
 go_ret
 exact ⟨bg,HX.out⟩):p:=h
theorem Ci (h:p:=by
 go_wp2_with fail
 go_roundw
 case rel=>exact ⟨k+1,_,ar,hlt,HSTEP,HLOW⟩
 case measure=>simp [intOf];omega):p:=h
theorem Ch (h:p:=by
 go_simp
 go_at_call 55
 refine zcl (rY _) fun w5 he5=>?_
 exact zzK (hK.out (.agg (ceA cA)) _ (he5) (rfl))):p:=h
theorem Cg (h:p:=by
 have h:=rU x.s.G R.va.toNat V HS.out.g aa
 rw [show ((R.va.toNat:Nat):Int)=R.va by omega] at h
 rwa [← hmg]):p:=h
theorem Cf (h:p:=by rw [Array.toList_append,Array.toList_append,List.take_append_of_le_length gk,List.take_of_length_le gk,hjs]):p:=h
theorem Ce (h:p:=by
 rintro e w5 ⟨s2,rfl,ho2,hv2,he5⟩
 exact zzK (hK.out (.agg (ssA s2)) _ (he5) (⟨s2,rfl,bO ho2 hS.2.2.2.2.size,hv2⟩))):p:=h
theorem Cd (h:p:=by
 refine zzp fun W hE hS K hK => ?_
 exact Cw):p:=h
theorem Cc (h:p:=by
 refine zcl HFU.out fun w7 he7=>?_
 have HX7:=zh (HX5.out.trans he7)
 clear he7
 go_wp2_with fail
 go_ret
 exact ⟨bm,HX7.out⟩):p:=h
theorem Cb (h:p:=by
 refine zzp fun W6 hE hS K hK => ?_
 obtain ⟨q0,q1,q2,q3,q4⟩:=aE (HA6.out.blk.ext hE)
 go_simp
 exact zzF hK (.slice s1.A4 s1.n4 s1.c4)):p:=h
theorem Ca (h:p:=by
 refine zzp fun W6 hE hS K hK => ?_
 obtain ⟨q0,q1,q2,q3,q4⟩:=aE (HA6.out.blk.ext hE)
 go_simp
 exact zzF hK (.slice s1.A3 s1.n3 s1.c3)):p:=h
theorem B9 (h:p:=by
 rw [← hd]
 obtain ⟨b9,o9,e2,hr2,-⟩:=(HS.out.ext e).at aa
 injection e2 with e3
 injection e3 with e4 e5
 subst e4
 subst e5
 exact cN (k:=k) hr2 o5):p:=h
theorem B8 (h:p:=by
 rintro e w5 ⟨s2,rfl,ho2,hv2,he5⟩
 have hk:=hK.out (.agg (ssA s2)) _ (he5) (⟨s2,rfl,bO ho2 hS.2.2.2.2.size,hv2⟩)
 try simp only [aR] at hk
 exact hk):p:=h
theorem B7 (h:p:=by
 refine zzp fun W hE hS K hK => ?_
 go_simp
 go_at_call 79
 refine zcl (fF R.tO _) fun w5 he5=>?_
 exact zzK (hK.out (.agg (ceA (aV R.tO))) _ (he5) (rfl))):p:=h
theorem B6 (h:p:=by
 refine zzp fun W hE hS K hK => ?_
 go_simp
 go_at_call 21
 refine zcl (dC (a:Int) _) fun w5 he5=>?_
 exact zzK (hK.out (.agg (ceA (aV (a:Int)))) _ (he5) (rfl))):p:=h
theorem B5 (h:p:=by
 generalize lE l q=z at *
 clear hx HN HQ
 go_wp2_with fail
 refine (HA.out _).mono ?_
 rintro e wv ⟨rfl,rfl⟩
 go_wp2_with fail
 go_ret
 exact ⟨by rw [HXX.out];rfl,HE.out.trans HX.out⟩):p:=h
theorem BZ (h:p:=by
 go_wp2_with fail
 go_roundw
 case rel=>exact ⟨k+1,ar,hlt,zh (fun j hj=>by
  rcases (by omega:j < k ∨ j=k) with hj | rfl
  ·exact HPJ.out j hj
  exact HPN.out),HX8⟩
 case measure=>simp [intOf];omega):p:=h
theorem BY (h:p:=by
 rw [← hd]
 obtain ⟨b2,e2,-,hr2⟩:=cM (bC HS7.out.own.o3 e) (show 0 < s1.n3 by omega)
 rw [HAB.out] at e2
 injection e2 with e3
 injection e3 with e4
 subst e4
 have h1:=cN (k:=k) hr2 ma
 rw [Nat.zero_add] at h1
 exact aQ (k:=8) h1):p:=h
theorem BX (h:p:=by
 go_simp
 go_at_call 28
 refine (mK s A8 n8 c8 (cP (a:Int) sq L k) _ (HAW.out.st.own.ok.ext hE) hs8 ⟨o8,fs⟩).mono ?_
 rintro e w5 ⟨s2,rfl,ho2,hv2,he5⟩
 have hk:=hK.out (.agg (ssA s2)) _ (he5) (⟨s2,rfl,bO ho2 (Nat.le_trans HAW.out.st.low.size hE.size),hv2⟩)
 try simp only [aR] at hk
 exact hk):p:=h
theorem BV (h:p:=by
 rcases h.rd with h | ⟨b,o,h,_⟩
 ·exact sI h
 cases h):p:=h
theorem BU (h:p:=by
 have HX1:=zh (HW.out.trans he1)
 clear he1
 go_wp2_with fail
 go_ret
 exact ⟨bg,HX1.out⟩):p:=h
theorem BT (h:p:=by exact Cu):p:=h
theorem BS (h:p:=by exact CR):p:=h
theorem BR (h:p:=by
 refine zzr [21,22] ?_
 exact Ck):p:=h
theorem BQ (h:p:=by
 have hs2:Hid (d=eK i n):=zh qv
 have h2':¬ (1:Int) < (n':Int):=aa
 go_wp2_with fail
 go_ret
 exact ⟨mt,rfl⟩):p:=h
theorem BP (h:p:=by
 unfold vdC vdV
 cases hv:eS (cZ (l.take 23)) with
 | true=>exact .inl ⟨rfl,rfl,hv⟩
 | false=>exact .inr rfl):p:=h
theorem BO (h:p:=by
 clear hsk
 go_wp2_with fail
 go_roundw
 case rel=>exact ⟨k+1,s,ar,hlt2,HF⟩
 case measure=>simp [intOf];omega):p:=h
theorem BN (h:p:=by rw [aJ,List.length_drop,HLEN.out,show RowT.sz LkR=19 from rfl,← Nat.add_mul];exact Nat.mul_le_mul_right _ aa):p:=h
theorem BM (h:p:=by rw [aJ,List.length_drop,HLEN.out,show RowT.sz DeR=11 from rfl,← Nat.add_mul];exact Nat.mul_le_mul_right _ aa):p:=h
theorem BK (h:p:=by rw [aJ,List.length_drop,HLEN.out,show RowT.sz UInt64=8 from rfl,← Nat.add_mul];exact Nat.mul_le_mul_right _ aa):p:=h
theorem BJ (h:p:=by
 obtain ⟨g2,g3,q0,q1,q2,q3,q4,t0,p0,p1,p2,p3,p4,p7,p8⟩:=H9.out.f HK.out
 go_wp2_with fail
 go_ret
 exact ⟨jt,H9.out.low⟩):p:=h
theorem BI (h:p:=by
 rw [← h2.out]
 exact ⟨StB.start HO1.out HB1.out HX1.out (Nat.le_refl _),HD1.out.grown (aB _ _ _ _) (fun e=>dq),HV1.out⟩):p:=h
theorem BH (h:p:=by
 go_simp
 go_at_call 47
 refine zcl (nG (k:Int) _) fun w5 he5=>?_
 exact zzK (hK.out (.agg (ceA (bY (k:Int)))) _ (he5) (rfl))):p:=h
theorem BG (h:p:=by
 have i1:¬ (k:Int) < (n:Int):=aa
 have HQ:=zh (HR.out.none (fun j hj=>HN.out j o7))
 go_wp2_with fail
 go_ret
 exact ⟨kv,HE.out⟩):p:=h
theorem BF (h:p:=by exact bodyPost_ret (v:=.agg (nmc 0)) (eQ rfl _ _ (w.heap.size+1) 0 rfl bz) rfl ⟨eu,Below.setCells' (HE.out.trans he1) aa _ _⟩):p:=h
theorem BE (h:p:=by
 intro j v hv
 have hy:=aQ (k:=m) (bG (k:=k) (HR.out W (HE.out.trans hW)))
 rw [Addr.add_mid]
 refine hy j v ?_
 rw [← hv]
 simp [bcs]):p:=h
theorem BD (h:p:=by
 have h1:=HO1.out.l3
 have h2:=HO1.out.l4
 have h3:=HS0.out.s3.len
 have h4:=HS0.out.s4.len
 have h5:=HN.out
 rw [v3] at h1;rw [v4] at h2
 omega):p:=h
theorem BC (h:p:=by
 rw [← hd2]
 obtain ⟨b9,o9,e2,hr2,-⟩:=(HM.out.ext e).at aa
 injection e2 with e3
 injection e3 with e4 e5
 subst e4
 subst e5
 exact cN (k:=k) hr2 o6):p:=h
theorem BB (h:p:=by
 refine zzp fun W hE hS K hK => ?_
 go_simp
 go_at_call 80
 refine zcl (nJ R.lk _) fun w5 he5=>?_
 exact zzK (hK.out (.agg (ceA (bZ R.lk))) _ (he5) (rfl))):p:=h
theorem BA (h:p:=by
 have HSP := zh (show dG x.m2 x.m1 x.ht cL ev x.ac R x.s.V = 1 from m6)
 exact Cv):p:=h
theorem Bz (h:p:=by
 refine wpd ?_
 have HSL:=zh hs9
 have HXX:=zh (HEX.out.trans ((Ext.refl _).drew'.trans hE))
 clear hs9 hE hS aA
 go_wp2_with fail
 go_ret
 exact ⟨A9,n9,c9,rfl,fy,HXX.out⟩):p:=h
theorem By (h:p:=by exact bodyPost_ret (v:=.agg (ssA s2)) (fP rfl _ _ (w.heap.size+2) _ rfl (run_loadVar_row _ _ _ _ _ (0,0) _ hst underlying30 rfl ab)) rfl ⟨s2,rfl,HOW2.out,my,HXE.out⟩):p:=h
theorem Bx (h:p:=by exact bodyPost_ret (v:=.agg (ssA s2)) (fP rfl _ _ (w.heap.size+2) _ rfl (run_loadVar_row _ _ _ _ _ (0,0) _ hst underlying30 rfl ab)) rfl ⟨s2,rfl,HOW2.out,ri,HXE.out⟩):p:=h
theorem Bw (h:p:=by
 by_cases h0:op < 0
 ·exact .inl h0
 by_cases h1:(n:Int)≤op
 ·exact .inr (.inl ⟨decide_eq_false h0,h1⟩)
 refine .inr (.inr ⟨op.toNat,aa,aa,fun h2=>hall ⟨hv,aa,ku,h2⟩⟩)):p:=h
theorem Bv (h:p:=by
 have h2:=List.length_filter_eq_length_iff.1 e
 have:(J.filter fun p=>!l.getD p.1 true)=[]:=List.filter_eq_nil_iff.2 (fun p hp=>by simp [h2 p hp])
 rw [this] at hm;cases hm):p:=h
theorem Bu (h:p:=by
 generalize lE l q=z at hid HA
 clear hx HN HQ
 go_wp2_with fail
 refine (HA.out _).mono ?_
 rintro e wv ⟨rfl,rfl⟩
 go_wp2_with fail
 go_roundw
 case rel=>exact ⟨q+1,aa,ar,HXX,HX.out⟩
 case measure=>simp [intOf];omega):p:=h
theorem Bt (h:p:=by
 refine wpd ?_
 have HX8:=zh aA.2.2
 exact BZ):p:=h
theorem Bs (h:p:=by
 refine zm [] (fun env W hE hS hD K hK=>?_)
 clear hD
 try simp only [aR]
 have q9:W.cell? ⟨w.heap.size,0,none⟩=some (.slice (some ⟨bb,0,none⟩) s2.n1 s2.c1):=pi
 go_simp
 have hk:=hK.out (.slice (some ⟨bb,0,none⟩) s2.n1 s2.c1) _ (Ext.refl _) (rfl)
 try simp only [aR] at hk
 exact hk):p:=h
theorem Br (h:p:=by
 refine zm [] (fun env W5 hE hS hD K hK=>?_)
 clear hD
 try simp only [aR]
 have t0:=(HAW.out.tx.ext hE).cell 0
 have t1:=(HAW.out.tx.ext hE).cell 1
 have t2:=(HAW.out.tx.ext hE).cell 2
 go_simp
 have hk:=hK.out (.agg (txA (a:Int) sq A n c)) _ (Ext.refl _) (rfl)
 try simp only [aR] at hk
 exact hk):p:=h
theorem Bq (h:p:=by
 refine wpd ?_
 have HF:=zh (show W5.ownsRow w.heap.size 92 11 (.slice A5 (m+2) c5) (m+2) (gcs (jD (a:Int) sq L (k+1))) from fu)
 have HBF:=zh aA.1
 have HXF:=zh aA.2.2
 clear aA hE hS ho5 hg5 ho3 hs8 hb8
 go_wp2_with fail
 go_roundw
 case rel=>exact ⟨k+1,A5,m+2,c5,rfl,ar,hlt,dz,HF,HBF,HXF⟩
 case measure=>simp [intOf];omega):p:=h
theorem Bp (h:p:=by
 clear hk
 obtain ⟨q0,q1,q2,q3,q4⟩:=aE HB7.out
 go_wp2_with (first | ((with_reducible refine aH rfl (.tmp 6) (.tmp 50) rfl (w.heap.size+2) s1 rfl rfl HZ7.out ?_);intro W9 h9))
 have hst:Blk W9 (w.heap.size+2) 30 (ssA s1):=po
 have HOW2:=zh (show OwnS W9 w.heap.size s1 from by
  rw [← h9.out]
  exact HOW.out.kept (aB _ _ _ _) HZ7.out ae ae ae ae)
 have HXE:=zh (show Ext w W9 from eo)
 clear h9
 exact bodyPost_ret (v:=.agg (ssA s1)) (fP rfl _ _ (w.heap.size+2) _ rfl (run_loadVar_row _ _ _ _ _ (0,0) _ hst underlying30 rfl ab)) rfl ⟨s1,rfl,HOW2.out,sc,HXE.out⟩):p:=h
theorem Bn (h:p:=by
 have q7:=E7.out
 have q8:=E8.out
 rw [dN] at q7 q8
 have HE:=zh ((Ext.refl w).alloc' (.cells (opA R) 52))
 have hc:=jK b1 b2 b3 b4 b5 b6 b7 b8
 clear hR h e1 e2 e3 e4 e5 e6 E7 E8
 rcases hc with rfl | ⟨rfl,rfl⟩ | ⟨rfl,rfl,rfl⟩ | ⟨rfl,rfl,rfl,rfl⟩ | ⟨rfl,rfl,rfl,rfl,rfl⟩ | ⟨rfl,rfl,rfl,rfl,rfl,rfl⟩ | ⟨rfl,rfl,rfl,rfl,rfl,rfl,rfl⟩ | ⟨rfl,rfl,rfl,rfl,rfl,rfl,rfl,rfl⟩ | ⟨rfl,rfl,rfl,rfl,rfl,rfl,rfl,rfl⟩
 all_goals first
  | (exfalso;first | exact absurd e7 ae | exact absurd e8 ae)
  | (
   clear e7 e8
   go_enter func113,ntmps113
   simp only [iM,kC]
   go_wp2_with (first | (go_at_call 168;(with_reducible refine (HU.out _).mono ?_);rintro e wv ⟨rfl,rfl⟩) | (go_at_call 169;(first | (with_reducible refine (H1.out _).mono ?_) | (with_reducible refine (H2.out _).mono ?_) | (with_reducible refine (H3.out _).mono ?_) | (with_reducible refine (H4.out _).mono ?_) | (with_reducible refine (H5.out _).mono ?_) | (with_reducible refine (H6.out _).mono ?_));rintro e wv ⟨rfl,rfl⟩))
   go_ret
   exact ⟨bg,HE.out⟩)):p:=h
theorem Bm (h:p:=by
 clear he9
 go_wp2_with fail
 go_ret
 exact ⟨rfl,HX9.out⟩):p:=h
theorem Bk (h:p:=by
 have h1:=tN L x (i:=i) kx js HJ.out
 rw [← h1];exact hO3):p:=h
theorem Bj (h:p:=by
 go_wp2_with fail
 go_ret
 exact ⟨⟨true,rfl,fun h=>ls⟩,HE.out⟩):p:=h
theorem Bi (h:p:=by rw [← e1,← e2,← e3,← e4,← e5,← e6,← e7,← e8];unfold vOp;rw [h];rfl):p:=h
theorem Bh (h:p:=by
 go_wp2_with fail
 go_ret
 exact ⟨_,_,rfl,World.ownsRow_nil _ _ _ _,Ext.refl _⟩):p:=h
theorem Bg (h:p:=by
 rcases Nat.lt_or_ge j k with h | h
 ·exact HP.out j h
 obtain rfl:j=k:=aa
 exact hx):p:=h
theorem Bf (h:p:=by
 injection e2 with e3
 injection e3 with e4 e5
 subst e4
 subst e5
 exact cN (k:=k) hr2 ak):p:=h
theorem Be (h:p:=by
 refine wpd ?_
 have HX:=zh (HE.out.trans hE)
 go_wp2_with fail
 go_ret
 exact ⟨rfl,HX.out⟩):p:=h
theorem Bd (h:p:=by unfold gS;rw [if_pos rfl,decide_eq_true (show l.length=186 by omega),decide_eq_true hlf];rfl):p:=h
theorem Bc (h:p:=by exact CH):p:=h
theorem Bb (h:p:=by
 intro A5 W5 h5
 exact zzK (hK.out (.slice A5 0 0) _ (h5.out.2) (⟨A5,rfl,bA h5.out.1 hS.2.2.size⟩))):p:=h
theorem Ba (h:p:=by
 go_wp2_with fail
 go_roundw
 case rel=>exact ⟨k+1,A1,c1,aa,ar,ar,ln,hw3⟩
 case measure=>simp [intOf];omega):p:=h
theorem AZ (h:p:=by
 obtain rfl:j=0:=aa
 have i1:((0:Nat):Int) - 1 < 0:=aa
 go_wp2_with fail
 go_ret
 exact ⟨A2,c2,dr,kq,HE.out⟩):p:=h
theorem AY (h:p:=by
 obtain ⟨g2,g3,q0,q1,q2,q3,q4,t0,p0,p1,p2,p3,p4,p7,p8⟩:=H0.out.f HK.out
 go_wp2_with fail
 go_ret
 exact ⟨jt,H0.out.low⟩):p:=h
theorem AX (h:p:=by
 rw [Addr.add_mid,Nat.zero_add]
 refine hsrc0 j v ?_
 rw [← iV,List.getElem?_take] at hj
 split at hj
 ·exact hj
 cases hj):p:=h
theorem AW (h:p:=by
 refine zzp fun W5 hE hS K hK => ?_
 obtain ⟨q0,q1,q2,q3,q4⟩:=aE (HAW.out.st.blk.ext hE)
 go_simp
 exact zzF hK (.agg (ssA s))):p:=h
theorem AV (h:p:=by
 go_wp2_with (go_at_call 86;(with_reducible refine (HW.out _ _ _ _).mono ?_);rintro e wv ⟨rfl,rfl⟩)
 go_ret
 exact ⟨dc,HE.out⟩):p:=h
theorem AU (h:p:=by
 have:=HM.out
 by_cases hlt:i < spl n
 ·rw [gX i n hn2 hlt] at this;exact ⟨_,this⟩
 rw [fO i n hn2 hlt] at this;exact ⟨_,this⟩):p:=h
theorem AS (h:p:=by
 refine zcl HC.out fun w3 he3=>?_
 have HE2:=zh (HE.out.trans he3)
 clear HC HVX he3 hr HS2 HE3
 go_wp2_with fail
 go_ret
 exact ⟨kv,HE2.out⟩):p:=h
theorem AR (h:p:=by
 rintro e w5 ⟨s2,rfl,ho2,hv2,he5⟩
 exact zzK (hK.out (.agg (ssA s2)) _ (he5) (⟨s2,rfl,bO ho2 (Nat.le_trans HS6.out.low.size hE.size),hv2⟩))):p:=h
theorem AQ (h:p:=by
 refine zzp fun W6 hE hS K hK => ?_
 refine iP nmP (.tmp 3) rfl (w.heap.size+1) 0 rfl d _ rfl (bS (HX6.out.ext hE)) ?_
 exact zzF hK (.agg (nmc d))):p:=h
theorem AP (h:p:=by
 refine zzp fun W6 hE hS K hK => ?_
 refine iP lkP (.tmp 3) rfl (w.heap.size+1) 0 rfl d _ rfl (aC (HX6.out.ext hE)) ?_
 exact zzF hK (.agg (lkA d))):p:=h
theorem AO (h:p:=by
 have S3:=zh (S2.out.call hO3 he3)
 clear hO3 he3 q2 S2
 go_wp2_with fail
 go_ret
 refine ⟨A3,_,c3,rfl,?_,S3.out.low⟩
 rw [HEN.out];simpa using S3.out.own):p:=h
theorem AN (h:p:=by
 rw [← hW8.out]
 refine OwnS.kept ?_ (aB _ _ _ _) HQ9.out ae ae ae ae
 rw [← h9.out]
 exact (HO5.out.kept (aB _ _ _ _) HR7.out ae ae ae ae).mono HSZ.out):p:=h
theorem AM (h:p:=by
 intro A1 c1 w1 ho1 hw1 hs1
 go_wp2_with fail
 go_roundw
 case rel=>exact ⟨k+1,A1,c1,aa,ar,ar,by rw [HF.out];exact ho1,hw1,aa⟩
 case measure=>simp [intOf];omega):p:=h
theorem AL (h:p:=by exact bodyPost_ret (fP rfl _ _ w.heap.size _ rfl (run_loadVar_row _ _ _ _ _ (0,0) _ hst underlying61 rfl ab)) rfl ⟨rfl,Below.setCells' HX.out (Nat.le_refl _) _ _⟩):p:=h
theorem AK (h:p:=by
 obtain ⟨b2,o2,e2,hr2,-⟩:=(HP.out.ext e).at (show 0 < m by omega)
 rw [hab] at e2
 injection e2 with e3
 injection e3 with e4 e5
 subst e4
 subst e5
 exact cN (k:=i) hr2 gh):p:=h
theorem AJ (h:p:=by
 go_wp2_with fail
 refine zcl HI.out fun w5 he5=>?_
 have HX:=zh (HE.out.trans he5)
 clear he5 HI HF hW
 go_wp2_with fail
 go_ret
 exact ⟨n,rfl,Nat.le_refl _,HR.out,HX.out⟩):p:=h
theorem AI (h:p:=by
 refine hK.out _ _ bj (fun aA=>?_)
 clear hK K
 try simp only [bB]
 refine zzr [11,12] ?_
 refine wpd ?_
 have HX:=zh aA.2.2
 clear aA
 go_wp2_with fail
 go_ret
 exact ⟨bg,HX.out⟩):p:=h
theorem AH (h:p:=by
 go_roundw
 case rel=>exact ⟨k+1,aa,ar,by rw [HS.out];exact aJC hB3 _,hZ3.setCells_far aa _ _,Below.setCells' (Ext.trans hE hE3) (Nat.le_refl _) _ _⟩
 case measure=>simp [intOf];omega):p:=h
theorem AG (h:p:=by
 obtain rfl:n=k:=aa
 have i1:¬ (n:Int) < (n:Int):=aa
 have HF:=zh (show decide (L=M)=true from decide_eq_true (sN oh (fun j hj=>HN.out j nn)))
 go_wp2_with fail
 go_ret
 exact ⟨av,HXW.out⟩):p:=h
theorem AF (h:p:=by
 go_round
 case rel=>first | exact ⟨i',k,d+1,rfl,rfl,ar,hlt,aa,hs2⟩ | (refine ⟨trivial,?_⟩;(repeat apply Exists.intro);exact ⟨⟨i',k,d+1,rfl,rfl,ar,hlt,aa,hs2⟩,rfl⟩)
 case measure=>simp [intOf];omega):p:=h
theorem AE (h:p:=by
 go_wp2_with fail
 go_roundw
 case rel=>exact ⟨k+1,ar,hlt,zh (fun j hj=>by
  rcases (by omega:j < k ∨ j=k) with hj | rfl
  ·exact HN.out j hj
  have h9:=HDK.out
  simpa using h9),HXN⟩
 case measure=>simp [intOf];omega):p:=h
theorem AD (h:p:=by
 clear HS
 go_enter func34,ntmps34
 go_wp2_with (go_at_call 86;(first | (with_reducible refine (HW0.out _).mono ?_) | (with_reducible refine (HW1.out _).mono ?_) | fail "W");rintro e wv ⟨rfl,rfl⟩)
 go_ret
 exact ⟨av,HE.out⟩):p:=h
theorem AC (h:p:=by
 refine zm [] (fun env W6 hE hS hD K hK=>?_)
 clear hD
 try simp only [aR]
 refine iP deP (.tmp 6) rfl X 0 rfl d _ rfl (aC (HX6.out.ext hE)) ?_
 have hk:=hK.out (.agg (deA d)) _ (Ext.refl _) (rfl)
 try simp only [aR] at hk
 exact hk):p:=h
theorem AB (h:p:=by
 rw [HC.out.1,HC.out.2]
 exact bodyPost_ret (v:=.tuple #[.agg (vtA mE),.int .i64 11]) (gO rfl _ _ w.heap.size _ _ rfl rfl (run_loadVar_row _ _ _ _ _ (0,0) _ hst underlying124 rfl ab)) rfl ⟨rfl,Below.setCells' HX.out (Nat.le_refl _) _ _⟩):p:=h
theorem AA (h:p:=by
 have hj:=(List.getElem?_eq_some_iff.1 hu).1
 rw [hdl] at hj
 by_cases hc:c=i+1
 ·have : n - (i + 1) = 0 := aa
  rw [this] at hj;omega
 rw [← had,if_neg hc,Addr.add_mid]
 show w.cell? _=_
 refine hsrc0 _ u ?_
 rw [← fB,List.getElem?_drop] at hu
 exact hu):p:=h
theorem Az (h:p:=by exact bodyPost_ret (v:=.tuple #[.agg (sgA eM),.int .i64 11]) (gO rfl _ _ w.heap.size _ _ rfl rfl (run_loadVar_row _ _ _ _ _ (0,0) _ hst underlying126 rfl ab)) rfl ⟨eM,ia,mF _,Below.setCells' HX2.out (Nat.le_refl _) _ _,fun h=>ei,fun _=>rfl,OwnB.nil _ _ _⟩):p:=h
theorem Ay (h:p:=by
 intro env l a w h hm
 have hf:∀ p ∈ J,l.getD p.1 true=true:=fun p hp=>by
  have:=List.length_eq_zero_iff.1 hm
  rw [List.filter_eq_nil_iff] at this
  simpa using this p hp
 obtain ⟨rfl,rfl⟩:=h.full hB hf
 exact hE env w h.ext h.s (fun p hp=>h.val p hp (hf p hp))):p:=h
theorem Ax (h:p:=by
 obtain ⟨hqJ,t,ht,e⟩:=m2 q hq
 obtain ⟨_,ed,hed,hb,heq⟩:=m1 t ht q hqJ e
 have h1:=hall ed hed hb
 rw [heq] at h1
 have hl:q.1 < l.size:=by rw [h.lsz];exact (b1 q hqJ).1
 simp only [Array.getD_eq_getD_getElem?] at h1 ⊢
 rw [Array.getElem?_eq_getElem hl] at h1 ⊢
 exact h1):p:=h
theorem Aw (h:p:=by
 have hb:=HB2.out.ext (HX2.out.trans he3)
 have hst:=bF hb (dY 80 (nT ac sq L))
 go_wp2_with fail
 exact bodyPost_ret (v:=.agg (nmc (dY 80 (nT ac sq L)))) (eQ rfl _ _ (w.heap.size+1) _ rfl (blkN hb _)) rfl ⟨eu,Below.setCells' (HE.out.trans (HX2.out.trans he3)) aa _ _⟩):p:=h
theorem Av (h:p:=by
 have hb:=HB2.out.ext he1
 have ht:=eC hb
 go_wp2_with (with_reducible refine bE rfl (.tmp 4) (.tmp 28) rfl (w.heap.size+1) 0 0 rfl rfl ht ?_)
 exact BF):p:=h
theorem Au (h:p:=by
 have hb:=HB2.out.ext he1
 have ht:=eC hb
 go_wp2_with (with_reducible refine bE rfl (.tmp 4) (.tmp 29) rfl (w.heap.size+1) 0 0 rfl rfl ht ?_)
 exact BF):p:=h
theorem At (h:p:=by
 clear hk hvx hvo hz
 go_enter func26,ntmps26
 go_wp2_with (first | (with_reducible refine aD iQ rfl (.tmp 2) rfl w.heap.size 0 rfl x vx HVX.out rx ?_) | fail "A")
 exact Cc):p:=h
theorem As (h:p:=by
 have HV := zh (aGh HPA.out HP.out hva)
 rw [decide_eq_true hva] at hq hqi
 rw [Bool.not_true] at hq
 clear hva
 go_wp2_with (first | (with_reducible refine aM rfl (.tmp 58) rfl w.heap.size 14 rfl a.va p1 ?_) | (with_reducible refine aM rfl (.tmp 60) rfl (w.heap.size+1) 14 rfl b.va p2 ?_))
 go_ret
 exact ⟨bg,HW.out⟩):p:=h
theorem Ar (h:p:=by
 go_wp2_with (first | ((with_reducible refine aH rfl (.tmp 8) (.tmp 44) rfl (w.heap.size+3) s1 rfl rfl H2.out.r1 ?_);intro W9 h9;have HT9:=zh (H2.out.th h9)) | ((with_reducible refine bH rcP rfl (.tmp 9) (.tmp 45) rfl (w.heap.size+4) 0 rfl ⟨1,none,0,0,0,0⟩ _ rfl rfl HT9.out ?_);intro W8 hW8))
 exact rxE H2.out HZ.out ae h9 hW8):p:=h
theorem Aq (h:p:=by
 intro env W hE hS hV
 obtain ⟨h2,h5,h8,-⟩:=zzV hV
 clear hV
 simp only [aR,h2,h5]
 clear h2 h5
 generalize env 8=x8 at h8 ⊢
 obtain ⟨A9,n9,c9,rfl,hs9⟩:=h8
 have aA:=hS
 refine zt 9 aA ?_
 exact Bz):p:=h
theorem Ap (h:p:=by
 have e:s1.V=s0.V:=HV1.out
 have e1:s1.C=s0.C:=congrArg StV.C e
 have e2:s1.Q=s0.Q:=congrArg StV.Q e
 have e3:s1.K=s0.K:=congrArg StV.K e
 have e4:s1.P=s0.P:=congrArg StV.P e
 have e5:s1.G=s0.G:=congrArg StV.G e
 have h1:dW s1.P x=gW (fun y=>decide (un x < un y)) x s1.P:=HNO.out
 rw [gJ (fun y=>decide (un x < un y)) x s1.P k cp (fun j hj hl=>fa) (fun h9=>cj)] at h1
 rw [← h1,e1,e2,e3,e4,e5]):p:=h
theorem Ao (h:p:=by
 have hst:Blk W9 (w.heap.size+2) 30 (ssA s2):=cu
 have HOW:=zh (show OwnS W9 w.heap.size s2 from by
  rw [← h9.out]
  exact HF.out.own.kept (aB _ _ _ _) HFR.out ae ae ae ae)
 have HXE:=zh (show Ext w W9 from ea)
 clear h9
 exact bodyPost_ret (v:=.agg (ssA s2)) (fP rfl _ _ (w.heap.size+2) _ rfl (run_loadVar_row _ _ _ _ _ (0,0) _ hst underlying30 rfl ab)) rfl ⟨s2,rfl,HOW.out,HFV.out,HXE.out⟩):p:=h
theorem An (h:p:=by
 have e:s1.V=s0.V:=HV1.out
 have e1:s1.C=s0.C:=congrArg StV.C e
 have e2:s1.Q=s0.Q:=congrArg StV.Q e
 have e3:s1.K=s0.K:=congrArg StV.K e
 have e4:s1.P=s0.P:=congrArg StV.P e
 have e5:s1.G=s0.G:=congrArg StV.G e
 have h1:fL s1.K d=gW (fun y=>decide (un d.nm < un y.nm)) d s1.K:=HNO.out
 rw [gJ (fun y=>decide (un d.nm < un y.nm)) d s1.K k cp (fun j hj hl=>fa) (fun h9=>cj)] at h1
 rw [← h1,e1,e2,e3,e4,e5]):p:=h
theorem Am (h:p:=by
 have e:s1.V=s0.V:=HV1.out
 have e1:s1.C=s0.C:=congrArg StV.C e
 have e2:s1.Q=s0.Q:=congrArg StV.Q e
 have e3:s1.K=s0.K:=congrArg StV.K e
 have e4:s1.P=s0.P:=congrArg StV.P e
 have e5:s1.G=s0.G:=congrArg StV.G e
 have h1:eB s1.C c a=gW (fun y=>iU c y.c) ⟨c,a⟩ s1.C:=by
  unfold eB
  rw [HNO.out]
  simp only
  rw [kT (fU.1 HAW.out),if_neg HA0.out]
 rw [← e1,h1,gJ (fun y=>iU c y.c) ⟨c,a⟩ s1.C k cp (fun j hj hl=>fa) (fun h9=>cj),e2,e3,e4,e5]):p:=h
theorem Al (h:p:=by
 clear h8
 refine wp_region_held_drew (S:=fun V=>Blk V w.heap.size 25 (genC N Z B1 m1 d1 (some ⟨gb,go,none⟩) s.n2 d2 B3 m3 d3)∧Blk V (w.heap.size+1) 30 (ssA s)∧Blk V (w.heap.size+2) 36 (tA ⟨(a:Int),sq,A,n,c,S,m,d,L,sig⟩)∧Ext w V) ab (⟨HB8.out.drew,HC8.out.drew,HD8.out.drew,HX8.out.trans ((Ext.refl _).drew')⟩) (fun aA=>?_)
 refine zz0 [0,1,2,3,4,5,6,7,8,9] ?_;repeat first | refine zz1 ?_ (hy:=dd) | refine zz2 ?_ | refine zz9 ?_
 refine wpd ?_
 have HX9:=zh aA.2.2.2
 clear aA
 go_wp2_with fail
 go_ret
 exact ⟨ij,HX9.out⟩):p:=h
theorem Ak (h:p:=by
 refine hK.out _ _ (⟨aA.1.grown hg5 (aL ho3 aA.1 ae),aA.2.1.grown hg5 (aL ho3 aA.2.1 ae),Below.grown aA.2.2 hg5 aA.2.2.size (fun q hq=>(World.ownsRow.lt ho3 q hq).1)⟩) (fun aA=>?_)
 clear hK K
 try simp only [bB]
 refine zt 16 aA ?_
 exact Bq):p:=h
theorem Aj (h:p:=by
 refine hK.out _ _ (⟨aA.1.grown al (fun e=>dq),aA.2.1.grown al (fun e=>dq),aA.2.2.1.grown al (fun e=>fi),⟨_,h6.out.2⟩,ej⟩) (fun aA=>?_)
 clear hK K
 try simp only [bB]
 refine wpd ?_
 have HOW2:=zh (show OwnS W6 w.heap.size s2 from by
  rw [← h6.out.1]
  exact ho2.kept (aB _ _ _ _) hz6 ae ae ae ae)
 have HV2:=zh hv2
 have HXE:=zh aA.2.2.2.2
 have hst:=h6.out.2
 clear h6 ho2 hv2 hE hS aA hz6
 go_wp2_with fail
 exact By):p:=h
theorem Ai (h:p:=by
 clear hV
 try simp only [aR]
 generalize env 2=x2 at h2 ⊢
 generalize env 3=x3 at h3 ⊢
 subst h2
 obtain ⟨s5,rfl,ho5,hv5⟩:=h3
 have aA:=hS
 refine za 4 (fun K hK=>?_)
 (obtain ⟨z6,hz6⟩:=aA.2.2.1;refine bQ rfl (.tmp 4) (.tmp 58) dp (w.heap.size+2) (.agg (ssA s5)) s5 rfl dp dp hz6 ?_;intro W6 h6)
 refine hK.out _ _ (⟨aA.1.grown al (fun e=>dq),aA.2.1.grown al (fun e=>dq),⟨_,h6.out.2⟩,ny⟩) (fun aA=>?_)
 clear hK K
 try simp only [bB]
 refine wpd ?_
 have HOW:=zh (show OwnS W6 w.heap.size s5 from by
  rw [← h6.out.1]
  exact ho5.kept (aB _ _ _ _) hz6 ae ae ae ae)
 have HV5:=zh hv5
 have HXE:=zh aA.2.2.2
 have hst:=h6.out.2
 clear h6 ho5 hv5 hE hS aA hz6
 go_wp2_with fail
 exact bodyPost_ret (v:=.agg (ssA s5)) (fP rfl _ _ (w.heap.size+2) _ rfl (run_loadVar_row _ _ _ _ _ (0,0) _ hst underlying30 rfl ab)) rfl ⟨s5,rfl,HOW.out,rh,HXE.out⟩):p:=h
theorem Ag (h:p:=by
 rw [e8] at E8
 exact Bn):p:=h
theorem Af (h:p:=by
 have HK1:=zh (show covD s0.C (k+1)=covD s0.C k ++ [d.c] from ek)
 have rc:W4.rangeAt X 0 (RowT.enc d.c):=by
  have:=aQ (k:=10) (aC HD.out)
  exact this
 go_wp2_with (first | (with_reducible refine aD ceP rfl (.tmp 33) rfl X 0 rfl d.c vc HVC.out rc ?_) | ((with_reducible refine fG (vx:=vc) rfl (.tmp 34) rfl rfl (HBC.out _) ?_);intro g5 W5 h5;have HO5:=zh (bC HO4.out h5.out.2.1);have HZ5:=zh (Nat.le_trans HZ4.out h5.out.2.1.size);have HR5:=zh (Rd.of_blk h5.out.1)) | (at_builtin;go_must (refine bK ceE rfl (.tmp 32) (.tmp 35) rfl w.heap.size A n c _ rfl HO5.out _ 1 1 (RowT.enc d.c) rfl HR5.out HLC.out (RowT.one d.c) aa aa HZ5.out ?_;intro A6 c6 w6 ho6 hg6)))
 have HF:=zh (show CvA w w6 s0 (k+1) A6 (n+1) c6 from by
  have e5:Ext W4 W5:=h5.out.2.1
  refine ⟨(HB4.out.ext e5).grown hg6 (aL HO5.out (HB4.out.ext e5) ae),(HR4.out.ext e5).grown hg6 (aL HO5.out (HR4.out.ext e5) ae),?_,Below.grown (HX4.out.trans e5) hg6 (HX4.out.trans e5).size (fun k hk=>(World.ownsRow.lt HO5.out k hk).1)⟩
  rw [HK1.out,bL,gK]
  exact ho6)
 clear h5 ho6 hg6 HO5 HZ5 HR5 rc x0
 go_wp2_with fail
 go_roundw
 case rel=>exact ⟨k+1,A6,n+1,c6,rfl,ar,hlt,HF⟩
 case measure=>simp [intOf];omega):p:=h
theorem Ab (h:p:=by
 clear h0
 go_wp2_with fail
 go_ret
 exact ⟨av,rfl⟩):p:=h
theorem Aa (h:p:=by
 go_enter func146,ntmps146
 go_wp2
 go_ret
 exact ⟨rfl,rfl⟩):p:=h
theorem z8 (h:p:=by
 go_enter func182,ntmps182
 go_wp2
 go_ret
 exact ⟨rfl,rfl⟩):p:=h
theorem zz (h:p:=by
 go_enter func147,ntmps147
 go_wp2
 go_ret
 exact ⟨rfl,rfl⟩):p:=h
theorem zy (h:p:=by
 go_enter func183,ntmps183
 go_wp2
 go_ret
 exact ⟨rfl,rfl⟩):p:=h
theorem zx (h:p:=by exact Bj):p:=h
theorem zv (h:p:=by
 go_enter func86,ntmps86
 go_wp2_with fail
 go_ret
 exact ⟨bg,rfl⟩):p:=h
theorem zr (h:p:=by
 go_enter func169,ntmps169
 go_wp2_with fail
 go_ret
 exact ⟨bg,rfl⟩):p:=h
theorem zp (h:p:=by
 go_enter func121,ntmps121
 go_wp2_with fail
 go_ret
 exact ⟨rfl,rfl⟩):p:=h
theorem zo (h:p:=by exact hw0.grown h3 hbase (fun k hk=>(World.ownsRow.lt hown k hk).1)):p:=h
theorem zn (h:p:=by
 go_enter func119,ntmps119
 go_wp2_with fail
 go_ret
 exact ⟨dn,Ext.refl w⟩):p:=h
theorem zl (h:p:=by
 rw [← hl,List.take_length,List.drop_length]
 rw [← hl] at this
 exact this):p:=h
theorem zk (h:p:=by
 rw [e] at e';injection e' with e';injection e' with e1 _
 rw [e1];exact hlt):p:=h
theorem zj (h:p:=by
 clear hno
 go_enter func88,ntmps88
 go_wp2_with fail
 go_ret
 exact ⟨rfl,HE.out⟩):p:=h
theorem zi (h:p:=by
 go_enter func4,ntmps4
 exact Bj):p:=h
theorem zg (h:p:=by
 go_enter func5,ntmps5
 exact Bj):p:=h
theorem zf (h:p:=by
 rw [hf];clear hf
 go_enter func223,ntmps223
 go_wp2_with fail
 go_ret
 exact ⟨rfl,rfl⟩):p:=h
theorem ze (h:p:=by
 go_enter func108,ntmps108
 go_wp2_with fail
 go_ret2
 exact ⟨rfl,(Ext.refl w).alloc' _⟩):p:=h
theorem zd (h:p:=by exact Cw):p:=h
theorem zc (h:p:=by
 have HX:=zh (HE.out.trans he5)
 clear he5 r0 r1
 go_wp2_with fail
 go_ret
 exact ⟨rfl,HX.out⟩):p:=h
theorem zb (h:p:=by
 go_wp2_with fail
 go_round
 case rel=>exact ⟨k+1,aa,ar,lh⟩
 case measure=>simp [intOf];omega):p:=h
theorem y9 (h:p:=by
 clear h b2 h2
 go_enter func48,ntmps48
 go_wp2_with fail
 go_ret2
 exact SigOut.no _ _ HE0.out):p:=h
theorem y8 (h:p:=by
 go_wp2
 go_quiet (fail)
 go_wp2
 go_ret
 exact ⟨by rw [← HW.out];rfl,below_drewN (Ext.refl w) _⟩):p:=h
theorem y7 (h:p:=by
 go_wp2_with fail
 go_ret
 refine ⟨A5,_,c5,rfl,?_,S5.out.low⟩
 rw [HEN.out];simpa using S5.out.own):p:=h
theorem y6 (h:p:=by
 unfold nT
 rw [List.take_of_length_le (Nat.le_of_eq HLEN.out)] at this
 rw [HLEN.out]
 exact this):p:=h
theorem yz (h:p:=by
 intro A3 c3 w3 ho3 hw3 hs3
 go_wp2_with fail
 go_ret2
 rw [HD.out,HP.out,eG]
 exact ⟨A3,c3,rfl,ho3,hw3⟩):p:=h
theorem yy (h:p:=by unfold gS;rw [if_neg ae,if_pos rfl,decide_eq_true (show l.length=370 by omega),decide_eq_true hlf];rfl):p:=h
theorem yx (h:p:=by
 unfold Oper.wp execOp
 simp only [ho,Sem.run_bind,Sem.run_pure,this,Result.andThen_ok,Oper.upon]
 exact h2):p:=h
theorem yw (h:p:=by
 go_ret
 exact ⟨_,_,rfl,ql,Below.grown HX.out hg HX.out.size (fun k hk=>(World.ownsRow.lt HO0.out k hk).1)⟩):p:=h
theorem yv (h:p:=by
 intro R hR
 rcases List.mem_append.1 hR with hR | hR
 ·exact hok R hR
 rw [List.mem_singleton.1 hR];exact hyo):p:=h
theorem yu (h:p:=by
 obtain ⟨y,hy,hyo⟩:=hcell j hj
 refine ⟨y,fun q v hv=>?_,hyo⟩
 have:=hy q v hv
 rwa [Addr.add_mid,Addr.add_mid] at this):p:=h
theorem yt (h:p:=by
 go_enter func143,ntmps143
 go_wp2_with (go_at_call 201;refine (qO _ _).mono ?_;rintro e w' ⟨rfl,rfl⟩)
 go_ret
 exact ⟨dn,rfl⟩):p:=h
theorem yr (h:p:=by
 go_enter func118,ntmps118
 go_wp2_with (go_at_call 181;refine (qP _ _).mono ?_;rintro e w' ⟨rfl,rfl⟩)
 go_ret
 exact ⟨dn,rfl⟩):p:=h
theorem yq (h:p:=by
 clear HS
 go_enter func60,ntmps60
 go_wp2_with fail
 go_quiet (fail)
 go_wp2_with fail
 go_ret
 exact ⟨av,HE.out.trans (fN _ _)⟩):p:=h
theorem yp (h:p:=by
 unfold execOp
 simp only [ho,List.map_toArray,List.map_cons,List.map_nil,hx,hy,Sem.run_bind,hr,Result.andThen_ok,Sem.run_pure]):p:=h
theorem yo (h:p:=by
 go_wp2_with (go_at_call 86; (with_reducible refine (HW.out _ _ _ _).mono ?_); rintro e wv ⟨rfl, rfl⟩)
 go_ret
 exact ⟨dc,HE.out⟩):p:=h
theorem yn (h:p:=by
 go_enter func123,ntmps123
 go_wp2_with fail
 refine hu.out.mono ?_
 rintro e w1 ⟨rfl,rfl⟩
 go_wp2_with fail
 go_ret2
 exact ⟨rfl,rfl⟩):p:=h
theorem ym (h:p:=by
 refine zcl (HM.out _) fun w5 he5=>?_
 have HX:=zh (HE.out.trans he5)
 clear he5 c0 r0 r1
 go_wp2_with fail
 go_ret
 exact ⟨rq,HX.out⟩):p:=h
theorem yl (h:p:=by
 rintro e w' ⟨A',c',rfl,hO',hG,_⟩
 exact ⟨A',c',rfl,hO',Below.grown (Below.refl _ _) hG hb (fun k hk=>(World.ownsRow.lt hO k hk).1)⟩):p:=h
theorem yk (h:p:=by
 go_wp2_with (go_at_call 235; (with_reducible refine (HA.out _).mono ?_); rintro e wv ⟨rfl, rfl⟩)
 go_ret
 exact ⟨vF HV.out dv,HE.out⟩):p:=h
theorem yj (h:p:=by
 simp only [Bool.and_eq_true,Bool.or_eq_true,decide_eq_true_eq]
 exact ⟨fun ⟨⟨h1,h2⟩,⟨q,hs⟩,hr⟩=>⟨dw,q⟩,fun ⟨hn,q⟩=>⟨⟨dw,dw⟩,⟨q,dw⟩,dw⟩⟩):p:=h
theorem yi (h:p:=by
 have HG3:=zh (show w.grownBy w3 (some g) from Grown.trans HG2.out hg3)
 clear hO3 hg3
 go_ret
 exact ⟨some ⟨g,0,none⟩,c,rfl,HE.out,HG3.out⟩):p:=h
theorem yh (h:p:=by
 go_wp2_with (go_at_call 243; (with_reducible refine (HB.out _ _ _ _).mono ?_); rintro e wv ⟨rfl, rfl⟩)
 go_ret
 exact ⟨vF HV.out dv,HE.out⟩):p:=h
theorem yg (h:p:=by
 try simp only [bV,List.foldl_cons,List.foldl_nil,Act.put,List.setIfInBounds_toArray,List.set_cons_zero,List.set_cons_succ] at hk
 exact hk):p:=h
theorem yf (h:p:=by
 obtain rfl | rfl | rfl | rfl | rfl | rfl | rfl | rfl | rfl | rfl:k=0 ∨ k=1 ∨ k=2 ∨ k=3 ∨ k=4 ∨ k=5 ∨ k=6 ∨ k=7 ∨ k=8 ∨ k=9:=aa
 all_goals rfl):p:=h
theorem ye (h:p:=by
 simp only [Array.toList_append,List.append_assoc]
 rw [← List.append_assoc,show (n+m) * i.size=(xs ++ ys).length from fh]
 exact List.take_left):p:=h
theorem yd (h:p:=by
 go_wp2_with fail
 refine zcl HI.out fun w5 he5=>?_
 have HX:=zh (HE.out.trans he5)
 clear he5 c0 HI HF
 go_wp2_with fail
 go_ret
 exact ⟨rfl,HX.out⟩):p:=h
theorem yc (h:p:=by
 go_enter func87,ntmps87
 go_wp2_with (go_at_call 86;(with_reducible refine (HK.out _).mono ?_);rintro e wv ⟨rfl,rfl⟩)
 go_ret
 exact ⟨rfl,HE.out⟩):p:=h
theorem yb (h:p:=by
 obtain rfl | rfl | rfl | rfl | rfl | rfl | rfl | rfl | rfl | rfl:k=0 ∨ k=1 ∨ k=2 ∨ k=3 ∨ k=4 ∨ k=5 ∨ k=6 ∨ k=7 ∨ k=8 ∨ k=9:=aa
 all_goals omega):p:=h
theorem ya (h:p:=by
 clear h9 ho2 hv2 hE hS aA HS6 HG6 HR6
 go_wp2_with fail
 go_roundw
 case rel=>exact ⟨k+1,s2,ar,hlt,HF,HGF,HRF,HVF⟩
 case measure=>simp [intOf];omega):p:=h
theorem xz (h:p:=by
 have e:∀ L:List Int,gcs L=L.map fun z=>Value.int .i64 z:=fun L=>by
  induction L with
  | nil=>rfl
  | cons x r ih=>rw [dK,ih];rfl
 rw [e,e,List.map_set]):p:=h
theorem xy (h:p:=by
 apply Array.ext_getElem?
 intro j
 rw [jS]
 by_cases hj:j < ds.size
 ·rw [if_pos gj];simp
 rw [if_neg gj,Array.getElem?_eq_none aa,Array.getElem?_eq_none aa]):p:=h
theorem xx (h:p:=by
 intro A4 c4 w4 hO4 hE4 hs4
 go_wp2_with fail
 go_roundw
 case rel=>exact ⟨k+1,A4,c4,aa,ar,rfl,by rw [HR.out,eG];exact hO4,hE4⟩
 case measure=>simp [intOf];omega):p:=h
theorem xw (h:p:=by
 refine zzp fun W5 hE hS K hK => ?_
 go_simp
 go_at_call 59
 refine zcl (sY (k:Int) _) fun w5 he5=>?_
 exact zzK (hK.out (.agg (ceA (bY (k:Int)))) _ (he5) (rfl))):p:=h
theorem xv (h:p:=by rcases hu with rfl | rfl | rfl | rfl | rfl | rfl | rfl | rfl | rfl | rfl | rfl | rfl | rfl | rfl | rfl | rfl | rfl | rfl | rfl | rfl | rfl | rfl | rfl <;> rfl):p:=h
theorem xu (h:p:=by exact bodyPost_ret (gO rfl _ _ (w.heap.size+2) _ _ rfl rfl (run_loadVar_row _ _ _ _ _ (0,0) _ hst underlying81 rfl ab)) rfl ⟨kz,Below.setCells' HX.out aa _ _⟩):p:=h
theorem xt (h:p:=by
 go_enter func46,ntmps46
 go_wp2_with fail
 refine bodyPost_ret (v:=.agg (nmc 0)) (eQ rfl _ _ (w.heap.size+1) _ rfl sr) rfl ⟨rfl,((Ext.refl w).alloc' _).alloc' _⟩):p:=h
theorem xr (h:p:=by
 go_wp2_with fail
 refine zcl HV.out fun w1 he1=>?_
 have HX:=zh (HE.out.trans he1)
 clear he1 t0 t1 t2 hW
 go_wp2_with fail
 go_ret
 exact ⟨by rw [HT.out];rfl,HX.out⟩):p:=h
theorem xq (h:p:=by
 obtain ⟨ta,da⟩:=a
 obtain ⟨tb,db⟩:=b
 simp only at hd hz h
 subst hd
 have:ta=tb:=by
  apply Array.ext hz
  intro i h1 h2
  have:=h i
  simpa [h1,h2] using this
 rw [this]):p:=h
theorem xp (h:p:=by
 refine ⟨h.1,?_⟩
 rcases h.2 with h2 | ⟨g,cap,cur,hv,hg,hh,r⟩
 ·exact .inl h2
 exact .inr ⟨g,cap,cur,hv,hg,(he.block g (Array.getElem?_eq_some_iff.1 hh).1).trans hh,r⟩):p:=h
theorem xo (h:p:=by
 obtain rfl:k=n:=aa
 have HV:=zh (show vTx ac sq L=true from aFL HH.out (fun j hj=>HP.out j (by rw [HLEN.out] at hj;exact hj)))
 go_wp2_with fail
 go_ret
 exact ⟨bg,HX.out⟩):p:=h
theorem xn (h:p:=by
 go_wp2_with fail
 refine zcl HI.out fun w5 he5=>?_
 have HX:=zh (HE.out.trans he5)
 clear he5 HI HF hW
 go_wp2_with fail
 go_ret
 exact ⟨k,rfl,Nat.le_of_lt hk,HR.out,HX.out⟩):p:=h
theorem xm (h:p:=by
 have HG3:=zh (show w.grownBy w3 (some g) from kS HG2.out (Nat.le_refl _) hg3)
 clear hO3 hg3
 go_wp2_with fail
 go_ret
 exact ⟨some ⟨w.heap.size,0,none⟩,G,rfl,HE.out,HG3.out⟩):p:=h
theorem xl (h:p:=by
 try simp only [bB]
 (refine zzx 4 ?_)
 (refine zzx 5 ?_)
 refine Plan.done ab (fun W aP=>?_)
 have HX:=zh (HE.out.trans aP)
 clear aP
 go_wp2_with fail
 go_ret
 exact ⟨rfl,HX.out⟩):p:=h
theorem xk (h:p:=by
 have HXz:=zh hX3
 clear hXd hX2 hX3
 go_wp2_with fail
 go_ret
 refine ⟨A3,_,c3,rfl,bA (base:=w1.heap.size) ?_ HX1.out.size,HX1.out.trans HXz.out⟩
 rw [HEN.out];simpa using HOz.out):p:=h
theorem xj (h:p:=by
 have i0:(0:Int)≤(k:Int):=aa
 have i1:(k:Int)≤(n:Int):=aa
 have i2:(n:Int)≤(c:Int):=aa
 unfold execOp
 simp only [ho,hx,Option.map,hy]
 go_simp
 split <;> (try rfl) <;> (cases A <;> rfl)):p:=h
theorem xi (h:p:=by
 unfold Oper.wp execOp
 simp only [ho,resolve,invoke,builtin,Sem.run_bind,Sem.run_pure,Result.andThen_ok,List.map_toArray,List.map_cons,List.map_nil,hs,hx,hrun]
 exact h A' c' w' h2 h3):p:=h
theorem xh (h:p:=by
 have HXz:=zh hX5
 clear hXd hX2 hX3 hX4 hX5
 go_wp2_with fail
 go_ret
 refine ⟨A5,_,c5,rfl,bA (base:=w1.heap.size) ?_ HX1.out.size,HX1.out.trans HXz.out⟩
 rw [HEN.out];simpa using HOz.out):p:=h
theorem xg (h:p:=by
 go_wp2
 refine bodyPost_ret (v:=.agg (nmc x)) ?_ rfl ⟨rfl,(Ext.refl w).alloc' _⟩
 rw [aIS];exact results_cell_row rfl _ _ w.heap.size 50 _ (0,0) _ rfl (heap_alloc_new w _) underlying50 rfl ab):p:=h
theorem xf (h:p:=by
 refine zcl HC.out fun w3 he3=>?_
 have HE2:=zh (HE.out.trans he3)
 clear HC HVX he3 hr HS2 HE3
 go_wp2_with fail
 go_roundw
 case rel=>exact ⟨k+1,ar,hlt,HN2,HE2⟩
 case measure=>simp [intOf];omega):p:=h
theorem xe (h:p:=by
 have HS1 := zh (HSP.out.trans (show _ = (1 : Int) from by simp [lwE, h1]))
 exact AY):p:=h
theorem xd (h:p:=by
 go_wp2_with fail
 go_roundw
 case rel=>exact ⟨k+1,ar,hlt,zh (fun j hj=>by
  rcases (by omega:j < k ∨ j=k) with hj | rfl
  ·exact HN.out j hj
  exact HDK.out),HXN⟩
 case measure=>simp [intOf];omega):p:=h
theorem xc (h:p:=by
 obtain ⟨g0,g1,g2,g3,g4,p0,p1,p2,p3,p4,t0,t1,t2,t3⟩:=H3.out.f
 go_wp2_with fail
 refine zcl (kG _) fun w9 he9=>?_
 have HX9:=zh (H3.out.low.trans he9)
 exact Bm):p:=h
theorem xb (h:p:=by
 go_round
 case rel=>first | exact ⟨i' - k,n' - k,d+1,ar,ar,ar,aa,aa,hs2⟩ | (refine ⟨trivial,?_⟩;(repeat apply Exists.intro);exact ⟨⟨i' - k,n' - k,d+1,ar,ar,ar,aa,aa,hs2⟩,rfl⟩)
 case measure=>simp [intOf];omega):p:=h
theorem xa (h:p:=by
 refine zm [] (fun env W6 hE hS hD K hK=>?_)
 clear hD
 try simp only [aR]
 obtain ⟨q0,q1,q2,q3,q4⟩:=aE (HA6.out.st.blk.ext hE)
 go_simp
 have hk:=hK.out (.slice s.A1 s.n1 s.c1) _ (Ext.refl _) (rfl)
 try simp only [aR] at hk
 exact hk):p:=h
theorem wy (h:p:=by
 have hst:=aN (ds:=lkA l) HR6.out rfl
 rw [← HV.out]
 exact bodyPost_ret (gO rfl _ _ (w.heap.size+2) _ _ rfl rfl (run_loadVar_row _ _ _ _ _ (0,0) _ hst underlying81 rfl ab)) rfl ⟨rfl,Below.setCells' (HXX.out.trans HX6.out) aa _ _⟩):p:=h
theorem ww (h:p:=by
 intro A4 c4 w4 hO4 hE4 hs4
 have HO4:=zh (aJE hO4 kk HQ.out HB.out nc (by rw [HKK.out];simp [un]))
 clear hO4
 go_wp2_with fail
 go_roundw
 case rel=>exact ⟨kk,A4,c4,nc,by rw [HKK.out];go_num,rk,HO4.out,hE4⟩
 case measure=>simp [intOf]):p:=h
theorem wu (h:p:=by
 rw [HC.out.1,HC.out.2]
 exact bodyPost_ret (v:=.tuple #[.agg (vtA (cZ l)),.int .i64 0]) (gO rfl _ _ w.heap.size _ _ rfl rfl (run_loadVar_row _ _ _ _ _ (0,0) _ hst underlying124 rfl ab)) rfl ⟨rfl,Below.setCells' HX.out (Nat.le_refl _) _ _⟩):p:=h
theorem wt (h:p:=by
 have l1:=h0.s1.len
 have l2:=h0.s2.len
 have l3:=h0.s3.len
 have l4:=h0.s4.len
 rw [e1] at m1;rw [e2] at m2;rw [e3] at m3;rw [e4] at m4
 have h5:=aBY x.ac x.sq L x.s.V k
 have e6:x.s.V.C=x.s.C:=rfl
 have e7:x.s.V.K=x.s.K:=rfl
 rw [e6,e7] at h5
 omega):p:=h
theorem wq (h:p:=by exact bodyPost_ret (v:=.tuple #[.agg (sgA eM),.int .i64 3]) (gO rfl _ _ w.heap.size _ _ rfl rfl (run_loadVar_row _ _ _ _ _ (0,0) _ hst underlying126 rfl ab)) rfl ⟨eM,ia,mF _,Below.setCells' HE.out (Nat.le_refl _) _ _,fun h=>ei,fun _=>rfl,OwnB.nil _ _ _⟩):p:=h
theorem wo (h:p:=by exact bodyPost_ret (v:=.tuple #[.agg (sgA eM),.int .i64 2]) (gO rfl _ _ w.heap.size _ _ rfl rfl (run_loadVar_row _ _ _ _ _ (0,0) _ hst underlying126 rfl ab)) rfl ⟨eM,ia,mF _,Below.setCells' HE.out (Nat.le_refl _) _ _,fun h=>ei,fun _=>rfl,OwnB.nil _ _ _⟩):p:=h
theorem wn (h:p:=by
 have hb:=HB2.out.ext (HX2.out.trans he3)
 have hst:=bF hb (dY 64 (mR v))
 go_wp2_with fail
 exact bodyPost_ret (v:=.agg (nmc (dY 64 (mR v)))) (eQ rfl _ _ (w.heap.size+1) _ rfl (blkN hb _)) rfl ⟨rfl,Below.setCells' (HE.out.trans (HX2.out.trans he3)) aa _ _⟩):p:=h
theorem wk (h:p:=by
 clear HS
 go_enter func34,ntmps34
 go_wp2_with (go_at_call 86;(first | (with_reducible refine (HW0.out _).mono ?_) | (with_reducible refine (HW1.out _).mono ?_) | (with_reducible refine (HW3.out _).mono ?_) | fail "W");rintro e wv ⟨rfl,rfl⟩)
 go_ret
 exact ⟨av,HE.out⟩):p:=h
theorem wj (h:p:=by
 go_wp2_with ((with_reducible refine bH evP rfl (.tmp 2) (.tmp 34) rfl w.heap.size 0 rfl zE (.agg ev0) uC rfl HTH ?_);intro W9 h9)
 exact aIr w.heap.size zE 11 HB6.out rfl HX6.out (Nat.le_refl _) h9 (OwnB.nil _ _ _) (OwnB.nil _ _ _) dB dB HC3.out (fun h=>absurd h ae)):p:=h
theorem wi (h:p:=by
 refine zm [] (fun env W hE hS hD K hK=>?_)
 try simp only [aR]
 have q9:W.cell? ⟨w.heap.size,2,none⟩=some (.slice (some ⟨bb,0,none⟩) s1.n3 s1.c3):=ph
 go_simp
 have hk:=hK.out (.slice (some ⟨bb,0,none⟩) s1.n3 s1.c3) _ (Ext.refl _) (rfl)
 try simp only [aR] at hk
 exact hk):p:=h
theorem wh (h:p:=by
 refine (aGc 2 18 146 rfl base _ _ _ N c1 ns w hL.1 hN aa hb (fun b o hNb=>by
  have:=SlN.ne_small hN hL.2 dr b o hNb
  exact this)).mono ?_
 rintro e w' ⟨A',c',rfl,hO,hG,_⟩
 exact ⟨A',c',rfl,hO,Below.grown (Below.refl _ _) hG hb (fun k hk=>(World.ownsRow.lt hL.1 k hk).1)⟩):p:=h
theorem wg (h:p:=by
 (refine zs 13 aA ?_)
 (refine zs 14 aA ?_)
 (refine zs 15 aA ?_)
 (refine zs 16 aA ?_)
 (refine zs 17 aA ?_)
 (refine zs 18 aA ?_)
 (refine zs 19 aA ?_)
 (refine zs 20 aA ?_)
 exact BR):p:=h
theorem we (h:p:=by
 refine zm [] (fun env W5 hE hS hD K hK=>?_)
 clear hD
 try simp only [aR]
 have t0:=(HAW.out.tx.ext hE).cell 0
 have t1:=(HAW.out.tx.ext hE).cell 1
 have t2:=(HAW.out.tx.ext hE).cell 2
 go_simp
 have hk:=hK.out (.agg (txA (a:Int) sq (some ⟨b,o,none⟩) n c)) _ (Ext.refl _) (rfl)
 try simp only [aR] at hk
 exact hk):p:=h
theorem v8 (h:p:=by
 go_wp2_with ((with_reducible refine bX ceP rfl (.tmp 0) (.tmp 1) rfl w.heap.size 0 rfl cA _ HV.out rfl ht ?_))
 have hst:=aN (ds:=ceA cA) HB.out rfl
 exact AL):p:=h
theorem v7 (h:p:=by
 go_wp2_with ((with_reducible refine bX ceP rfl (.tmp 2) (.tmp 4) rfl w.heap.size 0 rfl (bY i) _ HV.out rfl ht ?_))
 have hst:=aN (ds:=ceA (bY i)) HB.out rfl
 exact AL):p:=h
theorem vT (h:p:=by
 go_wp2_with ((with_reducible refine bX ceP rfl (.tmp 2) (.tmp 4) rfl w.heap.size 0 rfl (aV i) _ HV.out rfl ht ?_))
 have hst:=aN (ds:=ceA (aV i)) HB.out rfl
 exact AL):p:=h
theorem vP (h:p:=by
 go_wp2_with (first | ((with_reducible refine aH rfl (.tmp 8) (.tmp 44) rfl (w.heap.size+3) s1 rfl rfl H1.out.r1 ?_);intro W9 h9;have HT9:=zh (H1.out.th h9)) | ((with_reducible refine bH rcP rfl (.tmp 9) (.tmp 45) rfl (w.heap.size+4) 0 rfl ⟨1,none,0,0,0,0⟩ _ rfl rfl HT9.out ?_);intro W8 hW8))
 exact rxE H1.out HZ.out ae h9 hW8):p:=h
theorem vw (h:p:=by
 go_enter func72,ntmps72
 go_wp2_with fail
 refine zcl HV.out fun w1 he1=>?_
 exact Au):p:=h
theorem vt (h:p:=by
 go_enter func100,ntmps100
 go_wp2_with fail
 refine zcl HV.out fun w1 he1=>?_
 exact Av):p:=h
theorem vq (h:p:=by
 have hb0:Blk w3 (w.heap.size+1) 50 zcs.toArray:=(Blk.newAt _ _ _ _ dr).ext he3
 go_wp2_with (with_reducible refine bE rfl _ _ rfl (w.heap.size+1) 0 _ rfl rfl (eC hb0) ?_)
 refine bodyPost_ret (v:=.agg (nmc (sH leaf))) (eQ rfl _ _ (w.heap.size+1) _ rfl (blkN hb0 _)) rfl ⟨ia,Below.setCells' ((((Ext.refl w).alloc' _).alloc' _).trans he3) aa _ _⟩):p:=h
theorem vp (h:p:=by
 have hb0:Blk w3 (w.heap.size+1) 50 zcs.toArray:=(Blk.newAt _ _ _ _ dr).ext he3
 go_wp2_with (with_reducible refine bE rfl _ _ rfl (w.heap.size+1) 0 _ rfl rfl (eC hb0) ?_)
 refine bodyPost_ret (v:=.tuple #[.agg (nmc (bD leaf i n ns)),.bool true]) (aFV rfl _ _ (w.heap.size+1) _ _ rfl rfl (blkN hb0 _)) rfl ⟨rfl,Below.setCells' ((((Ext.refl w).alloc' _).alloc' _).trans he3) aa _ _⟩):p:=h
theorem vm (h:p:=by
 by_cases hq:∃ q ∈ J,q.2=some t
 ·obtain ⟨q, hqJ, e⟩ := hq
  have hqD:=(m1 t ht q hqJ e).1
  rw [h.hit q hqJ (hdone q hqD) t e,lB env t q.1 D a0 ((b1 q hqJ).2.2.2 t e) (by rw [← e];exact hqD) (fun r hr' e2=>Classical.byContradiction fun hne=>b2 q hqJ r (m2 r hr').1 (Ne.symm hne) t e e2)]
 rw [h.miss t (fun q hq1 _ e=>hq ⟨q,hq1,e⟩),iL env t D a0 (fun q hq1 e=>hq ⟨q,(m2 q hq1).1,e⟩)]):p:=h
theorem vh (h:p:=by
 have hst:Blk W9 g 128 (evA E):=nj
 have ha:OwnB W9 w.heap.size 5 E.a.A E.a.n E.a.c E.a.sig:=j4
 have hb:OwnB W9 w.heap.size 5 E.b.A E.b.n E.b.c E.b.sig:=j3
 have hx:Ext w W9:=p5
 exact bodyPost_ret (v:=.tuple #[.agg (evA E),.int .i64 c]) (gO hres _ _ g _ _ hp hq (run_loadVar_row _ _ _ _ _ (0,0) _ hst underlying128 rfl ab)) hd ⟨E,by rw [hc],⟨⟨wa,ha.sl⟩,⟨wb,hb.sl⟩⟩,hx,fun h=>hh (hc ▸ h)⟩):p:=h
theorem vg (h:p:=by
 go_wp2_with fail
 refine zcl HV.out fun w1 he1=>?_
 have hb:=HB2.out.ext he1
 have hst:=bF hb 0
 rw [show (nmc 0).toList=zcs from by rw [← vM]] at hst
 have ht:=eC hb
 go_wp2_with (with_reducible refine bE rfl (.tmp 2) (.tmp 6) rfl (w.heap.size+1) 0 0 rfl rfl ht ?_)
 exact BF):p:=h
theorem vf (h:p:=by
 rw [hvx,hvo] at HC
 clear hk hvx hvo hz
 go_enter func26,ntmps26
 go_wp2_with (first | (with_reducible refine aD iQ rfl (.tmp 2) rfl w.heap.size 0 rfl x vx HVX.out rx ?_) | (with_reducible refine aD opP rfl (.tmp 3) rfl (w.heap.size+1) 0 rfl R vo HVO.out ro ?_) | fail "A")
 refine zcl HC.out fun w5 he5=>?_
 have HX5:=zh (HX.out.trans he5)
 clear he5 rx ro p0
 go_wp2_with fail
 go_ret
 exact ⟨bm,HX5.out⟩):p:=h
theorem u9 (h:p:=by
 have hE3:Ext (w.alloc (.cells zcs.toArray 50)) w3:=lc
 have hb0:Blk w3 w.heap.size 50 zcs.toArray:=(Blk.new w _ _).ext hE3
 go_wp2_with (refine wpList_store_mid rfl 50 _ _ rfl w.heap.size 0 (nmc (cL ([t] ++ l))) rfl rfl (mY hb0 _) (fJ _) (iS _) ?_)
 refine bodyPost_ret (v:=.agg (nmc (cL ([t] ++ l)))) (eQ rfl _ _ w.heap.size _ rfl (blkN hb0 _)) rfl ⟨rfl,Below.setCells' (((Ext.refl w).alloc' _).trans hE3) (Nat.le_refl _) _ _⟩):p:=h
theorem u7 (h:p:=by
 go_wp2_with fail
 refine HA.out.mono ?_
 rintro e w1 ⟨A1,c1,rfl,hO1,he1⟩
 have HO1:=zh hO1
 have HE1:=zh he1
 clear hO1 he1
 go_wp2_with (at_builtin;go_must (refine cB bU rfl (.tmp 13) (.tmp 14) rfl w.heap.size A1 _ c1 _ rfl HO1.out P m d p rfl (HP.out.ext HE1.out) aa HE1.out.size w HE1.out ?_))
 intro A2 c2 w2 hO2 hE2 hs2
 have HO2:=zh hO2
 clear hO2
 go_wp2_with fail
 go_ret2
 exact ⟨A2,_,c2,rfl,by rw [HB.out];simpa using HO2.out,hE2⟩):p:=h
theorem u6 (h:p:=by
 refine wpd ?_
 have HXN:=zh aA
 clear aA
 cases ne
 ·exact AE
 have HF:=zh (show decide (L=M)=false from decide_eq_false (fun e=>by
  have h9:=HDK.out
  rw [e] at h9
  simp at h9))
 go_wp2_with fail
 go_ret
 exact ⟨av,HXN.out⟩):p:=h
theorem u5 (h:p:=by
 intro A2 c2 w2 hO2 hg2
 have S2:=zh (S1.out.app ((Ext.refl _).alloc' _) hO2 hg2)
 clear hO2 hg2 q1 S1
 have q2:w2.cell? ⟨w.heap.size,2,none⟩=some (.int .i64 R.am):=S2.out.box.cell 2
 go_wp2_with fail
 refine (eO _ _ _ _ R.am 6 aa _ S2.out.own.sl aa).mono ?_
 rintro e w3 ⟨A3,c3,rfl,hO3,he3⟩
 exact AO):p:=h
theorem uz (h:p:=by
 have hE3:Below (w.heap.size+1) (w.alloc (.cells zcs.toArray 50)) w3:=Below.trans hB (he3.mono hsz)
 have hb0:Blk w3 w.heap.size 50 zcs.toArray:=(Blk.new w _ _).below hE3 aa
 go_wp2_with (with_reducible refine bE rfl _ _ rfl w.heap.size 0 _ rfl rfl (eC hb0) ?_)
 refine bodyPost_ret (v:=.agg (nmc (dY 34 (ns.flatMap nmb)))) (eQ rfl _ _ w.heap.size _ rfl (blkN hb0 _)) rfl ⟨rfl,Below.setCells' (((Ext.refl w).alloc' _).trans j8) (Nat.le_refl _) _ _⟩):p:=h
theorem uy (h:p:=by
 have hok:(SgR.mk v A3 370 c3 (l.drop 23)).ok (w3.setCells w.heap.size 0 (sgA ⟨v,A3,370,c3,l.drop 23⟩).toList):=⟨HWF.out,hown.sl⟩
 go_wp2_with fail
 exact bodyPost_ret (v:=.tuple #[.agg (sgA ⟨v,A3,370,c3,l.drop 23⟩),.int .i64 0]) (gO rfl _ _ w.heap.size _ _ rfl rfl (run_loadVar_row _ _ _ _ _ (0,0) _ hst underlying126 rfl ab)) rfl ⟨⟨v,A3,370,c3,l.drop 23⟩,ia,hok,Below.setCells' hx3 (Nat.le_refl _) _ _,fun _=>⟨HF.out.1,HF.out.2,rfl,rfl⟩,fun h=>absurd HC.out h,hown⟩):p:=h
theorem ux (h:p:=by
 obtain ⟨b1,b2,b3⟩:=eR hB
 refine ⟨(h.eqL hB).trans (by rw [List.filter_eq_self.2 hf]),?_⟩
 refine aCk (by rw [h.dfr,pV]) (by rw [h.tsz,lS]) (fun t=>?_)
 by_cases ht:∃ p ∈ J,p.2=some t
 ·obtain ⟨p, hp, e⟩ := ht
  rw [h.hit p hp (hf p hp) t e,lB env t p.1 J a0 ((b1 p hp).2.2.2 t e) (by rw [← e];exact hp) (fun q hq e2=>Classical.byContradiction fun hne=>b2 p hp q hq (Ne.symm hne) t e e2)]
 rw [h.miss t (fun p hp _ e=>ht ⟨p,hp,e⟩),iL env t J a0 (fun p hp e=>ht ⟨p,hp,e⟩)]):p:=h
theorem uw (h:p:=by
 have ra:w5.rangeAt w.heap.size 0 (RowT.enc a):=bS (HA.out.ext he5)
 have rb:w5.rangeAt (w.heap.size+1) 0 (RowT.enc b):=bS (HB.out.ext he5)
 clear he5
 go_wp2_with (first | (with_reducible refine aD nmP rfl (.tmp 2) rfl w.heap.size 0 rfl a _ rfl ra ?_) | (with_reducible refine aD nmP rfl (.tmp 3) rfl (w.heap.size+1) 0 rfl b _ rfl rb ?_) | fail "A")
 refine zcl HL2.out fun w6 he6=>?_
 have HX6:=zh (HX5.out.trans he6)
 clear he6 ra rb
 go_wp2_with fail
 go_ret
 exact ⟨dn,HX6.out⟩):p:=h
theorem uv (h:p:=by
 have HK:=zh (show k=(q - p).toNat by omega)
 have HX:=zh (show cS v c p (q - p).toNat=cS v c p k by rw [← HK.out])
 generalize cS v c p k=x at *
 go_wp2_with (first | (refine wpList_load_row rfl 50 _ rfl _ rfl 50 _ (0,0) _ hB underlying50 rfl (fJ x) ?_) | (refine wpList_store_mid rfl 50 _ _ rfl (w.heap.size+1) 0 (nmc x) rfl rfl (mY hZ _) (fJ _) (iS _) ?_))
 refine bodyPost_ret (v:=.agg (nmc x)) (eQ rfl _ _ (w.heap.size+1) _ rfl (blkN hZ _)) rfl ⟨ss,Below.setCells' hE aa _ _⟩):p:=h
theorem uu (h:p:=by
 have HF:=zh (HS8.out.row4 (Ext.grown HX10.out _) HO10.out)
 obtain ⟨WF,hWF⟩:=gx (W10.setCell ⟨w.heap.size,3,none⟩ (.slice A10 (k+1+(s1.n4 - k)) c10))
 rw [hWF] at HF ⊢
 have HRF:=zh (show Blk WF (w.heap.size+2) 30 (ssA ss0) from fl)
 obtain ⟨q0,q1,q2,q3,q4⟩:=aE HF.out.blk
 go_wp2_with ((with_reducible refine aH rfl (.tmp 4) (.tmp 48) rfl (w.heap.size+2) ({ s1 with A4:=A10,n4:=k+1+(s1.n4 - k),c4:=c10,P:=s1.P.take k ++ x :: s1.P.drop k }) rfl rfl HRF.out ?_);intro W9 h9)
 exact rtS _ _ HF.out HRF.out aa h9 im):p:=h
theorem us (h:p:=by
 go_wp2_with fail
 refine wp_region_held_drew (S:=fun W=>True) ab (trivial) (fun aA=>?_)
 refine zzr [0,1,2,3,4] ?_
 refine zu 5 (v:=.slice (some ad) (n - (i+1)) (c - (i+1))) aA ?_ (hy:=gz)
 refine za 6 (fun K hK=>?_)
 (refine lO rfl (.tmp 22) (.tmp 25) rfl (.slice (some ⟨g,0,none⟩) i c) (.slice (some ad) (n - (i+1)) (c - (i+1))) dp dp _ _ (HRUN.out _) ?_)
 refine hK.out _ _ (trivial) (fun aA=>?_)
 clear hK K
 try simp only [bB]
 refine zt 7 aA ?_
 refine wpd ?_
 clear HRUN
 go_wp2_with fail
 go_ret
 exact ⟨some ⟨g,0,none⟩,c,rfl,HEND.out,HG2.out⟩):p:=h
theorem ur (h:p:=by
 have hix := kZ x k hlt
 have hb:=kF ((nmb x).take k)
 rw [List.length_take,hl,Nat.min_eq_left aa] at hb
 have hb7:bT ((nmb x).take k) < 72057594037927936:=Nat.lt_of_lt_of_le hb (Nat.pow_le_pow_right (n:=256) (j:=7) aa aa)
 have hor:=vR _ ((nmb x).getD k 0) hb7
 have HS:=zh (show bT ((nmb x).take (k+1))=bT ((nmb x).take k) * 256+((nmb x).getD k 0).toNat by rw [oG _ _ aa,gB])
 clear hb hb7 hl hs
 generalize bT ((nmb x).take k)=a at *
 generalize (nmb x).getD k 0=c at *
 go_wp2
 go_round
 case rel=>exact ⟨k+1,aa,ar,lh⟩
 case measure=>simp [intOf];omega):p:=h
theorem uq (h:p:=by
 obtain ⟨q0,q1,q2,q3,q4⟩:=aE HF.out.blk
 go_wp2_with (first | ((with_reducible refine aH rfl (.tmp 4) (.tmp 20) rfl (w.heap.size+2) s2 rfl rfl HFR.out ?_);intro W9 h9))
 exact Ao):p:=h
theorem up (h:p:=by
 obtain ⟨q0,q1,q2,q3,q4⟩:=aE HF.out.blk
 go_wp2_with (first | ((with_reducible refine aH rfl (.tmp 4) (.tmp 21) rfl (w.heap.size+2) s2 rfl rfl HFR.out ?_);intro W9 h9))
 exact Ao):p:=h
theorem uo (h:p:=by
 obtain ⟨q0,q1,q2,q3,q4⟩:=aE HF.out.blk
 go_wp2_with (first | ((with_reducible refine aH rfl (.tmp 4) (.tmp 22) rfl (w.heap.size+2) s2 rfl rfl HFR.out ?_);intro W9 h9))
 exact Ao):p:=h
theorem um (h:p:=by
 go_wp2_with (first | (with_reducible refine aD nmP rfl (.tmp 1) rfl w.heap.size 0 rfl n _ rfl r0 ?_) | (with_reducible refine dV rfl (cV (vx:=.int .i64 2) (vy:=.agg (nmc n)) (.const (.int .i64 2)) (.tmp 3) rfl rfl rfl HR.out) ?_) | (with_reducible refine bX ceP rfl (.tmp 2) (.tmp 4) rfl (w.heap.size+1) 0 rfl (bZ n) v HV.out rfl ht ?_))
 have hst:=aN (ds:=ceA (bZ n)) HB.out rfl
 exact bodyPost_ret (fP rfl _ _ (w.heap.size+1) _ rfl (run_loadVar_row _ _ _ _ _ (0,0) _ hst underlying61 rfl ab)) rfl ⟨by rw [HV.out],Below.setCells' HX.out (Nat.le_succ _) _ _⟩):p:=h
theorem uk (h:p:=by
 clear hK K
 try simp only [bB]
 refine wpd ?_
 have hst:=h6.out.2
 have HOW:=zh (show OwnS W6 w.heap.size ⟨A1,s.n1,c1,s.C,A2,s.n2,c2,s.Q,A3,s.n3,c3,s.K,A4,s.n4,c4,s.P,s.G⟩ from by
  refine OwnS.kept (X:=w.heap.size+1) ⟨HK1.out,HK2.out,HK3.out,HK4.out,HO.out.s1.ok,HO.out.s2.ok,HO.out.s3.ok,HO.out.g⟩ al hz6 ae ae ae ae)
 have HX:=zh aA.2.2
 clear h6 hz6 hS hE aA
 go_wp2_with fail
 exact bodyPost_ret (v:=.agg (ssA ⟨A1,s.n1,c1,s.C,A2,s.n2,c2,s.Q,A3,s.n3,c3,s.K,A4,s.n4,c4,s.P,s.G⟩)) (fP rfl _ _ (w.heap.size+1) _ rfl (run_loadVar_row _ _ _ _ _ (0,0) _ hst underlying30 rfl ab)) rfl ⟨_,rfl,HOW.out,rfl,HX.out⟩):p:=h
theorem uj (h:p:=by
 go_wp2_with fail
 go_loop [3] (fun v=>∃ (f k:Nat),v=.int .i64 (k:Int)∧1≤k∧k < n∧n - k≤f∧Hid (nQ f n k=spl n)) (fun v=>n - (intOf v).toNat)
 case atStart=>exact ⟨n,1,rfl,aa,aa,aa,rfl⟩
 case round =>
  obtain ⟨f,k,rfl,hk1,hk2,hf,hs⟩:=hrel
  by_cases hlt:k < n - k
  ·have hs2 := zh ((aCI f n k hk1 hf hlt).symm.trans hs.out)
   have hlt':(k:Int) < (n:Int) - (k:Int):=aa
   go_wp2_with fail
   go_round
   case rel=>exact ⟨f - 1,2 * k,ar,aa,aa,aa,hs2⟩
   case measure=>simp [intOf];omega
  have hs2:=zh ((wL f n k hlt).symm.trans hs.out)
  have hlt':¬ (k:Int) < (n:Int) - (k:Int):=aa
  go_wp2_with fail
  go_ret
  exact ⟨mt,rfl⟩):p:=h
theorem ui (h:p:=by
 have hr2:r≤240:=aa
 clear hr
 go_wp2_with (at_builtin;go_must (with_reducible refine fS aAK rfl _ _ rfl (w.heap.size+1) _ _ _ _ rfl (hO.alloc _) _ _ _ _ rfl (Rd.new2 _ _ _ _ _ rfl) ?l1 ?h1 ?b1 ?c1 ?d1 (w.alloc (.cells (nmc m) 50)) ?w1 ?_))
 case l1=>rfl
 case h1=>simp [Value.oneCell']
 case b1=>omega
 case c1=>omega
 case d1=>simp;omega
 case w1=>exact Below.alloc hB hsz _
 intro A1 c1 w1 ho1 hw1 hs1
 have ho2:w1.ownsRow (w.heap.size+1) 3 1 (.slice A1 18 c1) 18 (ics (qT m)):=by rw [HX.out,nK];exact ho1
 obtain ⟨g,rfl,hg,hra⟩:=cM ho2 aa
 clear ho1 ho2
 go_wp2_with fail
 go_ret
 exact ⟨g,c1,rfl,hra,aa,((Ext.refl w).alloc' _).trans (by simpa [Ext] using hw1)⟩):p:=h
theorem uh (h:p:=by
 go_enter func24,ntmps24
 go_wp2_with fail
 refine zcl (HV.out _ HX.out) fun w5 he5=>?_
 have HX5:=zh (HX.out.trans he5)
 have HB5:=zh (HB.out.ext he5)
 have HC5:=zh (HC.out.ext he5)
 have HD5:=zh (HD.out.ext he5)
 have g0:=HB5.out.cell 0
 have g1:=HB5.out.cell 1
 have g2:=HB5.out.cell 2
 have g3:=HB5.out.cell 3
 have g4:=HB5.out.cell 4
 clear he5 t0 t1 t2
 go_wp2_with fail
 refine zcl (HG.out _ HX5.out) fun w6 he6=>?_
 have HX6:=zh (HX5.out.trans he6)
 have HB6:=zh (HB5.out.ext he6)
 have HC6:=zh (HC5.out.ext he6)
 have HD6:=zh (HD5.out.ext he6)
 have g3:=HB6.out.cell 3
 obtain ⟨q0,q1,q2,q3,q4⟩:=aE HC6.out
 clear he6 g0 g1 g2 g4 HB5 HC5 HD5 HX5
 go_wp2_with fail
 go_ret
 exact ⟨bm,HX6.out⟩):p:=h
theorem ug (h:p:=by
 obtain ⟨i,hi,hz,hsz,hby⟩:=E.get
 have hlen:(Builtin.zeroCells z.cells n).toList.length=n * size:=qp
 have h1:∀ v ∈ (Builtin.zeroCells z.cells n).toList,v.oneCell'=true:=by
  intro v hv
  simp only [Builtin.zeroCells,Array.toList_map,List.mem_map] at hv
  obtain ⟨q,_,rfl⟩:=hv
  have hp:0 < z.cells.size:=by rw [E.zs];exact E.pos
  have hq:q % z.cells.size < z.cells.size:=Nat.mod_lt _ hp
  rw [getElem!_pos z.cells _ hq]
  exact hz1 _ (Array.getElem_mem hq)
 have hst:=run_storeCells_cells (P:=P) g o (Builtin.zeroCells z.cells n).toList 0 w (fun j hj=>sn) (fun j hj=>sm) h1
 simp only [Nat.add_zero] at hst
 obtain ⟨m,rfl⟩:∃ m,n=m+1:=⟨n - 1,aa⟩
 simp [Builtin.clear_,run_underlying E.ut,zeroValue,typeInfo,hi,hz,hst]):p:=h
theorem uf (h:p:=by
 obtain ⟨b1,b2,b3⟩:=eR hB
 apply Array.ext_getElem?
 intro i
 by_cases hi:i < l0.size
 ·rw [wP _ _ _ hi]
  by_cases hJ:∃ p ∈ J,p.1=i
  ·obtain ⟨p, hp, rfl⟩ := hJ
   have hl:p.1 < l.size:=by rw [h.lsz];exact hi
   cases hv:l.getD p.1 true with
   | true =>
    rw [if_pos (List.any_eq_true.2 ⟨p,List.mem_filter.2 ⟨hp,hv⟩,dr⟩)]
    simp [hl] at hv ⊢;exact hv
   | false =>
    rw [if_neg (by
     simp only [List.any_eq_true,List.mem_filter,beq_iff_eq,not_exists,not_and]
     rintro q ⟨hq,hq1⟩ e
     rw [e,hv] at hq1;cases hq1)]
    have:=(b1 p hp).2.1
    simp [hl,hi] at hv this ⊢;rw [hv,this]
  have hne:∀ p ∈ J,p.1 ≠ i:=fun p hp e=>hJ ⟨p,hp,e⟩
  rw [if_neg (by
   simp only [List.any_eq_true,List.mem_filter,beq_iff_eq,not_exists,not_and]
   rintro q ⟨hq,_⟩ e
   exact hne q hq e)]
  exact h.lout i hne
 rw [Array.getElem?_eq_none (by rw [h.lsz];omega),Array.getElem?_eq_none (by rw [uK];omega)]):p:=h
theorem ue (h:p:=by
 go_enter func35,ntmps35
 go_wp2_with fail
 clear hW0
 refine wp_region_held_drew (S:=(fun w'=>w'.cell? ⟨w.heap.size+1,0,none⟩=some (.int .i64 T.ac)∧w'.cell? ⟨w.heap.size+1,1,none⟩=some (.int .i64 T.sq)∧w'.cell? ⟨w.heap.size+1,2,none⟩=some (.slice T.A T.n T.c)∧w'.cell? ⟨w.heap.size+1,3,none⟩=some (.slice T.S T.m T.d))) ab (by exact (HSS.out _ hX).2) (fun aA=>?_)
 refine zz0 [0,1] ?_;repeat first | refine zz1 ?_ (hy:=dm) | refine zz2 ?_ | refine zz9 ?_
 (refine za 2 (fun K hK=>?_);go_simp;go_at_call 33;(with_reducible refine zcl (HV.out _ hX) fun wv he=>?_);have hX:=hX.trans he;clear he;refine hK.out _ _ ((HSS.out _ hX).2) (fun aA=>?_);clear hK K;try simp only [bB])
 refine zz0 [3,4,5,6,7,8,9,10,11,12,13,14,15,16,17,18,19,20,21,22,23,24,25,26,27] ?_;repeat first | refine zz1 ?_ (hy:=dm) | refine zz2 ?_ | refine zz9 ?_
 refine wpd ?_
 have HXF:=zh (HE.out.trans hX)
 clear q0 q1 q2 q3 hX
 go_wp2_with fail
 go_ret
 exact ⟨kh,HXF.out⟩):p:=h
theorem ud (h:p:=by
 clear hk
 obtain ⟨q0,q1,q2,q3,q4⟩:=aE HB7.out
 have r5:W7.rangeAt X 5 (RowT.enc R.lk):=kJ HR7.out
 go_wp2_with (first | (with_reducible refine aD nmP rfl (.tmp 40) rfl X 5 rfl R.lk _ rfl r5 ?_) | fail "A")
 refine (xA s1 R.lk W7 HOW.out.ok HN9.out).mono ?_
 rintro e w5 ⟨s2,rfl,ho2,hv2,he5⟩
 have HO2:=zh (bO ho2 HX7.out.size)
 have HV2:=zh hv2
 have HX5:=zh (HX7.out.trans he5)
 have HR5:=zh (HZ7.out.ext he5)
 clear ho2 hv2 he5 r5 q0 q1 q2 q3 q4
 go_wp2_with ((with_reducible refine aH rfl (.tmp 6) (.tmp 42) rfl (w.heap.size+2) s2 rfl rfl HR5.out ?_);intro W9 h9)
 have hst:Blk W9 (w.heap.size+2) 30 (ssA s2):=il
 have HOW2:=zh (show OwnS W9 w.heap.size s2 from by
  rw [← h9.out]
  exact HO2.out.kept (aB _ _ _ _) HR5.out ae ae ae ae)
 have HXE:=zh (show Ext w W9 from oq)
 clear h9
 exact By):p:=h
theorem uc (h:p:=by
 refine zt 8 aA ?_
 refine wpd ?_
 have HX5:=zh aA.2.2.2
 obtain ⟨q0,q1,q2,q3,q4⟩:=aE aA.1
 obtain ⟨z6,hz6⟩:=aA.2.2.1
 have HR6:=zh hz6
 clear hE hS aA hz6
 go_wp2_with fail
 refine (dH s0 _ (HS0.out.ext HX5.out) du).mono ?_
 rintro e w7 ⟨s5,rfl,ho5,hv5,he5⟩
 have HR7:=zh (HR6.out.ext he5)
 have HO5:=zh ho5
 have HV5:=zh hv5
 have HX7:=zh (HX5.out.trans he5)
 have HSZ:=zh HX5.out.size
 clear ho5 hv5 he5 q0 q1 q2 q3 q4
 go_wp2_with ((with_reducible refine aH rfl (.tmp 4) (.tmp 16) rfl (w.heap.size+2) s5 rfl rfl HR7.out ?_);intro W9 h9)
 have hst:Blk W9 (w.heap.size+2) 30 (ssA s5):=ik
 have HOW:=zh (show OwnS W9 w.heap.size s5 from by
  rw [← h9.out]
  exact (HO5.out.kept (aB _ _ _ _) HR7.out ae ae ae ae).mono HSZ.out)
 have HXE:=zh (show Ext w W9 from eo)
 clear h9
 exact bodyPost_ret (v:=.agg (ssA s5)) (fP rfl _ _ (w.heap.size+2) _ rfl (run_loadVar_row _ _ _ _ _ (0,0) _ hst underlying30 rfl ab)) rfl ⟨s5,rfl,HOW.out,by rw [HV5.out,HREP.out],HXE.out⟩):p:=h
theorem ub (h:p:=by exact Ag):p:=h
theorem tz (h:p:=by
 have hx := uD (HX.out.ext HZ.out) hlt
 have hy:=uD (HY.out.ext HZ.out) hlt
 have i0:(0:Int)≤(k:Int):=aa
 have i1:(k:Int) < 5:=aa
 by_cases hne:x5n a k=x5n b k
 ·have HP':=zh (show ∀ j,j < k+1→x5n a j=x5n b j from fun j hj=>by
   rcases Nat.lt_or_ge j k with h | h
   ·exact HP.out j h
   obtain rfl:j=k:=aa
   exact hne)
  obtain ⟨z,hz⟩:=gx (x5n a k)
  rw [hz] at hx hne
  rw [← hne] at hy
  clear hz hne
  have hz:(z != z)=false:=dr
  go_wp2_with fail
  go_quiet ((fail))
  go_wp2_with fail
  go_roundw
  case rel=>exact ⟨k+1,aa,ar,HP',zh (below_drewN HZ.out _)⟩
  case measure=>simp [intOf];omega
 have HV:=zh (aGf HPA.out hlt HP.out hne)
 obtain ⟨z,hz⟩:=gx (x5n a k)
 obtain ⟨y,hyy⟩:=gx (x5n b k)
 rw [hz,hyy] at HV hne
 rw [hz] at hx
 rw [hyy] at hy
 have hzy:(z != y)=true:=bne_iff_ne.2 hne
 have HZZ:=zh hz
 have HYY:=zh hyy
 clear hz hyy
 go_wp2_with fail
 go_quiet ((fail))
 have HZ2:=zh (below_drewN HZ.out nq)
 clear hx hy HZ
 generalize wr.drewN nq=W2 at HZ2 ⊢
 have hx:=uD (HX.out.ext HZ2.out) hlt
 have hy:=uD (HY.out.ext HZ2.out) hlt
 rw [HZZ.out] at hx
 rw [HYY.out] at hy
 go_wp2_with fail
 go_quiet ((fail))
 go_wp2_with fail
 go_ret
 exact ⟨bg,HE.out.trans (HE1.out.trans (below_drewN HZ2.out _))⟩):p:=h
theorem tu (h:p:=by
 rw [e5] at H5
 obtain ⟨b6,e6⟩:=gx (cQ false (R.n2:Int) 1 2000)
 have H6:=zh (fun W=>aW false (R.n2:Int) 1 2000 W)
 rw [e6] at H6
 have E7:=zh (fun W=>cE R.hs 0 W)
 have E8:=zh (fun W=>cE R.lk 0 W)
 obtain ⟨b7,e7⟩:=gx (decide (R.hs=0))
 obtain ⟨b8,e8⟩:=gx (true)
 have HV:=zh (show vOp R=(b1 && (b2 && (b3 && (b4 && (b5 && (b6 && (b7 && b8))))))) by
  exact Bi)
 rw [e7] at E7
 exact Bn):p:=h
theorem tq (h:p:=by
 rw [e4] at H4
 obtain ⟨b5,e5⟩:=gx (cQ false (R.n1:Int) 0 32)
 have H5:=zh (fun W=>aW false (R.n1:Int) 0 32 W)
 rw [e5] at H5
 obtain ⟨b6,e6⟩:=gx (cQ false (R.n2:Int) 1 2000)
 have H6:=zh (fun W=>aW false (R.n2:Int) 1 2000 W)
 rw [e6] at H6
 have E7:=zh (fun W=>cE R.hs 0 W)
 have E8:=zh (fun W=>cE R.lk 0 W)
 obtain ⟨b7,e7⟩:=gx (decide (R.hs=0))
 obtain ⟨b8,e8⟩:=gx (decide (R.lk=0))
 have HV:=zh (show vOp R=(b1 && (b2 && (b3 && (b4 && (b5 && (b6 && (b7 && b8))))))) by
  rw [← e1,← e2,← e3,← e4,← e5,← e6,← e7,← e8];unfold vOp;rw [h];rfl)
 rw [e7] at E7
 exact Ag):p:=h
theorem tp (h:p:=by
 have hS := hS0.ext hB
 have hrs:=dL hS
 have hcd:=pH (aY hra (hB.block b hbl)) k hlt
 rw [Nat.zero_add] at hcd
 have HR:=zh (show (List.range (k+1)).map (qG seed m)=(List.range k).map (qG seed m) ++ [qG seed m k] by rw [List.range_succ,List.map_append];rfl)
 have hu:=underlying50
 have hi:=vN seed
 have hk8:(k:Int) < 18:=aa
 go_wp2_with fail
 have SS:∀ w',Ext w0 w'→(∀ i,i < 8→w'.cell? ⟨w.heap.size,i,none⟩=some (.int .u8 (nb8 seed i)))∧w'.cell? ⟨b,k,none⟩=some (.int .i64 (dig m k)):=fun w' hx=>⟨dM (hS0.ext hx),(hx.cell (p:=⟨b,k,none⟩) hbl).trans gi⟩
 have HSS:=zh SS
 clear SS
 have hszr:=hB.size
 have hX0:Ext wr wr.drew:=(Ext.refl wr).drew'
 have hG:∀ (w2:World) (o:Obj),w0.heap.size≤w2.heap.size→w0.heap.size≤(w2.alloc o).heap.size:=fun w2 o h=>gj
 have HG:=zh hG
 clear hG
 go_region_held3 (fun w'=>(∀ i,i < 8→w'.cell? ⟨w.heap.size,i,none⟩=some (.int .u8 (nb8 seed i)))∧w'.cell? ⟨b,k,none⟩=some (.int .i64 (dig m k))) (first | exact HSS.out _ (hB.trans hX0) | exact HSS.out _ (hB.trans hX1) | exact HSS.out _ (hB.trans hX2) | exact HSS.out _ ((hB.trans hX2).alloc' _) | exact HSS.out _ hw3) (first | (go_at_call 167;refine (tE seed k _).mono ?_;rintro e w1 ⟨rfl,he1⟩;have hX1:=hX0.trans he1) | (go_at_call 166;refine (aEa seed m k hlt _).mono ?_;rintro e w2 ⟨rfl,he2⟩;have hX2:=hX1.trans he2;have hO2:=bC hO hX2;have hsz2:=Nat.le_trans hszr hX2.size) | (refine rL cY rfl (.tmp 14) (.tmp 24) rfl w0.heap.size A k c (ncs ((List.range k).map (qG seed m))) dp (hO2.alloc _) (some ⟨w2.heap.size,0,none⟩) 1 1 (ncs [qG seed m k]) dp (Rd.newN _ _ _ _ rfl) kn (lU _) aa aa (HG.out _ _ hsz2) w0 (Below.alloc (Below.trans hB (hX2.mono hszr)) hsz2 _) ?_;intro A1 c1 w3 ho3 hw3 hs3))
 exact Ba):p:=h
theorem tn (h:p:=by
 intro v u w' hvu he hv
 refine ⟨hSE _ _ h.s he,ih (fun i=>if i=p.1 then v else env i) _ _ _ ?_ ?_⟩
 ·have hg:∀ q,q ∈ J→(l.setIfInBounds p.1 true).getD q.1 true=true→q.1=p.1 ∨ (q.1 ≠ p.1∧l.getD q.1 true=true):=fun q hq hh=>by
   by_cases e:q.1=p.1
   ·exact .inl e
   rw [getD_set_ne true (Ne.symm e)] at hh;exact .inr ⟨e,hh⟩
  have hsame:∀ q,q ∈ J→q.1=p.1→q.2=p.2:=fun q hq e=>qx
  refine ⟨h.ext.trans he,hSE _ _ h.s he,rj,fun i hi'=>?_,by rw [nH];exact h.dfr,by rw [rW];exact h.tsz,fun q hq hh=>?_,fun q hq hh t ht=>?_,fun t ht=>?_,fun q hq hh r hr hd=>?_⟩
  ·rw [Array.getElem?_setIfInBounds_ne (hi' p hp)];exact h.lout i hi'
  ·rcases hg q hq hh with e | ⟨e, h2⟩
   ·simp only [e,if_true];exact hv
   simp only [e,if_false];exact hVE _ _ _ _ (h.val q hq h2) he
  ·rw [mN]
   rcases hg q hq hh with e | ⟨e,h2⟩
   ·have h3 := hsame q hq e
    rw [if_pos ⟨by rw [hds,← h3];exact ht,sf⟩]
    simp only [e,if_true]
    exact (hvu (by rw [hds,← h3,ht];simp)).symm
   rw [if_neg (fun hh=>b2 q hq p hp e t ht (by rw [← hds];exact hh.1)),h.hit q hq h2 t ht]
   simp only [e,if_false]
  ·rw [mN, if_neg (fun hh => ht p hp (by simp [hpl]) (by rw [← hds]; exact hh.1))]
   refine h.miss t (fun q hq h2=>ht q hq ?_)
   by_cases e:q.1=p.1
   ·rw [e];simp [hpl]
   rw [getD_set_ne true (Ne.symm e)];exact h2
  have hlr:l.getD r.1 true=true:=by
   rcases hg q hq hh with e | ⟨e,h2⟩
   ·rw [e] at hd
    unfold depB at hd
    rw [ho] at hd
    simp only [List.any_eq_true,Bool.and_eq_true,beq_iff_eq,Array.mem_toList_iff] at hd
    obtain ⟨ed,hed,hb,heq⟩:=hd
    obtain ⟨_,o',ho',hall⟩:=mem_ready.1 hi
    rw [ho] at ho';cases ho'
    have h3:=hall ed hed hb
    rw [heq] at h3
    have hrl:r.1 < l.size:=by rw [h.lsz];exact (b1 r hr).1
    simp only [Array.getD_eq_getD_getElem?] at h3 ⊢
    rw [Array.getElem?_eq_getElem hrl] at h3 ⊢
    exact h3
   exact h.cl q hq h2 r hr hd
  by_cases e:r.1=p.1
  ·rw [e];simp [hpl]
  rw [getD_set_ne true (Ne.symm e)];exact hlr
 have hc:(J.filter fun q=>!(l.setIfInBounds p.1 true).getD q.1 true)=J.filter fun q=>!(if q.1=p.1 then true else l.getD q.1 true):=by
  apply List.filter_congr
  intro q hq
  by_cases e:q.1=p.1
  ·rw [e];simp [hpl]
  rw [getD_set_ne true (Ne.symm e),if_neg e]
 rw [hc]
 have:=tU (fun i=>l.getD i true) p.1 J (aAJ hB) ⟨p,hp,rfl⟩ hun
 omega):p:=h
theorem te (h:p:=by
 have HM1:=zh (show cov1 s.C cc=addL s.C (dF cA cc pd) from by
  rw [← hpd]
  unfold cov1
  rw [HHV.out,HNV.out,if_neg aa]
  first | rw [if_pos aa] | rw [if_neg aa])
 have HMV:=zh (fun V=>kB cA cc pd V HCP.out HCW.out HPW.out)
 rw [HVC.out] at HMV
 rw [hpd]
 clear hpd e1 h1 h2 h3
 try clear e2
 have HA6:=zh (HA5.out.ext ((Ext.refl W).drew'))
 have HD6:=zh (HD5.out.ext ((Ext.refl W).drew'))
 refine wp_region_held_drew (S:=fun _=>True) ab (trivial) (fun aA=>?_)
 refine zt 3 aA ?_
 refine cC (VV 0 (fun v V=>v=.agg (ssA s)) (VV 1 (fun v V=>v=.agg (ceA cA)) (VV 2 (fun v V=>v=vc) (VV 4 (fun v V=>∃ A5 n5 c5,v=.slice A5 n5 c5∧SlG V A5 n5 c5 (dF cA cc pd)) (VV 5 (fun v V=>∃ s2,v=.agg (ssA s2)∧OwnS V w.heap.size s2∧s2.V=mV s.V (dF cA cc pd)) (VN)))))) [(0,some 68),(1,some 69),(2,some 70),(4,some 72),(5,some 73)] (fuel:=1) ab ab (fun _ _ h _=>h) (VV.ext (fun v w w' h e=>h) (VV.ext (fun v w w' h e=>h) (VV.ext (fun v w w' h e=>h) (VV.ext (fun v w w' ⟨A,n,c,h1,h2⟩ e=>⟨A,n,c,h1,h2.ext e⟩) (VV.ext (fun v w w' ⟨s2,h1,h2,h3⟩ e=>⟨s2,h1,h2.ext e,h3⟩) (VN.ext)))))) aA ?hm2 rfl ?hr2
 case hm2 =>
  refine Members.cons ?mm2_0 (Members.cons ?mm2_1 (Members.cons ?mm2_2 (Members.cons ?mm2_4 (Members.cons ?mm2_5 (Members.nil _)))))
  case mm2_0 =>
   refine zm [] (fun env W5 hE hS hD K hK=>?_)
   clear hD
   try simp only [aR]
   obtain ⟨q0,q1,q2,q3,q4⟩:=aE (HA6.out.st.blk.ext hE)
   exact Bc
  case mm2_1 =>
   refine zm [] (fun env W5 hE hS hD K hK=>?_)
   clear hD
   try simp only [aR]
   go_simp
   go_at_call 55
   refine zcl (rY _) fun W he5=>?_
   exact Cl
  case mm2_2 =>
   refine zm [] (fun env W5 hE hS hD K hK=>?_)
   clear hD
   try simp only [aR]
   refine iP ceP (.tmp 8) rfl X 0 rfl cc vc HVC.out (aC (HD6.out.ext hE)) ?_
   have hk:=hK.out (vc) _ (Ext.refl _) (rfl)
   try simp only [aR] at hk
   exact hk
  case mm2_4 =>
   refine zm [(1,some 69),(2,some 70)] (fun env W5 hE hS hD K hK=>?_)
   have h1:(fun v V=>v=.agg (ceA cA)) (env 1) W5:=hD (1,some 69) dr
   have h2:(fun v V=>v=vc) (env 2) W5:=hD (2,some 70) dr
   clear hD
   try simp only [aR] at hK ⊢
   generalize env 1=x1 at h1 hK ⊢
   generalize env 2=x2 at h2 hK ⊢
   subst h1
   subst h2
   go_simp
   go_at_call 56
   refine (HMV.out _).mono ?_
   rintro e W ⟨A5,n5,c5,rfl,hs5,he5⟩
   exact BS
  case mm2_5 =>
   refine zm [(0,some 68),(4,some 72)] (fun env W5 hE hS hD K hK=>?_)
   have h0:(fun v V=>v=.agg (ssA s)) (env 0) W5:=hD (0,some 68) dr
   have h4:(fun v V=>∃ A5 n5 c5,v=.slice A5 n5 c5∧SlG V A5 n5 c5 (dF cA cc pd)) (env 4) W5:=hD (4,some 72) dr
   clear hD
   try simp only [aR] at hK ⊢
   generalize env 0=x0 at h0 hK ⊢
   generalize env 4=x4 at h4 hK ⊢
   subst h0
   obtain ⟨A8,n8,c8,rfl,hs8⟩:=h4
   go_simp
   go_at_call 28
   refine (mK s A8 n8 c8 (dF cA cc pd) _ (HA6.out.st.own.ok.ext hE) hs8 ⟨nh,HBD.out⟩).mono ?_
   rintro e W ⟨s2,rfl,ho2,hv2,he5⟩
   have hk:=hK.out (.agg (ssA s2)) _ (he5) (⟨s2,rfl,bO ho2 (Nat.le_trans HA6.out.st.low.size hE.size),hv2⟩)
   try simp only [aR] at hk
   exact hk
 case hr2 =>
  intro env W5 hE hS hV
  have h0:(fun v V=>v=.agg (ssA s)) (env 0) W5:=hV (0,some 68) dr
  have h1:(fun v V=>v=.agg (ceA cA)) (env 1) W5:=hV (1,some 69) dr
  have h2:(fun v V=>v=vc) (env 2) W5:=hV (2,some 70) dr
  have h4:(fun v V=>∃ A5 n5 c5,v=.slice A5 n5 c5∧SlG V A5 n5 c5 (dF cA cc pd)) (env 4) W5:=hV (4,some 72) dr
  have h5:(fun v V=>∃ s2,v=.agg (ssA s2)∧OwnS V w.heap.size s2∧s2.V=mV s.V (dF cA cc pd)) (env 5) W5:=hV (5,some 73) dr
  clear hV
  try simp only [aR]
  generalize env 0=x0 at h0 ⊢
  generalize env 1=x1 at h1 ⊢
  generalize env 2=x2 at h2 ⊢
  generalize env 4=x4 at h4 ⊢
  generalize env 5=x5 at h5 ⊢
  subst h0
  subst h1
  subst h2
  obtain ⟨A8,n8,c8,rfl,hs8⟩:=h4
  obtain ⟨s2,rfl,ho2,hv2⟩:=h5
  clear hs8
  have aA:=hS
  refine za 6 (fun K hK=>?_)
  (refine bQ rfl (.tmp 1) (.tmp 73) dp w.heap.size (.agg (ssA s2)) s2 rfl dp dp (HA6.out.st.blk.ext hE) ?_;intro W9 h9)
  refine hK.out _ _ (trivial) (fun aA=>?_)
  clear hK K
  try simp only [bB]
  refine wpd ?_
  have HF:=zh (show CvB w W9 s0.V (some ⟨g,0,none⟩) m c L (k+1) s2 from by
   rw [← h9.out.1]
   have hb:=HA6.out.st.blk.ext hE
   have hrw:=bC HA6.out.row hE
   refine ⟨StB.start ho2 hb (HA6.out.st.low.trans hE) (Nat.le_refl _),(HA6.out.res.ext hE).grown (aB _ _ _ _) (fun e=>dq),hrw.kept (aB _ _ _ _) (.inr (Ne.symm (aL hrw hb ae))),?_⟩
   rw [hv2,yK HKL.out,HCC.out,← HVC5.out,HM1.out]
   exact HVS.out _)
  clear h9 ho2 hv2 hE hS aA HA6 HD6 HA5 HD5
  go_wp2_with fail
  go_roundw
  case rel=>exact ⟨k+1,s2,ar,hlt2,HF⟩
  case measure=>simp [intOf];omega):p:=h
end Go.Proofs.YtgmnmjeccfnmbaaGreat
