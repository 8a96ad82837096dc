import Derived.Test.YtgmnmjeccfnmbaaGreatE16
set_option maxRecDepth 100000
set_option maxHeartbeats 8000000
set_option linter.unusedVariables false
set_option linter.unusedSimpArgs false
namespace Go.Proofs.YtgmnmjeccfnmbaaGreat
theorem BW {p:Prop} (h:p:=by
 go_wp2_with (first | (with_reducible refine aD iQ rfl (.tmp 2) rfl w.heap.size 0 rfl x vx HVX.out rx ?_) | (with_reducible refine aD opP rfl (.tmp 3) rfl (w.heap.size+1) 0 rfl R vo HVO.out ro ?_) | fail "A")
 refine zcl HF.out fun w5 he5=>?_
 have HXX:=zh (HX.out.trans he5)
 have HE5:=zh he5
 obtain ⟨X,hX⟩:=gx (w5.heap.size)
 have HXS:=zh hX
 clear hX he5 rx ro
 go_upto_region 2 with ((with_reducible refine aU lkP rfl (.tmp 5) (.tmp 11) rfl lk0 rfl l vl HVL.out rfl rfl ?_);intro W6 h6)
 have HX6:=zh (show Ext w5 W6 from a8)
 have HB6:=zh (show Blk W6 X 81 (lkA l) from ba)
 have HP6:=zh ((HP.out.ext HE5.out).ext HX6.out)
 have HO6:=zh ((HO.out.ext HE5.out).ext HX6.out)
 have HXW:=zh (HXX.out.trans HX6.out)
 rw [HXS.out]
 clear h6
 go_wp2_with fail
 go_ret
 exact ⟨bm,HXW.out⟩):p:=h
theorem Bo {p:Prop} (h:p:=by
 go_wp2_with (first | (with_reducible refine aD iQ rfl (.tmp 2) rfl w.heap.size 0 rfl x vx HVX.out rx ?_) | (with_reducible refine aD opP rfl (.tmp 3) rfl (w.heap.size+1) 0 rfl R vo HVO.out ro ?_) | fail "A")
 refine zcl HF.out fun w5 he5=>?_
 have HXX:=zh (HX.out.trans he5)
 have HE5:=zh he5
 obtain ⟨X,hX⟩:=gx (w5.heap.size)
 have HXS:=zh hX
 clear hX he5 rx ro
 go_upto_region 2 with ((with_reducible refine aU lkP rfl (.tmp 5) (.tmp 11) rfl lk0 rfl l vl HVL.out rfl rfl ?_);intro W6 h6)
 have HX6:=zh (show Ext w5 W6 from a8)
 have HB6:=zh (show Blk W6 X 81 (lkA l) from ba)
 have HP6:=zh ((HP.out.ext HE5.out).ext HX6.out)
 have HO6:=zh ((HO.out.ext HE5.out).ext HX6.out)
 have HXW:=zh (HXX.out.trans HX6.out)
 rw [HXS.out]
 clear h6
 have rx:W6.rangeAt w.heap.size 0 (RowT.enc x):=aC HP6.out
 have ro:W6.rangeAt (w.heap.size+1) 0 (RowT.enc R):=aC HO6.out
 have p1:=HO6.out.cell 1
 have l1:=HB6.out.cell 16
 have l2:=HB6.out.cell 17
 go_wp2_with fail
 go_ret
 exact ⟨bm,HXW.out⟩):p:=h
theorem Ae {p:Prop} (h:p:=by
 go_wp2_with (first | (with_reducible refine aD iQ rfl (.tmp 2) rfl w.heap.size 0 rfl x vx HVX.out rx ?_) | (with_reducible refine aD opP rfl (.tmp 3) rfl (w.heap.size+1) 0 rfl R vo HVO.out ro ?_) | fail "A")
 refine zcl HF.out fun w5 he5=>?_
 have HXX:=zh (HX.out.trans he5)
 have HE5:=zh he5
 obtain ⟨X,hX⟩:=gx (w5.heap.size)
 have HXS:=zh hX
 clear hX he5 rx ro
 go_upto_region 2 with ((with_reducible refine aU lkP rfl (.tmp 5) (.tmp 11) rfl lk0 rfl l vl HVL.out rfl rfl ?_);intro W6 h6)
 have HX6:=zh (show Ext w5 W6 from a8)
 have HB6:=zh (show Blk W6 X 81 (lkA l) from ba)
 have HP6:=zh ((HP.out.ext HE5.out).ext HX6.out)
 have HO6:=zh ((HO.out.ext HE5.out).ext HX6.out)
 have HXW:=zh (HXX.out.trans HX6.out)
 rw [HXS.out]
 clear h6
 have rx:W6.rangeAt w.heap.size 0 (RowT.enc x):=aC HP6.out
 have ro:W6.rangeAt (w.heap.size+1) 0 (RowT.enc R):=aC HO6.out
 have p1:=HO6.out.cell 1
 have l1:=HB6.out.cell 16
 have l2:=HB6.out.cell 17
 have HEX:=zh (jN x R W6 (HS.out.ext HXW.out))
 rw [e2,HVX.out,HVO.out] at HEX
 go_wp2_with (first | (with_reducible refine aX iQ ay (.tmp 2) rfl w.heap.size 0 rfl x vx HVX.out rx ?_) | (with_reducible refine aX opP ay (.tmp 3) rfl (w.heap.size+1) 0 rfl R vo HVO.out ro ?_) | fail "A")
 refine zcl HEX.out fun w7 he7=>?_
 have HX7:=zh (HXW.out.trans he7)
 have HP7:=zh (HP6.out.ext he7)
 have HO7:=zh (HO6.out.ext he7)
 have HB7:=zh (HB6.out.ext he7)
 have a1:=HP7.out.cell 13
 have a2:=HB7.out.cell 18
 clear he7 rx ro p1 l1 l2 HEX
 go_wp2_with fail
 go_ret
 exact ⟨bm,HX7.out⟩):p:=h
theorem tr {p:Prop} (h:p:=by
 clear hf h1 h2
 go_enter func67,ntmps67
 exact Ae):p:=h
theorem tl {p:Prop} (h:p:=by
 clear hf h1 h2
 go_enter func66,ntmps66
 go_wp2_with (first | (with_reducible refine aD iQ rfl (.tmp 2) rfl w.heap.size 0 rfl x vx HVX.out rx ?_) | (with_reducible refine aD opP rfl (.tmp 3) rfl (w.heap.size+1) 0 rfl R vo HVO.out ro ?_) | fail "A")
 refine zcl HF.out fun w5 he5=>?_
 have HXX:=zh (HX.out.trans he5)
 have HE5:=zh he5
 obtain ⟨X,hX⟩:=gx (w5.heap.size)
 have HXS:=zh hX
 clear hX he5 rx ro
 go_upto_region 2 with ((with_reducible refine aU lkP rfl (.tmp 5) (.tmp 11) rfl lk0 rfl l vl HVL.out rfl rfl ?_);intro W6 h6)
 have HX6:=zh (show Ext w5 W6 from a8)
 have HB6:=zh (show Blk W6 X 81 (lkA l) from ba)
 have HP6:=zh ((HP.out.ext HE5.out).ext HX6.out)
 have HO6:=zh ((HO.out.ext HE5.out).ext HX6.out)
 have HXW:=zh (HXX.out.trans HX6.out)
 rw [HXS.out]
 clear h6
 have rx:W6.rangeAt w.heap.size 0 (RowT.enc x):=aC HP6.out
 have ro:W6.rangeAt (w.heap.size+1) 0 (RowT.enc R):=aC HO6.out
 have p1:=HO6.out.cell 1
 have l1:=HB6.out.cell 16
 have l2:=HB6.out.cell 17
 have HEX:=zh (jN x R W6 (HS.out.ext HXW.out))
 rw [e2,HVX.out,HVO.out] at HEX
 go_wp2_with (first | (with_reducible refine aX iQ ay (.tmp 2) rfl w.heap.size 0 rfl x vx HVX.out rx ?_) | (with_reducible refine aX opP ay (.tmp 3) rfl (w.heap.size+1) 0 rfl R vo HVO.out ro ?_) | fail "A")
 refine zcl HEX.out fun w7 he7=>?_
 have HX7:=zh (HXW.out.trans he7)
 have HP7:=zh (HP6.out.ext he7)
 have HO7:=zh (HO6.out.ext he7)
 have HB7:=zh (HB6.out.ext he7)
 have a1:=HP7.out.cell 13
 have a2:=HB7.out.cell 18
 clear he7 rx ro p1 l1 l2 HEX
 go_upto_region 6 with fail
 clear a1 a2
 refine wp_region_held_drew (S:=fun V=>Blk V w.heap.size 70 (stpA x)∧Blk V (w.heap.size+1) 52 (opA R)∧Blk V X 81 (lkA l)∧Ext w V) ab (⟨HP7.out.drew,HO7.out.drew,HB7.out.drew,HX7.out.trans ((Ext.refl _).drew')⟩) (fun aA=>?_)
 refine zz0 [0,1,3] ?_;repeat first | refine zz1 ?_ (hy:=iy) | refine zz2 ?_ | refine zz9 ?_
 refine zu 4 (v:=.agg (nmc l.hs)) aA ?_ (hy:=ir)
 refine zzj (VE 2 (.agg (nmc (cL R.pre))) VN) [(2,some 32)] 2 (fun V V' h e=>⟨h.1.ext e,h.2.1.ext e,h.2.2.1.ext e,h.2.2.2.trans e⟩) (ve VN.ext) (zzc ?_ zzn) ?_
 ·exact Co
 intro env W hE hS hV
 obtain ⟨h2,-⟩:=zzV hV
 clear hV
 simp only [aR,h2]
 clear h2
 have aA:=hS
 refine zu 5 (v:=.bool false) aA ?_ (hy:=cn)
 exact CB):p:=h
open Go.Proofs.Tryz
section
open Go.RowKit
attribute [local go_sem ↓] Go.wp_at_zero Go.wp_at_succ
section
variable {α:Type} [RowT α] {ty:TypeId} {arr:α→Array Value} {o:Oper} {a:Act} {w:World} {ops:Array Oper} {rest:List Oper} {Q:Exit→Act→World→Prop}
theorem aX (h:RowP α ty arr) (hw:Region.wanted o (yielded ops a.tmps)=true) (x:Operand) (ho:o.op=.load ty x) (b of:Nat) (hx:a.eval x=.pointer (some ⟨b,of,none⟩)) (R:α) (v:Value) (hv:Value.agg (arr R)=v) (hc:w.rangeAt b of (RowT.enc R))
  (hn:wpList prog ops Q rest (a.put o.dst v) w):wpList prog ops Q (o :: rest) a w:=by
 obtain ⟨d,h1,h2⟩:=h.und
 refine wpList_step fun K hK=>?_
 rw [if_pos hw]
 refine wp_load_mid ty x ho b of hx (RowT.enc R) d hc h1 h2 mx (hK _ _ ?_)
 rw [h.eq,hv];exact hn
end
def tD (S:StV) (ht:Int) (R:OpR):Int:=match fdK S.K R.lk with
 | none=>6
 | some l=>if R.tO ≠ l.ow ∨ R.am ≠ cX S.C (bZ R.lk) then 7 else if ht < l.ul then 102 else 0
def qV (S:StV) (ht:Int) (R:OpR):Int:=match fdK S.K R.lk with
 | none=>6
 | some l=>if R.tO ≠ l.tO ∨ R.am ≠ cX S.C (bZ R.lk) then 7 else if cL R.pre ≠ l.hs then 12 else if l.ul≤ht then 102 else 0
theorem aBF {w:World} {g:Nat} {t:TypeId} {l:LkR} (h:Blk w g t (lkA l)):w.rangeAt g 8 (nmL l.hs):=by
 have:=aQ (k:=8) (bG (k:=8) (aC h))
 rw [show nmL l.hs=bcs (nmb l.hs) from rfl,eJ]
 rw [Nat.zero_add] at this
 exact this
theorem aEv (R:OpR) (w:World) (h:R.ok w) (hn:R.n1≤140737488355328):Calls prog 126 #[.slice R.A1 R.n1 R.c1] w fun e w'=>e=.returned (.agg (nmc (cL R.pre)))∧Ext w w' :=
 aFP _ _ _ _ _ h.pre hn
theorem aEM (x:StpR) (R:OpR) (w:World) (hs:x.s.ok w):Calls prog 67 #[.agg (stpA x),.agg (opA R)] w fun e w'=>e=.returned (.int .i64 (tD x.s.V x.ht R))∧Ext w w':=by
 have HS:=zh hs
 obtain ⟨W,hW⟩:=gx ((w.alloc (.cells (stpA x) 70)).alloc (.cells (opA R) 52))
 have HP:=zh (show Blk W w.heap.size 70 (stpA x) from dj)
 have HO:=zh (show Blk W (w.heap.size+1) 52 (opA R) from ag)
 have HX:=zh (show Ext w W from ai)
 have HF:=zh (rK x R W (HS.out.ext HX.out))
 have rx:W.rangeAt w.heap.size 0 (RowT.enc x):=aC HP.out
 have ro:W.rangeAt (w.heap.size+1) 0 (RowT.enc R):=aC HO.out
 obtain ⟨vx,hvx⟩:=gx (Value.agg (stpA x))
 obtain ⟨vo,hvo⟩:=gx (Value.agg (opA R))
 have HVX:=zh hvx
 have HVO:=zh hvo
 rw [hvx,hvo] at HF
 clear hs hvx hvo
 cases hf:fdK x.s.K R.lk with
 | none =>
  rw [hf] at HF
  obtain ⟨l,hl⟩:=gx (lkO none)
  obtain ⟨vl,hvl⟩:=gx (Value.agg (lkA l))
  have HVL:=zh hvl
  have HF:=zh (show Calls prog 124 #[vx,vo] W (fun e w'=>e=.returned (.tuple #[.agg (lkA (lkO none)),.int .i64 6])∧Ext W w') from HF.out)
  rw [hl,hvl] at HF
  have HSP:=zh (show tD x.s.V x.ht R=6 from by unfold tD;rw [show fdK x.s.V.K R.lk=none from hf])
  clear hl hvl hf
  go_enter func67,ntmps67
  exact BW
 | some l =>
  rw [hf] at HF
  have HF:=zh (show Calls prog 124 #[vx,vo] W (fun e w'=>e=.returned (.tuple #[.agg (lkA l),.int .i64 0])∧Ext W w') from HF.out)
  obtain ⟨vl,hvl⟩:=gx (Value.agg (lkA l))
  rw [hvl] at HF
  have HVL:=zh hvl
  clear hvl
  by_cases h1:R.tO=l.ow
  ·have b1 : (R.tO != l.ow) = false := s8
   by_cases h2:R.am=cX x.s.C (bZ R.lk)
   ·have e2 : (R.am == cX x.s.C (bZ R.lk)) = true := beq_iff_eq.2 h2
    by_cases h3:x.ht < l.ul
    ·have HSP := zh (show tD x.s.V x.ht R = 102 from by unfold tD; rw [show fdK x.s.V.K R.lk = some l from hf]; simp only; rw [if_neg (fun h => h.elim (fun h => h h1) (fun h => h h2)), if_pos h3])
     exact tr
    have HSP:=zh (show tD x.s.V x.ht R=0 from by unfold tD;rw [show fdK x.s.V.K R.lk=some l from hf];simp only;rw [if_neg (fun h=>h.elim (fun h=>h h1) (fun h=>h h2)),if_neg h3])
    exact tr
   have e2:(R.am == cX x.s.C (bZ R.lk))=false:=beq_false_of_ne h2
   have HSP:=zh (show tD x.s.V x.ht R=7 from by unfold tD;rw [show fdK x.s.V.K R.lk=some l from hf];simp only;rw [if_pos (.inr h2)])
   exact tr
  have b1:(R.tO != l.ow)=true:=bne_iff_ne.2 h1
  have HSP:=zh (show tD x.s.V x.ht R=7 from by unfold tD;rw [show fdK x.s.V.K R.lk=some l from hf];simp only;rw [if_pos (.inl h1)])
  clear hf h1
  go_enter func67,ntmps67
  exact Bo
theorem aHH (x:StpR) (R:OpR) (w:World) (hs:x.s.ok w) (hro:R.ok w) (hpn:R.n1≤140737488355328):Calls prog 66 #[.agg (stpA x),.agg (opA R)] w fun e w'=>e=.returned (.int .i64 (qV x.s.V x.ht R))∧Ext w w':=by
 have HS:=zh hs
 have HRO:=zh hro
 have HPN:=zh hpn
 obtain ⟨W,hW⟩:=gx ((w.alloc (.cells (stpA x) 70)).alloc (.cells (opA R) 52))
 have HP:=zh (show Blk W w.heap.size 70 (stpA x) from dj)
 have HO:=zh (show Blk W (w.heap.size+1) 52 (opA R) from ag)
 have HX:=zh (show Ext w W from ai)
 have HF:=zh (rK x R W (HS.out.ext HX.out))
 have rx:W.rangeAt w.heap.size 0 (RowT.enc x):=aC HP.out
 have ro:W.rangeAt (w.heap.size+1) 0 (RowT.enc R):=aC HO.out
 obtain ⟨vx,hvx⟩:=gx (Value.agg (stpA x))
 obtain ⟨vo,hvo⟩:=gx (Value.agg (opA R))
 have HVX:=zh hvx
 have HVO:=zh hvo
 rw [hvx,hvo] at HF
 clear hs hro hpn hvx hvo
 cases hf:fdK x.s.K R.lk with
 | none =>
  rw [hf] at HF
  obtain ⟨l,hl⟩:=gx (lkO none)
  obtain ⟨vl,hvl⟩:=gx (Value.agg (lkA l))
  have HVL:=zh hvl
  have HF:=zh (show Calls prog 124 #[vx,vo] W (fun e w'=>e=.returned (.tuple #[.agg (lkA (lkO none)),.int .i64 6])∧Ext W w') from HF.out)
  rw [hl,hvl] at HF
  have HSP:=zh (show qV x.s.V x.ht R=6 from by unfold qV;rw [show fdK x.s.V.K R.lk=none from hf])
  clear hl hvl hf
  go_enter func66,ntmps66
  exact BW
 | some l =>
  rw [hf] at HF
  have HF:=zh (show Calls prog 124 #[vx,vo] W (fun e w'=>e=.returned (.tuple #[.agg (lkA l),.int .i64 0])∧Ext W w') from HF.out)
  obtain ⟨vl,hvl⟩:=gx (Value.agg (lkA l))
  rw [hvl] at HF
  have HVL:=zh hvl
  clear hvl
  by_cases h1:R.tO=l.tO
  ·have b1 : (R.tO != l.tO) = false := s8
   by_cases h2:R.am=cX x.s.C (bZ R.lk)
   ·have e2 : (R.am == cX x.s.C (bZ R.lk)) = true := beq_iff_eq.2 h2
    have HSUM:=zh (fun (V:World) (e:Ext w V)=>aEv R V (HRO.out.ext e) HPN.out)
    by_cases h4:cL R.pre=l.hs
    ·have HNE := zh (fun W => rP (cL R.pre) l.hs W)
     obtain ⟨b3,hb3⟩:∃ b3:Bool,(!decide (cL R.pre=l.hs))=b3:=⟨_,rfl⟩
     rw [hb3] at HNE
     obtain rfl:b3=false:=by rw [← hb3,decide_eq_true h4];rfl
     clear hb3
     by_cases h3:l.ul≤x.ht
     ·have HSP := zh (show qV x.s.V x.ht R = 102 from by unfold qV; rw [show fdK x.s.V.K R.lk = some l from hf]; simp only; rw [if_neg (fun h => h.elim (fun h => h h1) (fun h => h h2)), if_neg (fun h => h h4), if_pos h3])
      exact tl
     have HSP:=zh (show qV x.s.V x.ht R=0 from by unfold qV;rw [show fdK x.s.V.K R.lk=some l from hf];simp only;rw [if_neg (fun h=>h.elim (fun h=>h h1) (fun h=>h h2)),if_neg (fun h=>h h4),if_neg h3])
     exact tl
    have HNE:=zh (fun W=>rP (cL R.pre) l.hs W)
    obtain ⟨b3,hb3⟩:∃ b3:Bool,(!decide (cL R.pre=l.hs))=b3:=⟨_,rfl⟩
    rw [hb3] at HNE
    obtain rfl:b3=true:=by rw [← hb3,decide_eq_false h4];rfl
    clear hb3
    have h3:True:=trivial
    by_cases h5:True
    ·have HSP := zh (show qV x.s.V x.ht R = 12 from by unfold qV; rw [show fdK x.s.V.K R.lk = some l from hf]; simp only; rw [if_neg (fun h => h.elim (fun h => h h1) (fun h => h h2)), if_pos h4])
     clear hf h1 h2
     go_enter func66,ntmps66
     go_wp2_with (first | (with_reducible refine aD iQ rfl (.tmp 2) rfl w.heap.size 0 rfl x vx HVX.out rx ?_) | (with_reducible refine aD opP rfl (.tmp 3) rfl (w.heap.size+1) 0 rfl R vo HVO.out ro ?_) | fail "A")
     refine zcl HF.out fun w5 he5=>?_
     have HXX:=zh (HX.out.trans he5)
     have HE5:=zh he5
     obtain ⟨X,hX⟩:=gx (w5.heap.size)
     have HXS:=zh hX
     clear hX he5 rx ro
     go_upto_region 2 with ((with_reducible refine aU lkP rfl (.tmp 5) (.tmp 11) rfl lk0 rfl l vl HVL.out rfl rfl ?_);intro W6 h6)
     have HX6:=zh (show Ext w5 W6 from a8)
     have HB6:=zh (show Blk W6 X 81 (lkA l) from ba)
     have HP6:=zh ((HP.out.ext HE5.out).ext HX6.out)
     have HO6:=zh ((HO.out.ext HE5.out).ext HX6.out)
     have HXW:=zh (HXX.out.trans HX6.out)
     rw [HXS.out]
     clear h6
     have rx:W6.rangeAt w.heap.size 0 (RowT.enc x):=aC HP6.out
     have ro:W6.rangeAt (w.heap.size+1) 0 (RowT.enc R):=aC HO6.out
     have p1:=HO6.out.cell 1
     have l1:=HB6.out.cell 16
     have l2:=HB6.out.cell 17
     have HEX:=zh (jN x R W6 (HS.out.ext HXW.out))
     rw [e2,HVX.out,HVO.out] at HEX
     go_wp2_with (first | (with_reducible refine aX iQ ay (.tmp 2) rfl w.heap.size 0 rfl x vx HVX.out rx ?_) | (with_reducible refine aX opP ay (.tmp 3) rfl (w.heap.size+1) 0 rfl R vo HVO.out ro ?_) | fail "A")
     refine zcl HEX.out fun w7 he7=>?_
     have HX7:=zh (HXW.out.trans he7)
     have HP7:=zh (HP6.out.ext he7)
     have HO7:=zh (HO6.out.ext he7)
     have HB7:=zh (HB6.out.ext he7)
     have a1:=HP7.out.cell 13
     have a2:=HB7.out.cell 18
     clear he7 rx ro p1 l1 l2 HEX
     go_upto_region 6 with fail
     clear a1 a2
     refine wp_region_held_drew (S:=fun V=>Blk V w.heap.size 70 (stpA x)∧Blk V (w.heap.size+1) 52 (opA R)∧Blk V X 81 (lkA l)∧Ext w V) ab (⟨HP7.out.drew,HO7.out.drew,HB7.out.drew,HX7.out.trans ((Ext.refl _).drew')⟩) (fun aA=>?_)
     refine zz0 [0,1,3] ?_;repeat first | refine zz1 ?_ (hy:=iy) | refine zz2 ?_ | refine zz9 ?_
     refine zu 4 (v:=.agg (nmc l.hs)) aA ?_ (hy:=ir)
     refine zzj (VE 2 (.agg (nmc (cL R.pre))) VN) [(2,some 32)] 2 (fun V V' h e=>⟨h.1.ext e,h.2.1.ext e,h.2.2.1.ext e,h.2.2.2.trans e⟩) (ve VN.ext) (zzc ?_ zzn) ?_
     ·exact Co
     intro env W hE hS hV
     obtain ⟨h2,-⟩:=zzV hV
     clear hV
     simp only [aR,h2]
     clear h2
     have aA:=hS
     refine zu 5 (v:=.bool true) aA ?_ (hy:=cn)
     exact CB
    exact absurd trivial h5
   have e2:(R.am == cX x.s.C (bZ R.lk))=false:=beq_false_of_ne h2
   have HSP:=zh (show qV x.s.V x.ht R=7 from by unfold qV;rw [show fdK x.s.V.K R.lk=some l from hf];simp only;rw [if_pos (.inr h2)])
   clear hf h1 h2
   go_enter func66,ntmps66
   exact Ae
  have b1:(R.tO != l.tO)=true:=bne_iff_ne.2 h1
  have HSP:=zh (show qV x.s.V x.ht R=7 from by unfold qV;rw [show fdK x.s.V.K R.lk=some l from hf];simp only;rw [if_pos (.inl h1)])
  clear hf h1
  go_enter func66,ntmps66
  exact Bo
theorem aHM (N Z:Int) (B1:Option Addr) (m1 d1:Nat) (B2:Option Addr) (m2 d2:Nat) (B3:Option Addr) (m3 d3:Nat) (PN:List UInt64) (BL:List Int) (s:StR) (T:TxR) (w:World)
    (hs:s.ok w) (hT:T.ok w) (hN:SlG w B2 m2 d2 PN) (hB:SlZ w B3 m3 d3 BL) (hm1:m1≤9223372036854775807) :
    Calls prog 24 #[.agg (genC N Z B1 m1 d1 B2 m2 d2 B3 m3 d3),.agg (ssA s),.agg (tA T)] w fun e w'=>e=.returned (.int .i64 (lM (eP N Z m1 m2 m3 BL) m2 (vSg (aS PN T.ac.toNat) T) s.V T.ac T.sq T.L))∧Ext w w':=by
  obtain ⟨ac,sq,A,n,c,S,m,d,L,sig⟩:=T
  have HS:=zh hs
  have HOPS:=zh hT.ops
  have HT:=zh hT
  have HZ:=zh hB
  have HNN:=zh hN
  have hm2:m2≤9223372036854775807:=Nat.le_trans hN.le hN.cap
  have hq2:s.n2≤9223372036854775807:=Nat.le_trans hs.s2.le hs.s2.cap
  have HQL:=zh (show s.V.Q.length=s.n2 from hs.s2.len)
  show Calls _ _ _ _ fun e w'=>e=.returned (.int .i64 (lM (eP N Z m1 m2 m3 BL) m2 (vSg (aS PN ac.toNat) ⟨ac,sq,A,n,c,S,m,d,L,sig⟩) s.V ac sq L))∧Ext w w'
  have HV:=zh (fun (V:World) (e:Ext w V)=>fI ac sq A n c L V (HOPS.out.ext e))
  have HG:=zh (fun (V:World) (e:Ext w V)=>wI N Z B1 m1 d1 B2 m2 d2 B3 m3 d3 BL V (HZ.out.ext e) hm1 hm2)
  obtain ⟨W,hW⟩:=gx (((w.alloc (.cells (genC N Z B1 m1 d1 B2 m2 d2 B3 m3 d3) 25)).alloc (.cells (ssA s) 30)).alloc (.cells (tA ⟨ac,sq,A,n,c,S,m,d,L,sig⟩) 36))
  have HB:=zh (show Blk W w.heap.size 25 (genC N Z B1 m1 d1 B2 m2 d2 B3 m3 d3) from by rw [← hW];exact ((Blk.new w 25 (genC N Z B1 m1 d1 B2 m2 d2 B3 m3 d3)).alloc _).alloc _)
  have HC:=zh (show Blk W (w.heap.size+1) 30 (ssA s) from aw)
  have HD:=zh (show Blk W (w.heap.size+2) 36 (tA ⟨ac,sq,A,n,c,S,m,d,L,sig⟩) from ag)
  have HX:=zh (show Ext w W from bc)
  have t0:=HD.out.cell 0
  have t1:=HD.out.cell 1
  have t2:=HD.out.cell 2
  clear hs hT hN hB
  cases hv:vTx ac sq L with
  | false =>
    have HSP:=zh (show lM (eP N Z m1 m2 m3 BL) m2 (vSg (aS PN ac.toNat) ⟨ac,sq,A,n,c,S,m,d,L,sig⟩) s.V ac sq L=1 from if_pos (.inl hv))
    rw [hv] at HV
    have HV:=zh (show ∀ (V:World),Ext w V→Calls prog 49 #[.agg (txA ac sq A n c)] V (fun e w'=>e=.returned (.int .i64 1)∧Ext V w') from HV.out)
    clear hv
    go_enter func24,ntmps24
    go_wp2_with fail
    refine zcl (HV.out _ HX.out) fun w5 he5=>?_
    have HX5:=zh (HX.out.trans he5)
    clear he5 t0 t1 t2
    go_wp2_with fail
    go_ret
    exact ⟨bm,HX5.out⟩
  | true =>
    rw [hv] at HV
    have HV:=zh (show ∀ (V:World),Ext w V→Calls prog 49 #[.agg (txA ac sq A n c)] V (fun e w'=>e=.returned (.int .i64 0)∧Ext V w') from HV.out)
    obtain ⟨⟨a1,a2,a3,a4,a5,a6⟩,-⟩:=dX hv
    obtain ⟨a,rfl⟩:∃ a:Nat,ac=(a:Int):=⟨ac.toNat,aa⟩
    have HVT:=zh hv
    clear hv
    cases hg:eP N Z m1 m2 m3 BL with
    | false =>
      have HSP:=zh (show lM false m2 (vSg (aS PN (a:Int).toNat) ⟨(a:Int),sq,A,n,c,S,m,d,L,sig⟩) s.V (a:Int) sq L=1 from if_pos (.inr (.inl rfl)))
      rw [hg] at HG
      have HG:=zh (show ∀ (V:World),Ext w V→Calls prog 60 #[.agg (genC N Z B1 m1 d1 B2 m2 d2 B3 m3 d3)] V (fun e w'=>e=.returned (.int .i64 1)∧Ext V w') from HG.out)
      clear hg
      go_enter func24,ntmps24
      go_wp2_with fail
      refine zcl (HV.out _ HX.out) fun w5 he5=>?_
      have HX5:=zh (HX.out.trans he5)
      have HB5:=zh (HB.out.ext he5)
      have g0:=HB5.out.cell 0
      have g1:=HB5.out.cell 1
      have g2:=HB5.out.cell 2
      have g3:=HB5.out.cell 3
      have g4:=HB5.out.cell 4
      clear he5 t0 t1 t2
      go_wp2_with fail
      refine zcl (HG.out _ HX5.out) fun w6 he6=>?_
      have HX6:=zh (HX5.out.trans he6)
      clear he6 g0 g1 g2 g3 g4
      go_wp2_with fail
      go_ret
      exact ⟨bm,HX6.out⟩
    | true =>
      rw [hg] at HG
      have HG:=zh (show ∀ (V:World),Ext w V→Calls prog 60 #[.agg (genC N Z B1 m1 d1 B2 m2 d2 B3 m3 d3)] V (fun e w'=>e=.returned (.int .i64 0)∧Ext V w') from HG.out)
      clear hg
      by_cases h1:m2≤a
      · have HSP := zh (show lM true m2 (vSg (aS PN (a : Int).toNat) ⟨(a : Int), sq, A, n, c, S, m, d, L, sig⟩) s.V (a : Int) sq L = 1 from if_pos (.inr (.inr (.inl aa))))
        have i1:(m2:Int)≤(a:Int):=aa
        exact uh
      have i1:¬ (m2:Int)≤(a:Int):=aa
      by_cases h2:s.n2=m2
      · subst h2
        obtain ⟨gb,go,rfl,hrow,-⟩:=HNN.out.at aa
        obtain ⟨qb,qo,hqa,hqr,-⟩:=HS.out.s2.at aa
        have HQB:=zh hqa
        obtain ⟨pk,hpk⟩:=gx (aS PN a)
        have HPK:=zh (fun (V:World) (e:Ext w V)=>show V.rangeAt gb (go+a * 8) (RowT.enc pk) from by
          rw [← hpk]
          obtain ⟨b2,o2,e2,hr2,-⟩:=(HNN.out.ext e).at aa
          injection e2 with e3
          injection e3 with e4 e5
          subst e4
          subst e5
          exact cN (k:=a) hr2 (by rw [HNN.out.len];omega))
        have HQC:=zh (fun (V:World) (e:Ext w V)=>show V.cell? ⟨qb,qo+a,none⟩=some (.int .i64 (aS s.Q a)) from by
          obtain ⟨b2,o2,e2,hr2,-⟩:=(HS.out.ext e).s2.at aa
          rw [HQB.out] at e2
          injection e2 with e3
          injection e3 with e4 e5
          subst e4
          subst e5
          have h5:V.rangeAt qb (qo+a * 1) (RowT.enc (aS s.Q a)):=cN hr2 (by rw [HS.out.s2.len];omega)
          have h7:=h5 0 _ rfl
          rwa [show qo+a * 1+0=qo+a from aa] at h7)
        have HVER:=zh (fun (V:World) (e:Ext w V)=>aBa pk ⟨(a:Int),sq,A,n,c,S,m,d,L,sig⟩ V (HT.out.ext e))
        have HAPP:=zh (fun (V:World) (e:Ext w V)=>gU s (cG (a:Int) sq L) V (HS.out.ext e))
        obtain ⟨sg,hsg⟩:=gx (vSg pk ⟨(a:Int),sq,A,n,c,S,m,d,L,sig⟩)
        obtain ⟨ap,hap⟩:=gx (decide (cG (a:Int) sq L ∈ s.P))
        rw [hsg] at HVER
        rw [hap] at HAPP
        have HSG:=zh hsg
        have HAP:=zh hap
        have HBE:=zh (show lM true s.n2 (vSg (aS PN a) ⟨(a:Int),sq,A,n,c,S,m,d,L,sig⟩) s.V (a:Int) sq L=if sg=false then 8 else if ap=true then 7 else if sq ≠ aS s.Q a then 101 else 0 from by
          rw [hpk,hsg]
          unfold lM
          rw [if_neg (by rintro (h | h | h | h); · rw [HVT.out] at h; cases h
                         · cases h
                         · omega
                         exact h HQL.out)]
          rw [← hap]
          simp only [decide_eq_true_eq]
          rfl)
        have i2:(a:Int) < (s.n2:Int):=aa
        have i3:(0:Int)≤(a:Int):=aa
        clear hsg hap hpk hrow hqa hqr
        go_enter func24,ntmps24
        go_wp2_with fail
        refine zcl (HV.out _ HX.out) fun w5 he5=>?_
        have HX5:=zh (HX.out.trans he5)
        have HB5:=zh (HB.out.ext he5)
        have HC5:=zh (HC.out.ext he5)
        have HD5:=zh (HD.out.ext he5)
        have g0:=HB5.out.cell 0
        have g1:=HB5.out.cell 1
        have g2:=HB5.out.cell 2
        have g3:=HB5.out.cell 3
        have g4:=HB5.out.cell 4
        clear he5 t0 t1 t2
        go_wp2_with fail
        refine zcl (HG.out _ HX5.out) fun w6 he6=>?_
        have HX6:=zh (HX5.out.trans he6)
        have HB6:=zh (HB5.out.ext he6)
        have HC6:=zh (HC5.out.ext he6)
        have HD6:=zh (HD5.out.ext he6)
        have g3:=HB6.out.cell 3
        obtain ⟨q0,q1,q2,q3,q4⟩:=aE HC6.out
        clear he6 g0 g1 g2 g4 HB5 HC5 HD5 HX5
        go_upto_region 4 with fail
        clear g3 q0 q1 q2 q3 q4
        refine wp_region_held_drew (S:=fun V=>Blk V w.heap.size 25 (genC N Z B1 m1 d1 (some ⟨gb,go,none⟩) s.n2 d2 B3 m3 d3)∧Blk V (w.heap.size+1) 30 (ssA s)∧Blk V (w.heap.size+2) 36 (tA ⟨(a:Int),sq,A,n,c,S,m,d,L,sig⟩)∧Ext w V) ab (⟨HB6.out.drew,HC6.out.drew,HD6.out.drew,HX6.out.trans ((Ext.refl _).drew')⟩) (fun aA=>?_)
        refine zz0 [0,1,2,3] ?_;repeat first | refine zz1 ?_ (hy:=bp) | refine zz2 ?_ | refine zz9 ?_
        refine zu 4 (v:=.agg (nmc pk)) aA ?_ (hy:=by exact aG nmP dp (.tmp 41) rfl gb (go+a * 8) rfl pk _ rfl (fun V h=>HPK.out V h.2.2.2))
        refine zz0 [5] ?_;repeat first | refine zz1 ?_ (hy:=bp) | refine zz2 ?_ | refine zz9 ?_
        refine zzj (VE 6 (.bool sg) VN) [(6,some 44)] 2 (fun V V' h e=>⟨h.1.ext e,h.2.1.ext e,h.2.2.1.ext e,h.2.2.2.trans e⟩) (ve VN.ext) (zzc ?_ zzn) ?_
        · refine zzp fun W hE hS K hK => ?_
          go_simp
          go_at_call 61
          refine zcl (HVER.out _ hS.2.2.2) fun w5 he5=>?_
          exact zzK (hK.out (.bool sg) _ (he5) (rfl))
        intro env W hE hS hV
        obtain ⟨h6,-⟩:=zzV hV
        clear hV
        simp only [aR,h6]
        clear h6
        have aA:=hS
        refine zzr [7,8] ?_
        refine wpd ?_
        have HX7:=zh aA.2.2.2
        have HB7:=zh aA.1
        have HC7:=zh aA.2.1
        have HD7:=zh aA.2.2.1
        clear aA hE hS HB6 HC6 HD6 HX6
        cases sg
        · go_wp2_with fail
          go_ret
          exact ⟨by first | (rw [HBE.out];rfl) | (rw [Int.toNat_natCast,HBE.out];rfl),HX7.out⟩
        go_upto_region 6 with fail
        refine wp_region_held_drew (S:=fun V=>Blk V w.heap.size 25 (genC N Z B1 m1 d1 (some ⟨gb,go,none⟩) s.n2 d2 B3 m3 d3)∧Blk V (w.heap.size+1) 30 (ssA s)∧Blk V (w.heap.size+2) 36 (tA ⟨(a:Int),sq,A,n,c,S,m,d,L,sig⟩)∧Ext w V) ab (⟨HB7.out.drew,HC7.out.drew,HD7.out.drew,HX7.out.trans ((Ext.refl _).drew')⟩) (fun aA=>?_)
        refine zz0 [0,1,2] ?_;repeat first | refine zz1 ?_ (hy:=bp) | refine zz2 ?_ | refine zz9 ?_
        refine cC (VV 3 (fun v V=>v=.agg (nmc (cG (a:Int) sq L))) (VV 4 (fun v V=>v=.bool ap) (VN))) [(3,some 50),(4,some 51)] (fuel:=1) ab ab (fun V V' h e=>⟨h.1.ext e,h.2.1.ext e,h.2.2.1.ext e,h.2.2.2.trans e⟩) (VV.ext (fun v w w' h e=>h) (VV.ext (fun v w w' h e=>h) (VN.ext))) aA ?hm2 rfl ?hr2
        case hm2 =>
          refine Members.cons ?mm2_3 (Members.cons ?mm2_4 (Members.nil _))
          case mm2_3 =>
            refine zm [] (fun env W hE hS hD K hK=>?_)
            clear hD
            try simp only [aR]
            go_simp
            go_at_call 31
            refine zcl (fV (a:Int) sq A n c L _ (HOPS.out.ext hS.2.2.2)) fun w5 he5=>?_
            exact Ct
          case mm2_4 =>
            refine zm [(3,some 50)] (fun env W hE hS hD K hK=>?_)
            have h3:(fun v V=>v=.agg (nmc (cG (a:Int) sq L))) (env 3) W:=hD (3,some 50) dr
            clear hD
            try simp only [aR] at hK ⊢
            generalize env 3=x3 at h3 hK ⊢
            subst h3
            go_simp
            go_at_call 50
            refine zcl (HAPP.out _ hS.2.2.2) fun w5 he5=>?_
            have hk:=hK.out (.bool ap) _ (he5) (rfl)
            try simp only [aR] at hk
            exact hk
        case hr2 =>
          intro env W hE hS hV
          have h3:(fun v V=>v=.agg (nmc (cG (a:Int) sq L))) (env 3) W:=hV (3,some 50) dr
          have h4:(fun v V=>v=.bool ap) (env 4) W:=hV (4,some 51) dr
          clear hV
          try simp only [aR]
          generalize env 3=x3 at h3 ⊢
          generalize env 4=x4 at h4 ⊢
          subst h3
          subst h4
          have aA:=hS
          refine zt 5 aA ?_
          refine wpd ?_
          have HX8:=zh aA.2.2.2
          have HB8:=zh aA.1
          have HC8:=zh aA.2.1
          have HD8:=zh aA.2.2.1
          clear aA hE hS HB7 HC7 HD7 HX7
          cases ap
          · go_upto_region 8 with fail
            by_cases h8:sq=aS s.Q a
            · have HSP := zh (show (if sq ≠ aS s.Q a then (101 : Int) else 0) = 0 from if_neg (fun h => h h8))
              have b8:(sq != aS s.Q a)=false:=by rw [h8];exact bne_self_eq_false _
              exact Al
            have HSP:=zh (show (if sq ≠ aS s.Q a then (101:Int) else 0)=101 from if_pos h8)
            have b8:(sq != aS s.Q a)=true:=bne_iff_ne.2 h8
            exact Al
          go_wp2_with fail
          go_ret
          exact ⟨by rw [HBE.out];rfl,HX8.out⟩
      have HSP:=zh (show lM true m2 (vSg (aS PN (a:Int).toNat) ⟨(a:Int),sq,A,n,c,S,m,d,L,sig⟩) s.V (a:Int) sq L=1 from if_pos (.inr (.inr (.inr (by rw [HQL.out];exact h2)))))
      have i2:((s.n2:Int) != (m2:Int))=true:=bne_iff_ne.2 aa
      exact uh
structure RcR where
 cd:Int
 A:Option Addr
 n:Nat
 c:Nat
 o:Int
 g:Int
abbrev rcA (x:RcR):Array Value:=#[.int .i64 x.cd,.slice x.A x.n x.c,.int .i64 x.o,.int .i64 x.g]
def rcL (x:RcR):List Value:=(rcA x).toList
theorem aKd (x:RcR):∀ u ∈ rcL x,u.oneCell'=true:=by
 intro u hu
 simp only [rcL,List.mem_cons,List.not_mem_nil,or_false] at hu
 rcases hu with rfl | rfl | rfl | rfl <;> rfl
instance:RowT RcR where
 sz:=4
 z:=⟨0,none,0,0,0,0⟩
 enc:=rcL
 ok _ _:=True
 pos:=by decide
 len _:=rfl
 one:=aKd
 ext _ _ _ h _:=h
theorem rcP:RowP RcR 43 rcA:=⟨fun _=>rfl,by kernel_rfl,_,underlying43,rfl⟩
def rc0:RcR:=⟨0,none,0,0,0,0⟩
theorem aCU {fn:Func} {p q:Tmp} {ty ty2:TypeId} (hres:fn.results=#[.cell p ty,.cell q ty2]) (tmps:Array Value) (w1:World) (g g2:Nat) (cs cs2:Array Value) (hp:tmps.getD p undef=.pointer (some ⟨g,0,none⟩)) (hq:tmps.getD q undef=.pointer (some ⟨g2,0,none⟩)) (hl:(loadVar ty ⟨g,0,none⟩).run prog w1=.ok (.agg cs) w1) (hl2:(loadVar ty2 ⟨g2,0,none⟩).run prog w1=.ok (.agg cs2) w1) :
  (results fn tmps).run prog w1=.ok (.tuple #[.agg cs,.agg cs2]) w1:=by
 have hp':tmps[p]?.getD undef=.pointer (some ⟨g,0,none⟩):=qk
 have hq':tmps[q]?.getD undef=.pointer (some ⟨g2,0,none⟩):=qj
 simp [results,hres,hp',hq',asAddr,hl,hl2]
def rcE (cd ac sq:Int) (L:List OpR):List DeR:=if cd=0 then iO ac sq L else []
def rcO (cd ac sq:Int) (L:List OpR):Int:=if cd=0 then gH ac sq L else 0
def rcG (cd:Int) (S S1:StV):Int:=if cd=0 then bits .andNot .i64 S1.G S.G else 0
def aJJ (w:World) (V:StV) (cd:Int) (l:List DeR) (o g:Int) (e:Ending) (w':World):Prop :=
 ∃ (s:StR) (A:Option Addr) (n c:Nat),e=.returned (.tuple #[.agg (ssA s),.agg (rcA ⟨cd,A,n,c,o,g⟩)])∧OwnS w' w.heap.size s∧s.V=V∧SlG w' A n c l∧Ext w w'
structure StpB (w0 w:World) (P:Nat) (x:StpR):Prop where
 blk:Blk w P 70 (stpA x)
 own:OwnS w w0.heap.size x.s
 low:Ext w0 w
 hP:w0.heap.size≤P
section
variable {w0 w w':World} {P:Nat} {x:StpR}
theorem StpB.ext (h:StpB w0 w P x) (e:Ext w w'):StpB w0 w' P x:=⟨h.blk.ext e,h.own.ext e,h.low.trans e,h.hP⟩
theorem StpB.put (h:StpB w0 w P x) {s:StR} (ho:OwnS w w0.heap.size s):StpB w0 (w.setCells P 5 (ssA s).toList) P { x with s:=s }:=by
 refine ⟨?_,ho.kept (aB _ _ _ _) h.blk ae ae ae ae,Below.setCells' h.low h.hP _ _,h.hP⟩
 exact ((((h.blk.set 5 _).set 6 _).set 7 _).set 8 _).set 9 _
theorem StpB.cell2 (h:StpB w0 w P x) {b:Nat} (hA:x.s.A2=some ⟨b,0,none⟩) (j:Nat) (z:Int) (hz:wfI z) :
  StpB w0 (w.setCell ⟨b,j,none⟩ (.int .i64 z)) P { x with s:={ x.s with Q:=x.s.Q.set j z } }:=by
 obtain ⟨gN,gZ,B1,m1,d1,B2,m2,d2,B3,m3,d3,s,ac,sq,A,n,c,ht⟩:=x
 obtain ⟨A1,n1,c1,C1,A2,n2,c2,Q1,A3,n3,c3,K1,A4,n4,c4,P1,G1⟩:=s
 simp only at hA
 subst hA
 have hl:=h.own.l2
 obtain ⟨k1,k2⟩:=World.ownsRow.stored h.own.o2 j (.int .i64 z)
 have hc:(gcs Q1).set j (.int .i64 z)=gcs (Q1.set j z):=by
  exact xz
 simp only at k1
 rw [hc] at k1
 have hg:w.grownBy (w.setCell ⟨b,j,none⟩ (.int .i64 z)) (some b):=k2
 have hb:Blk (w.setCell ⟨b,j,none⟩ (.int .i64 z)) P 70 _:=h.blk.grown hg (aL h.own.o2 h.blk ae)
 have o1:=World.ownsRow.kept h.own.o1 hg (eF h.own.o1 h.own.o2 ae)
 have o3:=World.ownsRow.kept h.own.o3 hg (eF h.own.o3 h.own.o2 ae)
 have o4:=World.ownsRow.kept h.own.o4 hg (eF h.own.o4 h.own.o2 ae)
 exact ⟨hb,⟨o1,k1,o3,o4,h.own.k1,fun y hy=>by
  rcases List.mem_or_eq_of_mem_set hy with hy | rfl
  ·exact h.own.k2 _ hy
  exact hz,h.own.k3,h.own.g⟩,Below.grown h.low hg h.low.size (fun k hk=>(World.ownsRow.lt h.own.o2 k hk).1),h.hP⟩
end
section
variable {ops:Array Oper} {rest:List Oper} {o:Oper} {a:Act} {w:World} {K:Act→World→Prop} {Q:Exit→Act→World→Prop} {X:Prop}
theorem aBc (hgd:o.guard=none) (x y:Operand) (ho:o.op=.store 30 x y) (P:Nat) (v:Value) (s:StR) (hv:Value.agg (ssA s)=v) (hx:a.eval x=.pointer (some ⟨P,5,none⟩)) (hy:a.eval y=v) {z:StpR} (hb:Blk w P 70 (stpA z))
  (h:∀ W,Hid (w.setCells P 5 (ssA s).toList=W)→K (a.put o.dst undef) W):if Region.wanted o (yielded ops a.tmps)=true then Oper.wp prog o a w K Q else X:=by
 have hw:Region.wanted o (yielded ops a.tmps)=true:=di
 rw [if_pos hw]
 exact wp_store_mid (P:=prog) (Q:=Q) (op:=o) (K:=K) 30 x y ho P 5 (ssA s) hx (by rw [hy,hv]) (show w.there P 5 5 from aAs hb (show 5+5≤14 from ae)) ab (aBd s) (h _ (zh rfl))
theorem aBj (w:World):(Instr.alloc 70 true (.tuple #[])).run prog w=.ok (.pointer (some ⟨w.heap.size,0,none⟩)) (w.alloc (.cells (stpA RowT.z) 70)):=by kernel_rfl
theorem aCl (ho:o.op=.alloc 70)
  (h:∀ (g:Nat) (W2:World),Hid (Blk W2 g 70 (stpA RowT.z)∧Ext w W2∧w.heap.size≤g)→K (a.put o.dst (.pointer (some ⟨g,0,none⟩))) W2):o.wp prog a w K Q:=by
 have this:=aBj w
 have h2:=h _ _ (zh ⟨Blk.new w 70 (stpA RowT.z),(Ext.refl w).alloc' _,Nat.le_refl _⟩)
 clear h
 generalize w.alloc (.cells (stpA RowT.z) 70)=W2 at *
 exact yx
theorem jF {v:Value} (hr:∀ w,(execOp a.eval o).run prog w=.ok (.value v) w) (h:K (a.put o.dst v) w):o.wp prog a w K Q:=by
 unfold Oper.wp
 rw [hr w]
 exact h
theorem aAP {ty:TypeId} {i j k l:Nat} (x y z u:Operand) (ho:o.op=.build ty #[(i,x),(j,y),(k,z),(l,u)]) {vx vy vz vu v:Value} (hx:a.eval x=vx) (hy:a.eval y=vy) (hz:a.eval z=vz) (hu:a.eval u=vu) (hr:∀ w,(Instr.build ty #[(i,vx),(j,vy),(k,vz),(l,vu)]).run prog w=.ok v w) (w:World):(execOp a.eval o).run prog w=.ok (.value v) w:=by
 unfold execOp
 simp only [ho,List.map_toArray,List.map_cons,List.map_nil,hx,hy,hz,hu,Sem.run_bind,hr,Result.andThen_ok,Sem.run_pure]
end
section
variable {α:Type} [RowT α] {ty:TypeId} {arr:α→Array Value} {o:Oper} {a:Act} {w:World} {ops:Array Oper} {rest:List Oper} {Q:Exit→Act→World→Prop} {K:Act→World→Prop} {X:Prop}
theorem bH (h:RowP α ty arr) (hgd:o.guard=none) (x y:Operand) (ho:o.op=.store ty x y) (b of:Nat) (hx:a.eval x=.pointer (some ⟨b,of,none⟩)) (R:α) (v:Value) (hv:Value.agg (arr R)=v) (hy:a.eval y=v) (ht:w.there b of (RowT.sz α))
  (hn:∀ W2,Hid (w.setCells b of (RowT.enc R)=W2)→wpList prog ops Q rest (a.put o.dst undef) W2):wpList prog ops Q (o :: rest) a w :=
 bX h hgd x y ho b of hx R v hv hy ht (hn _ (zh rfl))
theorem mZ (h:RowP α ty arr) (hgd:o.guard=none) (x y:Operand) (ho:o.op=.store ty x y) (b of:Nat) (hx:a.eval x=.pointer (some ⟨b,of,none⟩)) (R:α) (v:Value) (hv:Value.agg (arr R)=v) (hy:a.eval y=v) (ht:w.there b of (RowT.sz α))
  (hn:∀ W2,Hid (w.setCells b of (RowT.enc R)=W2)→K (a.put o.dst undef) W2):if Region.wanted o (yielded ops a.tmps)=true then Oper.wp prog o a w K Q else X :=
 aCD h hgd x y ho b of hx R v hv hy ht (hn _ (zh rfl))
end
theorem aEH (x:StpR) (w:World):(Instr.build 70 #[(0,.agg (genC x.gN x.gZ x.B1 x.m1 x.d1 x.B2 x.m2 x.d2 x.B3 x.m3 x.d3)),(1,.agg (ssA x.s)),(2,.agg (txA x.ac x.sq x.A x.n x.c)),(3,.int .i64 x.ht)]).run prog w=.ok (.agg (stpA x)) w:=by kernel_rfl
theorem aEI (x:RcR) (w:World):(Instr.build 43 #[(0,.int .i64 x.cd),(1,.slice x.A x.n x.c),(2,.int .i64 x.o),(3,.int .i64 x.g)]).run prog w=.ok (.agg (rcA x)) w:=by kernel_rfl
theorem aIz (w:World) (base:Nat) (e:TypeId) (z0 z1 z2 z3 z4 z5 z6:Int) (b0 b1 b2 b3 b4 b5 b6:UInt8) (g:Nat) (hg:w.heap.size=g) (hb:base≤g) (h0:z0=(b0.toNat:Int)) (h1:z1=(b1.toNat:Int)) (h2:z2=(b2.toNat:Int)) (h3:z3=(b3.toNat:Int)) (h4:z4=(b4.toNat:Int)) (h5:z5=(b5.toNat:Int)) (h6:z6=(b6.toNat:Int)):OwnB (w.alloc (.cells #[.int .u8 z0,.int .u8 z1,.int .u8 z2,.int .u8 z3,.int .u8 z4,.int .u8 z5,.int .u8 z6] e)) base e (some ⟨g,0,none⟩) 7 7 [b0,b1,b2,b3,b4,b5,b6]:=by
 subst hg;subst h0;subst h1;subst h2;subst h3;subst h4;subst h5;subst h6
 exact tI (heap_alloc_new w _) hb rfl (Nat.le_refl _) aa rfl rfl
theorem aKZ {z:Int} (h0:0≤z) (h1:z < 65536):beI 2 z=[toB (z / 256),toB z]:=by
 have hb:∀ a b:UInt8,((bT [a,b]:Nat):Int)=(a.toNat:Int) * 256+(b.toNat:Int):=fun a b=>by simp [bT]
 have e1:=aNu h0 aa
 have hl:=iG 2 z
 match hm:beI 2 z,hl with
 | [a,b],_ =>
  rw [hm,hb] at e1
  have ha:=a.toNat_lt
  have hbb:=b.toNat_lt
  have t1:(toB (z / 256)).toNat=a.toNat:=by have:=aGL (z:=z / 256) aa aa;omega
  have t2:(toB z).toNat=b.toNat:=by have h:=bM z;omega
  rw [UInt8.toNat_inj.1 t1,UInt8.toNat_inj.1 t2]
theorem aEP (v:VtR) (hwf:v.wf) (h:eS v=true) (w:World):Calls prog 246 #[.agg (vtA v)] w fun e w'=>∃ A' c',e=.returned (.tuple #[.slice A' 23 c',.bool true])∧OwnB w' w.heap.size 5 A' 23 c' (mR v)∧Ext w w':=by
 have HBD:=zh (aHY h hwf)
 have HE0:=zh ((Ext.refl w).alloc' (.cells (vtA v) 124))
 have HB:=zh (Blk.new w 124 (vtA v))
 obtain ⟨W0,hW0⟩:=gx (w.alloc (.cells (vtA v) 124))
 rw [hW0] at HE0 HB
 have hr:W0.rangeAt w.heap.size 0 (vtL v):=aC HB.out
 have HV:=zh (fun (W:World)=>iR v W)
 rw [h] at HV
 clear h
 go_enter func246,ntmps246
 go_wp2_with (first | (with_reducible refine fM rfl (.tmp 1) rfl w.heap.size 0 rfl v hr ?_))
 refine zcl (HV.out _) fun w1 he1=>?_
 have HX:=zh (HE0.out.trans he1)
 have HB1:=zh (HB.out.ext he1)
 obtain ⟨a0,a1,a2,a3,a4,a5,a6,a7⟩:=dI HB1.out
 clear he1 hr hW0 a6 a7
 go_upto_region 4 with (fail)
 have HO:=zh (aIz w1 w1.heap.size 5 (v.k % 256) (v.sl % 256) (v.ro % 256) (v.ch % 256) (v.si % 256) (v.su / 256 % 256) (v.su % 256) (toB v.k) (toB v.sl) (toB v.ro) (toB v.ch) (toB v.si) (toB (v.su / 256)) (toB v.su) w1.heap.size rfl (Nat.le_refl _) (bM _) (bM _) (bM _) (bM _) (bM _) (bM _) (bM _))
 have HE:=zh ((Ext.refl w1).alloc' (.cells #[.int .u8 (v.k % 256),.int .u8 (v.sl % 256),.int .u8 (v.ro % 256),.int .u8 (v.ch % 256),.int .u8 (v.si % 256),.int .u8 (v.su / 256 % 256),.int .u8 (v.su % 256)] 5))
 obtain ⟨W3,hW3⟩:=gx (w1.alloc (.cells #[.int .u8 (v.k % 256),.int .u8 (v.sl % 256),.int .u8 (v.ro % 256),.int .u8 (v.ch % 256),.int .u8 (v.si % 256),.int .u8 (v.su / 256 % 256),.int .u8 (v.su % 256)] 5))
 rw [hW3] at HO HE ⊢
 have HO:=zh (OwnB.ext HO.out (Ext.refl W3).drew')
 have HE:=zh (HE.out.trans (Ext.refl W3).drew')
 clear hW3 a0 a1 a2 a3 a4 a5
 refine wp_region_held_drew (S:=fun W=>Ext w1 W) ab (HE.out) (fun aA=>?_)
 refine zzr [0,1,2,4,5] ?_
 refine za 3 (fun K hK=>?_)
 (refine kX bU rfl (.tmp 31) (.tmp 33) rfl w1.heap.size (some ⟨w1.heap.size,0,none⟩) 7 7 [toB v.k,toB v.sl,toB v.ro,toB v.ch,toB v.si,toB (v.su / 256),toB v.su] dp HO.out (some ⟨w.heap.size,6,none⟩) 8 8 (nmb v.pa) dp (oH (aAp (HB1.out.ext HE.out)) (aK _) aa aa) aa HE.out.size ?_;intro A4 c4 w4 ho hg;have HE:=zh (show Ext _ _ from Below.grown HE.out hg HE.out.size (fun q hq=>(aBB HO.out q hq).1));have HO:=zh ho;clear ho hg)
 refine hK.out _ _ (HE.out) (fun aA=>?_)
 clear hK K
 try simp only [bB]
 refine za 6 (fun K hK=>?_)
 (refine kX bU rfl (.tmp 34) (.tmp 36) rfl w1.heap.size A4 15 c4 ([toB v.k,toB v.sl,toB v.ro,toB v.ch,toB v.si,toB (v.su / 256),toB v.su] ++ nmb v.pa) dp HO.out (some ⟨w.heap.size,14,none⟩) 8 8 (nmb v.va) dp (oH (aAo (HB1.out.ext HE.out)) (aK _) aa aa) aa HE.out.size ?_;intro A5 c5 w5 ho hg;have HE:=zh (show Ext _ _ from Below.grown HE.out hg HE.out.size (fun q hq=>(aBB HO.out q hq).1));have HO:=zh ho;clear ho hg)
 refine hK.out _ _ (HE.out) (fun aA=>?_)
 clear hK K
 try simp only [bB]
 refine zzr [7,8] ?_
 refine wpd ?_
 have HF:=zh (show OwnB w5 w.heap.size 5 A5 23 c5 (mR v) from by
  have h1:OwnB w5 w.heap.size 5 A5 23 c5 _:=bA (base':=w.heap.size) HO.out HX.out.size
  obtain ⟨-,-,-,-,-,-,-,-,-,-,b0,b1⟩:=HBD.out
  have e:mR v=[toB v.k,toB v.sl,toB v.ro,toB v.ch,toB v.si,toB (v.su / 256),toB v.su] ++ nmb v.pa ++ nmb v.va:=by unfold mR;rw [aKZ b0 aa];simp
  rw [e]
  exact h1)
 have HG:=zh (HX.out.trans HE.out)
 clear aA
 go_wp2_with fail
 go_ret2
 exact ⟨A5,c5,rfl,HF.out,HG.out⟩
end
section
open Go.RowKit
theorem en1 (w:World) (s:StR):∃ W,(w.alloc (.cells (ssA s) 30)).alloc (.cells #[.slice none 0 0,.slice none 0 0,.slice none 0 0,.slice none 0 0,.int .i64 0] 30)=W∧Hid (Blk W w.heap.size 30 (ssA s))∧Hid (Blk W (w.heap.size+1) 30 (ssA ss0))∧Hid (Ext w W) :=
 ⟨_,rfl,zh ((Blk.new w 30 (ssA s)).alloc _),zh (Blk.newAt _ _ _ _ (by simp)),zh (((Ext.refl w).alloc' _).alloc' _)⟩
theorem en2 (w:World) (s:StR) (c:Array Value) (t:TypeId):∃ W,((w.alloc (.cells (ssA s) 30)).alloc (.cells c t)).alloc (.cells #[.slice none 0 0,.slice none 0 0,.slice none 0 0,.slice none 0 0,.int .i64 0] 30)=W∧Hid (Blk W w.heap.size 30 (ssA s))∧Hid (Blk W (w.heap.size+1) t c)∧Hid (Blk W (w.heap.size+2) 30 (ssA ss0))∧Hid (Ext w W) :=
 ⟨_,rfl,zh (((Blk.new w 30 (ssA s)).alloc _).alloc _),zh (Blk.alloc (Blk.newAt _ _ _ _ (by simp)) _),zh (Blk.newAt _ _ _ _ (by simp)),zh ((((Ext.refl w).alloc' _).alloc' _).alloc' _)⟩
theorem bdE {w w1:World} {b X:Nat} {s0 s1:StR} (h0:s0.ok w) (ho:OwnS w1 b s1) (e:s1.V=s0.V) (hn:s0.n1≤X∧s0.n2≤X∧s0.n3≤X∧s0.n4≤X):s1.n1≤X∧s1.n2≤X∧s1.n3≤X∧s1.n4≤X:=by
 have e1:s1.C=s0.C:=congrArg StV.C e
 have e2:s1.Q=s0.Q:=congrArg StV.Q e
 have e3:s1.K=s0.K:=congrArg StV.K e
 have e4:s1.P=s0.P:=congrArg StV.P e
 have m1:=ho.l1;have m2:=ho.l2;have m3:=ho.l3;have m4:=ho.l4
 have l1:=h0.s1.len;have l2:=h0.s2.len;have l3:=h0.s3.len;have l4:=h0.s4.len
 rw [e1] at m1;rw [e2] at m2;rw [e3] at m3;rw [e4] at m4
 omega
theorem cpS {w W w5 W7:World} {s0 s1:StR} (HS0:Hid (s0.ok w)) (hn:s0.n1≤1000000∧s0.n2≤1000000∧s0.n3≤1000000∧s0.n4≤1000000) (HB:Hid (Blk W w.heap.size 30 (ssA s0))) (HE:Hid (Ext w W)) (ho1:OwnS w5 W.heap.size s1) (hv1:s1.V=s0.V) (he5:Ext W w5)
  (h7:Hid (w5.setCells w.heap.size 0 (ssA s1).toList=W7)) :
  Hid (StB w W7 w.heap.size s1)∧(∀ x t c,Blk W x t c→x ≠ w.heap.size→Blk W7 x t c)∧Hid (s1.n1≤1000000∧s1.n2≤1000000∧s1.n3≤1000000∧s1.n4≤1000000):=by
 have ho:=bO ho1 HE.out.size
 refine ⟨zh ?_,fun x t c hx hne=>?_,zh (bdE HS0.out ho hv1 hn)⟩
 ·rw [← h7.out];exact StB.start ho (HB.out.ext he5) (HE.out.trans he5) (Nat.le_refl _)
 rw [← h7.out];exact (hx.ext he5).grown (aB _ _ _ _) (fun e=>hne sv)
theorem rtS {fn:Func} {p:Tmp} {a:Act} {w WF W9:World} {V:StV} {g:Nat} (r:Nat) (s:StR) (HF:StB w WF g s) (HRF:Blk WF r 30 (ssA ss0)) (hr:w.heap.size≤r) (h9:Hid (WF.setCells r 0 (ssA s).toList=W9)) (hV:s.V=V)
  (hres:fn.results=#[.cell p 30]:=by rfl) (hp:a.tmps.getD p undef=.pointer (some ⟨r,0,none⟩):=by rfl) (hd:a.defers=[]:=by rfl):bodyPost prog fn (jB w V) .ret a W9:=by
 have hst:Blk W9 r 30 (ssA s):=by rw [← h9.out];exact aN (ds:=ssA s) HRF rfl
 have how:OwnS W9 w.heap.size s:=by
  rw [← h9.out]
  exact HF.own.kept (aB _ _ _ _) HRF ae ae ae ae
 have hxe:Ext w W9:=by rw [← h9.out];exact Below.setCells' HF.low hr _ _
 exact bodyPost_ret (v:=.agg (ssA s)) (fP hres _ _ r _ hp (run_loadVar_row _ _ _ _ _ (0,0) _ hst underlying30 rfl ab)) hd ⟨s,rfl,how,hV,hxe⟩
end
end Go.Proofs.YtgmnmjeccfnmbaaGreat
