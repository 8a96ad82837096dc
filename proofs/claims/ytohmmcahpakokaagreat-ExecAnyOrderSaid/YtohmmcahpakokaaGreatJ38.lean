/- exec.step: refund, claim. -/
import Derived.Test.YtohmmcahpakokaaGreatJ35
set_option maxRecDepth 100000
set_option maxHeartbeats 8000000
set_option linter.unusedVariables false
set_option linter.unusedSimpArgs false
namespace Go.Proofs.YtohmmcahpakokaaGreat
section
open Go.RowKit
attribute [local go_sem ↓] Go.wp_at_zero Go.wp_at_succ
section
variable {α:Type} [RowT α] {ty:TypeId} {arr:α→Array Value} {o:Oper} {a:Act} {w:World} {ops:Array Oper} {rest:List Oper} {Q:Exit→Act→World→Prop}
theorem bL (h:RowP α ty arr) (hw:Region.wanted o (yielded ops a.tmps)=true) (x:Operand) (ho:o.op=.load ty x) (b of:Nat) (hx:a.eval x=.pointer (some ⟨b,of,none⟩)) (R:α) (v:Value) (hv:Value.agg (arr R)=v) (hc:w.rangeAt b of (RowT.enc R))
  (hn:wpList Tryz.prog ops Q rest (a.put o.dst v) w):wpList Tryz.prog ops Q (o :: rest) a w:=by
 obtain ⟨d,h1,h2⟩:=h.und
 refine wpList_step fun K hK=>?_
 rw [if_pos hw]
 refine wp_load_mid ty x ho b of hx (RowT.enc R) d hc h1 h2 (by rw [h.info,RowT.len]) (hK _ _ ?_)
 rw [h.eq,hv];exact hn
end
def qU (S:StV) (ht:Int) (R:OpR):Int:=match fdK S.K R.lk with
 | none=>6
 | some l=>if R.tO ≠ l.ow ∨ R.am ≠ bW S.C (dS R.lk) then 7 else if ht < l.ul then 102 else 0
def oU (S:StV) (ht:Int) (R:OpR):Int:=match fdK S.K R.lk with
 | none=>6
 | some l=>if R.tO ≠ l.tO ∨ R.am ≠ bW S.C (dS R.lk) then 7 else if dO R.pre ≠ l.hs then 12 else if l.ul≤ht then 102 else 0
theorem aDs {w:World} {g:Nat} {t:TypeId} {l:LkR} (h:Blk w g t (lkA l)):w.rangeAt g 8 (nmL l.hs):=by
 have:=aU (k:=8) (bR (k:=8) (aD h))
 rw [show nmL l.hs=bcs (nmb l.hs) from rfl,fF]
 rw [Nat.zero_add] at this
 exact this
theorem aCO (R:OpR) (w:World) (h:R.ok w) (hn:R.n1≤140737488355328):Calls Tryz.prog 149 #[.slice R.A1 R.n1 R.c1] w fun e w'=>e=.returned (.agg (nmc (dO R.pre)))∧Ext w w' :=
 aDY _ _ _ _ _ h.pre hn
theorem aDd (x:StpR) (R:OpR) (w:World) (hs:x.s.ok w):Calls Tryz.prog 95 #[.agg (stpA x),.agg (opA R)] w fun e w'=>e=.returned (.int .i64 (qU x.s.V x.ht R))∧Ext w w':=by
 have HS:=zh hs
 obtain ⟨W,hW⟩:∃ W,(w.alloc (.cells (stpA x) 86)).alloc (.cells (opA R) 69)=W:=⟨_,rfl⟩
 have HP:=zh (show Blk W w.heap.size 86 (stpA x) from by rw [← hW];exact (Blk.new w 86 (stpA x)).alloc _)
 have HO:=zh (show Blk W (w.heap.size+1) 69 (opA R) from by rw [← hW];exact Blk.newAt _ _ _ _ (by simp))
 have HX:=zh (show Ext w W from by rw [← hW];exact ((Ext.refl w).alloc' _).alloc' _)
 have HF:=zh (pE x R W (HS.out.ext HX.out))
 have rx:W.rangeAt w.heap.size 0 (RowT.enc x):=aD HP.out
 have ro:W.rangeAt (w.heap.size+1) 0 (RowT.enc R):=aD HO.out
 obtain ⟨vx,hvx⟩:∃ v,Value.agg (stpA x)=v:=⟨_,rfl⟩
 obtain ⟨vo,hvo⟩:∃ v,Value.agg (opA R)=v:=⟨_,rfl⟩
 have HVX:=zh hvx
 have HVO:=zh hvo
 rw [hvx,hvo] at HF
 clear hs hvx hvo
 cases hf:fdK x.s.K R.lk with
 | none =>
  rw [hf] at HF
  obtain ⟨l,hl⟩:∃ l,lkO none=l:=⟨_,rfl⟩
  obtain ⟨vl,hvl⟩:∃ v,Value.agg (lkA l)=v:=⟨_,rfl⟩
  have HVL:=zh hvl
  have HF:=zh (show Calls Tryz.prog 147 #[vx,vo] W (fun e w'=>e=.returned (.tuple #[.agg (lkA (lkO none)),.int .i64 6])∧Ext W w') from HF.out)
  rw [hl,hvl] at HF
  have HSP:=zh (show qU x.s.V x.ht R=6 from by unfold qU;rw [show fdK x.s.V.K R.lk=none from hf])
  clear hl hvl hf
  go_enter Tryz.func95,Tryz.ntmps95
  go_wp2_with (first | (with_reducible refine aB gP rfl (.tmp 2) rfl w.heap.size 0 rfl x vx HVX.out rx ?_) | (with_reducible refine aB opP rfl (.tmp 3) rfl (w.heap.size+1) 0 rfl R vo HVO.out ro ?_) | fail "A")
  refine HF.out.mono ?_
  rintro e w5 ⟨rfl,he5⟩
  have HXX:=zh (HX.out.trans he5)
  have HE5:=zh he5
  obtain ⟨X,hX⟩:∃ X,w5.heap.size=X:=⟨_,rfl⟩
  have HXS:=zh hX
  clear hX he5 rx ro
  go_upto_region 2 with ((with_reducible refine aP lkP rfl (.tmp 5) (.tmp 11) rfl lk0 rfl l vl HVL.out rfl rfl ?_);intro W6 h6)
  have HX6:=zh (show Ext w5 W6 from by rw [← h6.out];exact (Ext.refl w5).alloc' _)
  have HB6:=zh (show Blk W6 X 94 (lkA l) from by rw [← h6.out,← HXS.out];exact Blk.new w5 94 (lkA l))
  have HP6:=zh ((HP.out.ext HE5.out).ext HX6.out)
  have HO6:=zh ((HO.out.ext HE5.out).ext HX6.out)
  have HXW:=zh (HXX.out.trans HX6.out)
  rw [HXS.out]
  clear h6
  go_wp2_with fail
  go_ret
  exact ⟨by rw [HSP.out];rfl,HXW.out⟩
 | some l =>
  rw [hf] at HF
  have HF:=zh (show Calls Tryz.prog 147 #[vx,vo] W (fun e w'=>e=.returned (.tuple #[.agg (lkA l),.int .i64 0])∧Ext W w') from HF.out)
  obtain ⟨vl,hvl⟩:∃ v,Value.agg (lkA l)=v:=⟨_,rfl⟩
  rw [hvl] at HF
  have HVL:=zh hvl
  clear hvl
  by_cases h1:R.tO=l.ow
  ·have b1 : (R.tO != l.ow) = false := by rw [h1]; exact bne_self_eq_false _
   by_cases h2:R.am=bW x.s.C (dS R.lk)
   ·have e2 : (R.am == bW x.s.C (dS R.lk)) = true := beq_iff_eq.2 h2
    by_cases h3:x.ht < l.ul
    ·have HSP := zh (show qU x.s.V x.ht R = 102 from by unfold qU; rw [show fdK x.s.V.K R.lk = some l from hf]; simp only; rw [if_neg (fun h => h.elim (fun h => h h1) (fun h => h h2)), if_pos h3])
     clear hf h1 h2
     go_enter Tryz.func95,Tryz.ntmps95
     go_wp2_with (first | (with_reducible refine aB gP rfl (.tmp 2) rfl w.heap.size 0 rfl x vx HVX.out rx ?_) | (with_reducible refine aB opP rfl (.tmp 3) rfl (w.heap.size+1) 0 rfl R vo HVO.out ro ?_) | fail "A")
     refine HF.out.mono ?_
     rintro e w5 ⟨rfl,he5⟩
     have HXX:=zh (HX.out.trans he5)
     have HE5:=zh he5
     obtain ⟨X,hX⟩:∃ X,w5.heap.size=X:=⟨_,rfl⟩
     have HXS:=zh hX
     clear hX he5 rx ro
     go_upto_region 2 with ((with_reducible refine aP lkP rfl (.tmp 5) (.tmp 11) rfl lk0 rfl l vl HVL.out rfl rfl ?_);intro W6 h6)
     have HX6:=zh (show Ext w5 W6 from by rw [← h6.out];exact (Ext.refl w5).alloc' _)
     have HB6:=zh (show Blk W6 X 94 (lkA l) from by rw [← h6.out,← HXS.out];exact Blk.new w5 94 (lkA l))
     have HP6:=zh ((HP.out.ext HE5.out).ext HX6.out)
     have HO6:=zh ((HO.out.ext HE5.out).ext HX6.out)
     have HXW:=zh (HXX.out.trans HX6.out)
     rw [HXS.out]
     clear h6
     have rx:W6.rangeAt w.heap.size 0 (RowT.enc x):=aD HP6.out
     have ro:W6.rangeAt (w.heap.size+1) 0 (RowT.enc R):=aD HO6.out
     have p1:=HO6.out.cell 1
     have l1:=HB6.out.cell 16
     have l2:=HB6.out.cell 17
     have HEX:=zh (iD x R W6 (HS.out.ext HXW.out))
     rw [e2,HVX.out,HVO.out] at HEX
     go_wp2_with (first | (with_reducible refine bL gP (by with_unfolding_all rfl) (.tmp 2) rfl w.heap.size 0 rfl x vx HVX.out rx ?_) | (with_reducible refine bL opP (by with_unfolding_all rfl) (.tmp 3) rfl (w.heap.size+1) 0 rfl R vo HVO.out ro ?_) | fail "A")
     refine HEX.out.mono ?_
     rintro e w7 ⟨rfl,he7⟩
     have HX7:=zh (HXW.out.trans he7)
     have HP7:=zh (HP6.out.ext he7)
     have HO7:=zh (HO6.out.ext he7)
     have HB7:=zh (HB6.out.ext he7)
     have a1:=HP7.out.cell 13
     have a2:=HB7.out.cell 18
     clear he7 rx ro p1 l1 l2 HEX
     go_wp2_with fail
     go_ret
     exact ⟨by rw [HSP.out];rfl,HX7.out⟩
    have HSP:=zh (show qU x.s.V x.ht R=0 from by unfold qU;rw [show fdK x.s.V.K R.lk=some l from hf];simp only;rw [if_neg (fun h=>h.elim (fun h=>h h1) (fun h=>h h2)),if_neg h3])
    clear hf h1 h2
    go_enter Tryz.func95,Tryz.ntmps95
    go_wp2_with (first | (with_reducible refine aB gP rfl (.tmp 2) rfl w.heap.size 0 rfl x vx HVX.out rx ?_) | (with_reducible refine aB opP rfl (.tmp 3) rfl (w.heap.size+1) 0 rfl R vo HVO.out ro ?_) | fail "A")
    refine HF.out.mono ?_
    rintro e w5 ⟨rfl,he5⟩
    have HXX:=zh (HX.out.trans he5)
    have HE5:=zh he5
    obtain ⟨X,hX⟩:∃ X,w5.heap.size=X:=⟨_,rfl⟩
    have HXS:=zh hX
    clear hX he5 rx ro
    go_upto_region 2 with ((with_reducible refine aP lkP rfl (.tmp 5) (.tmp 11) rfl lk0 rfl l vl HVL.out rfl rfl ?_);intro W6 h6)
    have HX6:=zh (show Ext w5 W6 from by rw [← h6.out];exact (Ext.refl w5).alloc' _)
    have HB6:=zh (show Blk W6 X 94 (lkA l) from by rw [← h6.out,← HXS.out];exact Blk.new w5 94 (lkA l))
    have HP6:=zh ((HP.out.ext HE5.out).ext HX6.out)
    have HO6:=zh ((HO.out.ext HE5.out).ext HX6.out)
    have HXW:=zh (HXX.out.trans HX6.out)
    rw [HXS.out]
    clear h6
    have rx:W6.rangeAt w.heap.size 0 (RowT.enc x):=aD HP6.out
    have ro:W6.rangeAt (w.heap.size+1) 0 (RowT.enc R):=aD HO6.out
    have p1:=HO6.out.cell 1
    have l1:=HB6.out.cell 16
    have l2:=HB6.out.cell 17
    have HEX:=zh (iD x R W6 (HS.out.ext HXW.out))
    rw [e2,HVX.out,HVO.out] at HEX
    go_wp2_with (first | (with_reducible refine bL gP (by with_unfolding_all rfl) (.tmp 2) rfl w.heap.size 0 rfl x vx HVX.out rx ?_) | (with_reducible refine bL opP (by with_unfolding_all rfl) (.tmp 3) rfl (w.heap.size+1) 0 rfl R vo HVO.out ro ?_) | fail "A")
    refine HEX.out.mono ?_
    rintro e w7 ⟨rfl,he7⟩
    have HX7:=zh (HXW.out.trans he7)
    have HP7:=zh (HP6.out.ext he7)
    have HO7:=zh (HO6.out.ext he7)
    have HB7:=zh (HB6.out.ext he7)
    have a1:=HP7.out.cell 13
    have a2:=HB7.out.cell 18
    clear he7 rx ro p1 l1 l2 HEX
    go_wp2_with fail
    go_ret
    exact ⟨by rw [HSP.out];rfl,HX7.out⟩
   have e2:(R.am == bW x.s.C (dS R.lk))=false:=beq_false_of_ne h2
   have HSP:=zh (show qU x.s.V x.ht R=7 from by unfold qU;rw [show fdK x.s.V.K R.lk=some l from hf];simp only;rw [if_pos (.inr h2)])
   clear hf h1 h2
   go_enter Tryz.func95,Tryz.ntmps95
   go_wp2_with (first | (with_reducible refine aB gP rfl (.tmp 2) rfl w.heap.size 0 rfl x vx HVX.out rx ?_) | (with_reducible refine aB opP rfl (.tmp 3) rfl (w.heap.size+1) 0 rfl R vo HVO.out ro ?_) | fail "A")
   refine HF.out.mono ?_
   rintro e w5 ⟨rfl,he5⟩
   have HXX:=zh (HX.out.trans he5)
   have HE5:=zh he5
   obtain ⟨X,hX⟩:∃ X,w5.heap.size=X:=⟨_,rfl⟩
   have HXS:=zh hX
   clear hX he5 rx ro
   go_upto_region 2 with ((with_reducible refine aP lkP rfl (.tmp 5) (.tmp 11) rfl lk0 rfl l vl HVL.out rfl rfl ?_);intro W6 h6)
   have HX6:=zh (show Ext w5 W6 from by rw [← h6.out];exact (Ext.refl w5).alloc' _)
   have HB6:=zh (show Blk W6 X 94 (lkA l) from by rw [← h6.out,← HXS.out];exact Blk.new w5 94 (lkA l))
   have HP6:=zh ((HP.out.ext HE5.out).ext HX6.out)
   have HO6:=zh ((HO.out.ext HE5.out).ext HX6.out)
   have HXW:=zh (HXX.out.trans HX6.out)
   rw [HXS.out]
   clear h6
   have rx:W6.rangeAt w.heap.size 0 (RowT.enc x):=aD HP6.out
   have ro:W6.rangeAt (w.heap.size+1) 0 (RowT.enc R):=aD HO6.out
   have p1:=HO6.out.cell 1
   have l1:=HB6.out.cell 16
   have l2:=HB6.out.cell 17
   have HEX:=zh (iD x R W6 (HS.out.ext HXW.out))
   rw [e2,HVX.out,HVO.out] at HEX
   go_wp2_with (first | (with_reducible refine bL gP (by with_unfolding_all rfl) (.tmp 2) rfl w.heap.size 0 rfl x vx HVX.out rx ?_) | (with_reducible refine bL opP (by with_unfolding_all rfl) (.tmp 3) rfl (w.heap.size+1) 0 rfl R vo HVO.out ro ?_) | fail "A")
   refine HEX.out.mono ?_
   rintro e w7 ⟨rfl,he7⟩
   have HX7:=zh (HXW.out.trans he7)
   have HP7:=zh (HP6.out.ext he7)
   have HO7:=zh (HO6.out.ext he7)
   have HB7:=zh (HB6.out.ext he7)
   have a1:=HP7.out.cell 13
   have a2:=HB7.out.cell 18
   clear he7 rx ro p1 l1 l2 HEX
   go_wp2_with fail
   go_ret
   exact ⟨by rw [HSP.out];rfl,HX7.out⟩
  have b1:(R.tO != l.ow)=true:=bne_iff_ne.2 h1
  have HSP:=zh (show qU x.s.V x.ht R=7 from by unfold qU;rw [show fdK x.s.V.K R.lk=some l from hf];simp only;rw [if_pos (.inl h1)])
  clear hf h1
  go_enter Tryz.func95,Tryz.ntmps95
  go_wp2_with (first | (with_reducible refine aB gP rfl (.tmp 2) rfl w.heap.size 0 rfl x vx HVX.out rx ?_) | (with_reducible refine aB opP rfl (.tmp 3) rfl (w.heap.size+1) 0 rfl R vo HVO.out ro ?_) | fail "A")
  refine HF.out.mono ?_
  rintro e w5 ⟨rfl,he5⟩
  have HXX:=zh (HX.out.trans he5)
  have HE5:=zh he5
  obtain ⟨X,hX⟩:∃ X,w5.heap.size=X:=⟨_,rfl⟩
  have HXS:=zh hX
  clear hX he5 rx ro
  go_upto_region 2 with ((with_reducible refine aP lkP rfl (.tmp 5) (.tmp 11) rfl lk0 rfl l vl HVL.out rfl rfl ?_);intro W6 h6)
  have HX6:=zh (show Ext w5 W6 from by rw [← h6.out];exact (Ext.refl w5).alloc' _)
  have HB6:=zh (show Blk W6 X 94 (lkA l) from by rw [← h6.out,← HXS.out];exact Blk.new w5 94 (lkA l))
  have HP6:=zh ((HP.out.ext HE5.out).ext HX6.out)
  have HO6:=zh ((HO.out.ext HE5.out).ext HX6.out)
  have HXW:=zh (HXX.out.trans HX6.out)
  rw [HXS.out]
  clear h6
  have rx:W6.rangeAt w.heap.size 0 (RowT.enc x):=aD HP6.out
  have ro:W6.rangeAt (w.heap.size+1) 0 (RowT.enc R):=aD HO6.out
  have p1:=HO6.out.cell 1
  have l1:=HB6.out.cell 16
  have l2:=HB6.out.cell 17
  go_wp2_with fail
  go_ret
  exact ⟨by rw [HSP.out];rfl,HXW.out⟩
theorem aFN (x:StpR) (R:OpR) (w:World) (hs:x.s.ok w) (hro:R.ok w) (hpn:R.n1≤140737488355328):Calls Tryz.prog 94 #[.agg (stpA x),.agg (opA R)] w fun e w'=>e=.returned (.int .i64 (oU x.s.V x.ht R))∧Ext w w':=by
 have HS:=zh hs
 have HRO:=zh hro
 have HPN:=zh hpn
 obtain ⟨W,hW⟩:∃ W,(w.alloc (.cells (stpA x) 86)).alloc (.cells (opA R) 69)=W:=⟨_,rfl⟩
 have HP:=zh (show Blk W w.heap.size 86 (stpA x) from by rw [← hW];exact (Blk.new w 86 (stpA x)).alloc _)
 have HO:=zh (show Blk W (w.heap.size+1) 69 (opA R) from by rw [← hW];exact Blk.newAt _ _ _ _ (by simp))
 have HX:=zh (show Ext w W from by rw [← hW];exact ((Ext.refl w).alloc' _).alloc' _)
 have HF:=zh (pE x R W (HS.out.ext HX.out))
 have rx:W.rangeAt w.heap.size 0 (RowT.enc x):=aD HP.out
 have ro:W.rangeAt (w.heap.size+1) 0 (RowT.enc R):=aD HO.out
 obtain ⟨vx,hvx⟩:∃ v,Value.agg (stpA x)=v:=⟨_,rfl⟩
 obtain ⟨vo,hvo⟩:∃ v,Value.agg (opA R)=v:=⟨_,rfl⟩
 have HVX:=zh hvx
 have HVO:=zh hvo
 rw [hvx,hvo] at HF
 clear hs hro hpn hvx hvo
 cases hf:fdK x.s.K R.lk with
 | none =>
  rw [hf] at HF
  obtain ⟨l,hl⟩:∃ l,lkO none=l:=⟨_,rfl⟩
  obtain ⟨vl,hvl⟩:∃ v,Value.agg (lkA l)=v:=⟨_,rfl⟩
  have HVL:=zh hvl
  have HF:=zh (show Calls Tryz.prog 147 #[vx,vo] W (fun e w'=>e=.returned (.tuple #[.agg (lkA (lkO none)),.int .i64 6])∧Ext W w') from HF.out)
  rw [hl,hvl] at HF
  have HSP:=zh (show oU x.s.V x.ht R=6 from by unfold oU;rw [show fdK x.s.V.K R.lk=none from hf])
  clear hl hvl hf
  go_enter Tryz.func94,Tryz.ntmps94
  go_wp2_with (first | (with_reducible refine aB gP rfl (.tmp 2) rfl w.heap.size 0 rfl x vx HVX.out rx ?_) | (with_reducible refine aB opP rfl (.tmp 3) rfl (w.heap.size+1) 0 rfl R vo HVO.out ro ?_) | fail "A")
  refine HF.out.mono ?_
  rintro e w5 ⟨rfl,he5⟩
  have HXX:=zh (HX.out.trans he5)
  have HE5:=zh he5
  obtain ⟨X,hX⟩:∃ X,w5.heap.size=X:=⟨_,rfl⟩
  have HXS:=zh hX
  clear hX he5 rx ro
  go_upto_region 2 with ((with_reducible refine aP lkP rfl (.tmp 5) (.tmp 11) rfl lk0 rfl l vl HVL.out rfl rfl ?_);intro W6 h6)
  have HX6:=zh (show Ext w5 W6 from by rw [← h6.out];exact (Ext.refl w5).alloc' _)
  have HB6:=zh (show Blk W6 X 94 (lkA l) from by rw [← h6.out,← HXS.out];exact Blk.new w5 94 (lkA l))
  have HP6:=zh ((HP.out.ext HE5.out).ext HX6.out)
  have HO6:=zh ((HO.out.ext HE5.out).ext HX6.out)
  have HXW:=zh (HXX.out.trans HX6.out)
  rw [HXS.out]
  clear h6
  go_wp2_with fail
  go_ret
  exact ⟨by rw [HSP.out];rfl,HXW.out⟩
 | some l =>
  rw [hf] at HF
  have HF:=zh (show Calls Tryz.prog 147 #[vx,vo] W (fun e w'=>e=.returned (.tuple #[.agg (lkA l),.int .i64 0])∧Ext W w') from HF.out)
  obtain ⟨vl,hvl⟩:∃ v,Value.agg (lkA l)=v:=⟨_,rfl⟩
  rw [hvl] at HF
  have HVL:=zh hvl
  clear hvl
  by_cases h1:R.tO=l.tO
  ·have b1 : (R.tO != l.tO) = false := by rw [h1]; exact bne_self_eq_false _
   by_cases h2:R.am=bW x.s.C (dS R.lk)
   ·have e2 : (R.am == bW x.s.C (dS R.lk)) = true := beq_iff_eq.2 h2
    have HSUM:=zh (fun (V:World) (e:Ext w V)=>aCO R V (HRO.out.ext e) HPN.out)
    by_cases h4:dO R.pre=l.hs
    ·have HNE := zh (fun W => pI (dO R.pre) l.hs W)
     obtain ⟨b3,hb3⟩:∃ b3:Bool,(!decide (dO R.pre=l.hs))=b3:=⟨_,rfl⟩
     rw [hb3] at HNE
     obtain rfl:b3=false:=by rw [← hb3,decide_eq_true h4];rfl
     clear hb3
     by_cases h3:l.ul≤x.ht
     ·have HSP := zh (show oU x.s.V x.ht R = 102 from by unfold oU; rw [show fdK x.s.V.K R.lk = some l from hf]; simp only; rw [if_neg (fun h => h.elim (fun h => h h1) (fun h => h h2)), if_neg (fun h => h h4), if_pos h3])
      clear hf h1 h2
      go_enter Tryz.func94,Tryz.ntmps94
      go_wp2_with (first | (with_reducible refine aB gP rfl (.tmp 2) rfl w.heap.size 0 rfl x vx HVX.out rx ?_) | (with_reducible refine aB opP rfl (.tmp 3) rfl (w.heap.size+1) 0 rfl R vo HVO.out ro ?_) | fail "A")
      refine HF.out.mono ?_
      rintro e w5 ⟨rfl,he5⟩
      have HXX:=zh (HX.out.trans he5)
      have HE5:=zh he5
      obtain ⟨X,hX⟩:∃ X,w5.heap.size=X:=⟨_,rfl⟩
      have HXS:=zh hX
      clear hX he5 rx ro
      go_upto_region 2 with ((with_reducible refine aP lkP rfl (.tmp 5) (.tmp 11) rfl lk0 rfl l vl HVL.out rfl rfl ?_);intro W6 h6)
      have HX6:=zh (show Ext w5 W6 from by rw [← h6.out];exact (Ext.refl w5).alloc' _)
      have HB6:=zh (show Blk W6 X 94 (lkA l) from by rw [← h6.out,← HXS.out];exact Blk.new w5 94 (lkA l))
      have HP6:=zh ((HP.out.ext HE5.out).ext HX6.out)
      have HO6:=zh ((HO.out.ext HE5.out).ext HX6.out)
      have HXW:=zh (HXX.out.trans HX6.out)
      rw [HXS.out]
      clear h6
      have rx:W6.rangeAt w.heap.size 0 (RowT.enc x):=aD HP6.out
      have ro:W6.rangeAt (w.heap.size+1) 0 (RowT.enc R):=aD HO6.out
      have p1:=HO6.out.cell 1
      have l1:=HB6.out.cell 16
      have l2:=HB6.out.cell 17
      have HEX:=zh (iD x R W6 (HS.out.ext HXW.out))
      rw [e2,HVX.out,HVO.out] at HEX
      go_wp2_with (first | (with_reducible refine bL gP (by with_unfolding_all rfl) (.tmp 2) rfl w.heap.size 0 rfl x vx HVX.out rx ?_) | (with_reducible refine bL opP (by with_unfolding_all rfl) (.tmp 3) rfl (w.heap.size+1) 0 rfl R vo HVO.out ro ?_) | fail "A")
      refine HEX.out.mono ?_
      rintro e w7 ⟨rfl,he7⟩
      have HX7:=zh (HXW.out.trans he7)
      have HP7:=zh (HP6.out.ext he7)
      have HO7:=zh (HO6.out.ext he7)
      have HB7:=zh (HB6.out.ext he7)
      have a1:=HP7.out.cell 13
      have a2:=HB7.out.cell 18
      clear he7 rx ro p1 l1 l2 HEX
      go_upto_region 6 with fail
      clear a1 a2
      refine wp_region_held_drew (S:=fun V=>Blk V w.heap.size 86 (stpA x)∧Blk V (w.heap.size+1) 69 (opA R)∧Blk V X 94 (lkA l)∧Ext w V) (by kernel_rfl) (⟨HP7.out.drew,HO7.out.drew,HB7.out.drew,HX7.out.trans ((Ext.refl _).drew')⟩) (fun aA=>?_)
      refine zz0 [0,1,3] ?_;repeat first | refine zz1 ?_ (hy:=by intro W aM;have a0:=aM.2.1.cell 21;go_simp <;> with_reducible rfl) | refine zz2 ?_ | refine zz9 ?_
      refine zu 4 (v:=.agg (nmc l.hs)) aA ?_ (hy:=by exact aF nmP (by rfl) (.tmp 33) rfl X 8 rfl l.hs _ rfl (fun V h=>aDs h.2.2.1))
      refine zzj (VE 2 (.agg (nmc (dO R.pre))) VN) [(2,some 32)] 2 (fun V V' h e=>⟨h.1.ext e,h.2.1.ext e,h.2.2.1.ext e,h.2.2.2.trans e⟩) (ve VN.ext) (zzc ?_ zzn) ?_
      ·refine zzp fun W hE hS K hK => ?_
       go_simp
       go_at_call 149
       refine (HSUM.out _ hS.2.2.2).mono ?_
       rintro e w5 ⟨rfl,he5⟩
       exact zzK (hK.out (.agg (nmc (dO R.pre))) _ (he5) (rfl))
      intro env W hE hS hV
      obtain ⟨h2,-⟩:=zzV hV
      clear hV
      simp only [aO,h2]
      clear h2
      have aA:=hS
      refine zu 5 (v:=.bool false) aA ?_ (hy:=by exact cI (by rfl) (.tmp 32) (.tmp 34) (by rfl) (vx:=.agg (nmc (dO R.pre))) (vy:=.agg (nmc l.hs)) (by rfl) (by rfl) (gI _ _ _ _ _) (HNE.out))
      refine zt 6 aA ?_
      refine wpAnyH_done (by kernel_rfl) ?_ _
      have HX9:=zh aA.2.2.2
      have a1:=aA.1.cell 13
      have a2:=aA.2.2.1.cell 18
      clear aA hE hS
      go_wp2_with fail
      go_ret
      exact ⟨by rw [HSP.out];rfl,HX9.out⟩
     have HSP:=zh (show oU x.s.V x.ht R=0 from by unfold oU;rw [show fdK x.s.V.K R.lk=some l from hf];simp only;rw [if_neg (fun h=>h.elim (fun h=>h h1) (fun h=>h h2)),if_neg (fun h=>h h4),if_neg h3])
     clear hf h1 h2
     go_enter Tryz.func94,Tryz.ntmps94
     go_wp2_with (first | (with_reducible refine aB gP rfl (.tmp 2) rfl w.heap.size 0 rfl x vx HVX.out rx ?_) | (with_reducible refine aB opP rfl (.tmp 3) rfl (w.heap.size+1) 0 rfl R vo HVO.out ro ?_) | fail "A")
     refine HF.out.mono ?_
     rintro e w5 ⟨rfl,he5⟩
     have HXX:=zh (HX.out.trans he5)
     have HE5:=zh he5
     obtain ⟨X,hX⟩:∃ X,w5.heap.size=X:=⟨_,rfl⟩
     have HXS:=zh hX
     clear hX he5 rx ro
     go_upto_region 2 with ((with_reducible refine aP lkP rfl (.tmp 5) (.tmp 11) rfl lk0 rfl l vl HVL.out rfl rfl ?_);intro W6 h6)
     have HX6:=zh (show Ext w5 W6 from by rw [← h6.out];exact (Ext.refl w5).alloc' _)
     have HB6:=zh (show Blk W6 X 94 (lkA l) from by rw [← h6.out,← HXS.out];exact Blk.new w5 94 (lkA l))
     have HP6:=zh ((HP.out.ext HE5.out).ext HX6.out)
     have HO6:=zh ((HO.out.ext HE5.out).ext HX6.out)
     have HXW:=zh (HXX.out.trans HX6.out)
     rw [HXS.out]
     clear h6
     have rx:W6.rangeAt w.heap.size 0 (RowT.enc x):=aD HP6.out
     have ro:W6.rangeAt (w.heap.size+1) 0 (RowT.enc R):=aD HO6.out
     have p1:=HO6.out.cell 1
     have l1:=HB6.out.cell 16
     have l2:=HB6.out.cell 17
     have HEX:=zh (iD x R W6 (HS.out.ext HXW.out))
     rw [e2,HVX.out,HVO.out] at HEX
     go_wp2_with (first | (with_reducible refine bL gP (by with_unfolding_all rfl) (.tmp 2) rfl w.heap.size 0 rfl x vx HVX.out rx ?_) | (with_reducible refine bL opP (by with_unfolding_all rfl) (.tmp 3) rfl (w.heap.size+1) 0 rfl R vo HVO.out ro ?_) | fail "A")
     refine HEX.out.mono ?_
     rintro e w7 ⟨rfl,he7⟩
     have HX7:=zh (HXW.out.trans he7)
     have HP7:=zh (HP6.out.ext he7)
     have HO7:=zh (HO6.out.ext he7)
     have HB7:=zh (HB6.out.ext he7)
     have a1:=HP7.out.cell 13
     have a2:=HB7.out.cell 18
     clear he7 rx ro p1 l1 l2 HEX
     go_upto_region 6 with fail
     clear a1 a2
     refine wp_region_held_drew (S:=fun V=>Blk V w.heap.size 86 (stpA x)∧Blk V (w.heap.size+1) 69 (opA R)∧Blk V X 94 (lkA l)∧Ext w V) (by kernel_rfl) (⟨HP7.out.drew,HO7.out.drew,HB7.out.drew,HX7.out.trans ((Ext.refl _).drew')⟩) (fun aA=>?_)
     refine zz0 [0,1,3] ?_;repeat first | refine zz1 ?_ (hy:=by intro W aM;have a0:=aM.2.1.cell 21;go_simp <;> with_reducible rfl) | refine zz2 ?_ | refine zz9 ?_
     refine zu 4 (v:=.agg (nmc l.hs)) aA ?_ (hy:=by exact aF nmP (by rfl) (.tmp 33) rfl X 8 rfl l.hs _ rfl (fun V h=>aDs h.2.2.1))
     refine zzj (VE 2 (.agg (nmc (dO R.pre))) VN) [(2,some 32)] 2 (fun V V' h e=>⟨h.1.ext e,h.2.1.ext e,h.2.2.1.ext e,h.2.2.2.trans e⟩) (ve VN.ext) (zzc ?_ zzn) ?_
     ·refine zzp fun W hE hS K hK => ?_
      go_simp
      go_at_call 149
      refine (HSUM.out _ hS.2.2.2).mono ?_
      rintro e w5 ⟨rfl,he5⟩
      exact zzK (hK.out (.agg (nmc (dO R.pre))) _ (he5) (rfl))
     intro env W hE hS hV
     obtain ⟨h2,-⟩:=zzV hV
     clear hV
     simp only [aO,h2]
     clear h2
     have aA:=hS
     refine zu 5 (v:=.bool false) aA ?_ (hy:=by exact cI (by rfl) (.tmp 32) (.tmp 34) (by rfl) (vx:=.agg (nmc (dO R.pre))) (vy:=.agg (nmc l.hs)) (by rfl) (by rfl) (gI _ _ _ _ _) (HNE.out))
     refine zt 6 aA ?_
     refine wpAnyH_done (by kernel_rfl) ?_ _
     have HX9:=zh aA.2.2.2
     have a1:=aA.1.cell 13
     have a2:=aA.2.2.1.cell 18
     clear aA hE hS
     go_wp2_with fail
     go_ret
     exact ⟨by rw [HSP.out];rfl,HX9.out⟩
    have HNE:=zh (fun W=>pI (dO R.pre) l.hs W)
    obtain ⟨b3,hb3⟩:∃ b3:Bool,(!decide (dO R.pre=l.hs))=b3:=⟨_,rfl⟩
    rw [hb3] at HNE
    obtain rfl:b3=true:=by rw [← hb3,decide_eq_false h4];rfl
    clear hb3
    have h3:True:=trivial
    by_cases h5:True
    ·have HSP := zh (show oU x.s.V x.ht R = 12 from by unfold oU; rw [show fdK x.s.V.K R.lk = some l from hf]; simp only; rw [if_neg (fun h => h.elim (fun h => h h1) (fun h => h h2)), if_pos h4])
     clear hf h1 h2
     go_enter Tryz.func94,Tryz.ntmps94
     go_wp2_with (first | (with_reducible refine aB gP rfl (.tmp 2) rfl w.heap.size 0 rfl x vx HVX.out rx ?_) | (with_reducible refine aB opP rfl (.tmp 3) rfl (w.heap.size+1) 0 rfl R vo HVO.out ro ?_) | fail "A")
     refine HF.out.mono ?_
     rintro e w5 ⟨rfl,he5⟩
     have HXX:=zh (HX.out.trans he5)
     have HE5:=zh he5
     obtain ⟨X,hX⟩:∃ X,w5.heap.size=X:=⟨_,rfl⟩
     have HXS:=zh hX
     clear hX he5 rx ro
     go_upto_region 2 with ((with_reducible refine aP lkP rfl (.tmp 5) (.tmp 11) rfl lk0 rfl l vl HVL.out rfl rfl ?_);intro W6 h6)
     have HX6:=zh (show Ext w5 W6 from by rw [← h6.out];exact (Ext.refl w5).alloc' _)
     have HB6:=zh (show Blk W6 X 94 (lkA l) from by rw [← h6.out,← HXS.out];exact Blk.new w5 94 (lkA l))
     have HP6:=zh ((HP.out.ext HE5.out).ext HX6.out)
     have HO6:=zh ((HO.out.ext HE5.out).ext HX6.out)
     have HXW:=zh (HXX.out.trans HX6.out)
     rw [HXS.out]
     clear h6
     have rx:W6.rangeAt w.heap.size 0 (RowT.enc x):=aD HP6.out
     have ro:W6.rangeAt (w.heap.size+1) 0 (RowT.enc R):=aD HO6.out
     have p1:=HO6.out.cell 1
     have l1:=HB6.out.cell 16
     have l2:=HB6.out.cell 17
     have HEX:=zh (iD x R W6 (HS.out.ext HXW.out))
     rw [e2,HVX.out,HVO.out] at HEX
     go_wp2_with (first | (with_reducible refine bL gP (by with_unfolding_all rfl) (.tmp 2) rfl w.heap.size 0 rfl x vx HVX.out rx ?_) | (with_reducible refine bL opP (by with_unfolding_all rfl) (.tmp 3) rfl (w.heap.size+1) 0 rfl R vo HVO.out ro ?_) | fail "A")
     refine HEX.out.mono ?_
     rintro e w7 ⟨rfl,he7⟩
     have HX7:=zh (HXW.out.trans he7)
     have HP7:=zh (HP6.out.ext he7)
     have HO7:=zh (HO6.out.ext he7)
     have HB7:=zh (HB6.out.ext he7)
     have a1:=HP7.out.cell 13
     have a2:=HB7.out.cell 18
     clear he7 rx ro p1 l1 l2 HEX
     go_upto_region 6 with fail
     clear a1 a2
     refine wp_region_held_drew (S:=fun V=>Blk V w.heap.size 86 (stpA x)∧Blk V (w.heap.size+1) 69 (opA R)∧Blk V X 94 (lkA l)∧Ext w V) (by kernel_rfl) (⟨HP7.out.drew,HO7.out.drew,HB7.out.drew,HX7.out.trans ((Ext.refl _).drew')⟩) (fun aA=>?_)
     refine zz0 [0,1,3] ?_;repeat first | refine zz1 ?_ (hy:=by intro W aM;have a0:=aM.2.1.cell 21;go_simp <;> with_reducible rfl) | refine zz2 ?_ | refine zz9 ?_
     refine zu 4 (v:=.agg (nmc l.hs)) aA ?_ (hy:=by exact aF nmP (by rfl) (.tmp 33) rfl X 8 rfl l.hs _ rfl (fun V h=>aDs h.2.2.1))
     refine zzj (VE 2 (.agg (nmc (dO R.pre))) VN) [(2,some 32)] 2 (fun V V' h e=>⟨h.1.ext e,h.2.1.ext e,h.2.2.1.ext e,h.2.2.2.trans e⟩) (ve VN.ext) (zzc ?_ zzn) ?_
     ·refine zzp fun W hE hS K hK => ?_
      go_simp
      go_at_call 149
      refine (HSUM.out _ hS.2.2.2).mono ?_
      rintro e w5 ⟨rfl,he5⟩
      exact zzK (hK.out (.agg (nmc (dO R.pre))) _ (he5) (rfl))
     intro env W hE hS hV
     obtain ⟨h2,-⟩:=zzV hV
     clear hV
     simp only [aO,h2]
     clear h2
     have aA:=hS
     refine zu 5 (v:=.bool true) aA ?_ (hy:=by exact cI (by rfl) (.tmp 32) (.tmp 34) (by rfl) (vx:=.agg (nmc (dO R.pre))) (vy:=.agg (nmc l.hs)) (by rfl) (by rfl) (gI _ _ _ _ _) (HNE.out))
     refine zt 6 aA ?_
     refine wpAnyH_done (by kernel_rfl) ?_ _
     have HX9:=zh aA.2.2.2
     have a1:=aA.1.cell 13
     have a2:=aA.2.2.1.cell 18
     clear aA hE hS
     go_wp2_with fail
     go_ret
     exact ⟨by rw [HSP.out];rfl,HX9.out⟩
    exact absurd trivial h5
   have e2:(R.am == bW x.s.C (dS R.lk))=false:=beq_false_of_ne h2
   have HSP:=zh (show oU x.s.V x.ht R=7 from by unfold oU;rw [show fdK x.s.V.K R.lk=some l from hf];simp only;rw [if_pos (.inr h2)])
   clear hf h1 h2
   go_enter Tryz.func94,Tryz.ntmps94
   go_wp2_with (first | (with_reducible refine aB gP rfl (.tmp 2) rfl w.heap.size 0 rfl x vx HVX.out rx ?_) | (with_reducible refine aB opP rfl (.tmp 3) rfl (w.heap.size+1) 0 rfl R vo HVO.out ro ?_) | fail "A")
   refine HF.out.mono ?_
   rintro e w5 ⟨rfl,he5⟩
   have HXX:=zh (HX.out.trans he5)
   have HE5:=zh he5
   obtain ⟨X,hX⟩:∃ X,w5.heap.size=X:=⟨_,rfl⟩
   have HXS:=zh hX
   clear hX he5 rx ro
   go_upto_region 2 with ((with_reducible refine aP lkP rfl (.tmp 5) (.tmp 11) rfl lk0 rfl l vl HVL.out rfl rfl ?_);intro W6 h6)
   have HX6:=zh (show Ext w5 W6 from by rw [← h6.out];exact (Ext.refl w5).alloc' _)
   have HB6:=zh (show Blk W6 X 94 (lkA l) from by rw [← h6.out,← HXS.out];exact Blk.new w5 94 (lkA l))
   have HP6:=zh ((HP.out.ext HE5.out).ext HX6.out)
   have HO6:=zh ((HO.out.ext HE5.out).ext HX6.out)
   have HXW:=zh (HXX.out.trans HX6.out)
   rw [HXS.out]
   clear h6
   have rx:W6.rangeAt w.heap.size 0 (RowT.enc x):=aD HP6.out
   have ro:W6.rangeAt (w.heap.size+1) 0 (RowT.enc R):=aD HO6.out
   have p1:=HO6.out.cell 1
   have l1:=HB6.out.cell 16
   have l2:=HB6.out.cell 17
   have HEX:=zh (iD x R W6 (HS.out.ext HXW.out))
   rw [e2,HVX.out,HVO.out] at HEX
   go_wp2_with (first | (with_reducible refine bL gP (by with_unfolding_all rfl) (.tmp 2) rfl w.heap.size 0 rfl x vx HVX.out rx ?_) | (with_reducible refine bL opP (by with_unfolding_all rfl) (.tmp 3) rfl (w.heap.size+1) 0 rfl R vo HVO.out ro ?_) | fail "A")
   refine HEX.out.mono ?_
   rintro e w7 ⟨rfl,he7⟩
   have HX7:=zh (HXW.out.trans he7)
   have HP7:=zh (HP6.out.ext he7)
   have HO7:=zh (HO6.out.ext he7)
   have HB7:=zh (HB6.out.ext he7)
   have a1:=HP7.out.cell 13
   have a2:=HB7.out.cell 18
   clear he7 rx ro p1 l1 l2 HEX
   go_wp2_with fail
   go_ret
   exact ⟨by rw [HSP.out];rfl,HX7.out⟩
  have b1:(R.tO != l.tO)=true:=bne_iff_ne.2 h1
  have HSP:=zh (show oU x.s.V x.ht R=7 from by unfold oU;rw [show fdK x.s.V.K R.lk=some l from hf];simp only;rw [if_pos (.inl h1)])
  clear hf h1
  go_enter Tryz.func94,Tryz.ntmps94
  go_wp2_with (first | (with_reducible refine aB gP rfl (.tmp 2) rfl w.heap.size 0 rfl x vx HVX.out rx ?_) | (with_reducible refine aB opP rfl (.tmp 3) rfl (w.heap.size+1) 0 rfl R vo HVO.out ro ?_) | fail "A")
  refine HF.out.mono ?_
  rintro e w5 ⟨rfl,he5⟩
  have HXX:=zh (HX.out.trans he5)
  have HE5:=zh he5
  obtain ⟨X,hX⟩:∃ X,w5.heap.size=X:=⟨_,rfl⟩
  have HXS:=zh hX
  clear hX he5 rx ro
  go_upto_region 2 with ((with_reducible refine aP lkP rfl (.tmp 5) (.tmp 11) rfl lk0 rfl l vl HVL.out rfl rfl ?_);intro W6 h6)
  have HX6:=zh (show Ext w5 W6 from by rw [← h6.out];exact (Ext.refl w5).alloc' _)
  have HB6:=zh (show Blk W6 X 94 (lkA l) from by rw [← h6.out,← HXS.out];exact Blk.new w5 94 (lkA l))
  have HP6:=zh ((HP.out.ext HE5.out).ext HX6.out)
  have HO6:=zh ((HO.out.ext HE5.out).ext HX6.out)
  have HXW:=zh (HXX.out.trans HX6.out)
  rw [HXS.out]
  clear h6
  have rx:W6.rangeAt w.heap.size 0 (RowT.enc x):=aD HP6.out
  have ro:W6.rangeAt (w.heap.size+1) 0 (RowT.enc R):=aD HO6.out
  have p1:=HO6.out.cell 1
  have l1:=HB6.out.cell 16
  have l2:=HB6.out.cell 17
  go_wp2_with fail
  go_ret
  exact ⟨by rw [HSP.out];rfl,HXW.out⟩
end
end Go.Proofs.YtohmmcahpakokaaGreat
