/- The view that bytes tell (snapshot.Decode). -/
import Derived.Test.YtbfepgjeecndiaaGreatJ23
namespace Go.Proofs.YtbfepgjeecndiaaGreat
set_option maxRecDepth 100000
set_option maxHeartbeats 8000000
open Go.RowKit
set_option linter.unusedVariables false
set_option linter.unusedSimpArgs false
attribute [local go_sem ↓] Go.wp_at_zero Go.wp_at_succ
theorem sgE : Elem Tryz.prog 22 48 (.agg sg0) 23 88 := ⟨Tryz.underlying22, by kernel_rfl, rfl, by decide⟩
theorem teE : Elem Tryz.prog 23 28 (.slice none 0 0) 1 24 := ⟨Tryz.underlying23, by kernel_rfl, rfl, by decide⟩
theorem run_buildSg1 (R : SgR) (w : World) : (Instr.buildSlice 22 1 #[(0, .agg (sgA R))]).run Tryz.prog w = .ok (.slice (some ⟨w.heap.size, 0, none⟩) 1 1) (w.alloc (.cells (sgA R) 48)) := by kernel_rfl
theorem run_buildTe1 (A : Option Addr) (n c : Nat) (w : World) : (Instr.buildSlice 23 1 #[(0, .slice A n c)]).run Tryz.prog w = .ok (.slice (some ⟨w.heap.size, 0, none⟩) 1 1) (w.alloc (.cells #[.slice A n c] 28)) := by kernel_rfl
theorem cuint4_any {D : Nat} (B : Nat) (s : Option (List UInt8)) (w : World) (h : CurAt 101 D w B s) :
  Calls Tryz.prog 48 #[.pointer (some ⟨B, 0, none⟩), .int .i64 4] w fun e w' => ∃ N : Nat, e = .returned (.int .i64 (N : Int)) ∧ (rNum 4 s).toNat = N ∧ CurAt 101 D w' B (rRest 4 s) ∧ w.grownBy w' (some B) := by
 refine (cuint_any (D := D) 4 (by omega) (by omega) B s w h).mono ?_
 rintro e w' ⟨he, h1, h2⟩
 have := rNum_bd 4 s
 exact ⟨(rNum 4 s).toNat, by rw [he, Int.toNat_of_nonneg (by omega)], rfl, h1, h2⟩
theorem cfix393 {D : Nat} (B : Nat) (s : Option (List UInt8)) (w : World) (h : CurAt 101 D w B s) : Calls Tryz.prog 51 #[.pointer (some ⟨B, 0, none⟩), .int .i64 393] w (TkOutF 101 D B 393 s w) := cfixed_any 393 (by omega) (by omega) B s w h
section
variable {o : Oper} {a : Act} {w : World} {ops : Array Oper} {rest : List Oper} {Q : Exit → Act → World → Prop}
theorem wpList_storeVw (hgd : o.guard = none) (x y : Operand) (ho : o.op = .store 25 x y) (g : Nat) (A : Option Addr) (n c : Nat) (B : Option Addr) (m d : Nat) (hx : a.eval x = .pointer (some ⟨g, 0, none⟩)) (hy : a.eval y = .agg (vwA A n c B m d)) (ht : w.there g 0 2)
  (h : wpList Tryz.prog ops Q rest (a.put o.dst undef) (w.setCells g 0 (vwA A n c B m d).toList)) : wpList Tryz.prog ops Q (o :: rest) a w :=
 wpList_store_mid hgd 25 x y ho g 0 (vwA A n c B m d) hx hy ht (by kernel_rfl) (by simp [Value.oneCell']) h
end
theorem ascG_map {α β : Type} [RowT α] {f : α → α → Bool} {g : β → β → Bool} {v : α → β} (hf : ∀ x y, f x y = g (v x) (v y)) {L M : List α} (h : L.map v = M.map v) : ascG f L = ascG f M := by
 have hl : L.length = M.length := by have := congrArg List.length h; simpa using this
 have hk : ∀ k, k < L.length → v (nthG L k) = v (nthG M k) := fun k hk => by
  have h1 := congrArg (fun l => l[k]?) h
  simp only [List.getElem?_map, nthG_get hk, nthG_get (show k < M.length by omega), Option.map_some, Option.some.injEq] at h1
  exact h1
 unfold ascG
 rw [hl]
 refine decide_eq_decide.2 ⟨fun h k hk2 => ?_, fun h k hk2 => ?_⟩
 ·have := h k hk2
  rw [hf] at this ⊢
  rwa [← hk k (by omega), ← hk (k + 1) (by omega)]
 ·have := h k hk2
  rw [hf] at this ⊢
  rwa [hk k (by omega), hk (k + 1) (by omega)]
theorem ordV_vals {L M : List SgR} {X Y : List TeR} (h : (L.map SgR.V, X.map TeR.l) = (M.map SgR.V, Y.map TeR.l)) : ordV M Y = ordV L X := by
 injection h with h1 h2
 unfold ordV
 rw [ascG_map (f := ltSg) (g := ltSv) (v := SgR.V) (fun _ _ => rfl) h1, ascG_map (f := ltTe) (g := lexB) (v := TeR.l) (fun _ _ => rfl) h2]
theorem chunk_no {r : List UInt8} (h : sdC (rTkF 393 (some r)) ≠ 0) : chunk r = none := by
 unfold chunk
 rw [if_neg]
 rintro ⟨h1, h2⟩
 apply h
 have e : rTkF 393 (some r) = r.take 393 := by simp only [rTkF]; rw [if_neg (by omega)]
 have hl : (r.take 393).length = 393 := by rw [List.length_take]; omega
 rw [e]; unfold sdC; rw [hl, if_neg (by omega), if_neg (by omega)]
 unfold vdC
 rw [List.take_take, Nat.min_eq_left (by omega), if_pos h2]
theorem chunk_yes {r : List UInt8} (h : sdC (rTkF 393 (some r)) = 0) : 393 ≤ r.length ∧ rTkF 393 (some r) = r.take 393 ∧ rRest 393 (some r) = some (r.drop 393) ∧ chunk r = some ((decVt (r.take 23), (r.take 393).drop 23), r.drop 393) := by
 by_cases hl : 393 ≤ r.length
 ·have e : rTkF 393 (some r) = r.take 393 := by simp only [rTkF]; rw [if_neg (by omega)]
  have e2 : rRest 393 (some r) = some (r.drop 393) := by simp only [rRest]; rw [if_neg (by omega)]
  have hl2 : (r.take 393).length = 393 := by rw [List.length_take]; omega
  rw [e] at h
  unfold sdC at h
  rw [hl2, if_neg (by omega), if_neg (by omega)] at h
  unfold vdC at h
  rw [List.take_take, Nat.min_eq_left (by omega)] at h
  have hv : vldVt (decVt (r.take 23)) = true := by
   cases hh : vldVt (decVt (r.take 23)) with
   | true => rfl
   | false => rw [hh] at h; simp at h
  exact ⟨hl, e, e2, by unfold chunk; rw [if_pos ⟨hl, hv⟩]⟩
 ·exfalso
  have e : rTkF 393 (some r) = [] := by simp only [rTkF]; rw [if_pos (by omega)]
  rw [e] at h
  simp [sdC] at h
theorem rBlob_len (r : List UInt8) (h : rAft (some r) ≠ none) : ∃ r', rAft (some r) = some r' ∧ r'.length + 2 ≤ r.length := by
 simp only [rAft] at h ⊢
 by_cases hb : blobOk r = true
 ·rw [if_pos hb] at h ⊢
  refine ⟨_, rfl, ?_⟩
  have := of_decide_eq_true hb
  rw [List.length_drop]; omega
 ·rw [if_neg hb] at h; exact absurd rfl h
theorem snDec_any (A : Option Addr) (n c : Nat) (l : List UInt8) (w : World) (h : SlB w A n c l) (hn : n ≤ 100000000) :
  Calls Tryz.prog 26 #[.slice A n c] w (VwDec w l) := by
 have hD : LowB w.heap.size A n := by
  rcases Nat.eq_zero_or_pos n with h0 | h0
  ·exact .inl h0
  ·obtain ⟨b, o, e, _, hb⟩ := h.at h0
   exact .inr ⟨b, o, e, hb⟩
 have hE0 := (Ext.refl w).alloc' (.cells (vwA none 0 0 none 0 0) 25)
 have HO := Lib.hid (cnew_any (D := w.heap.size) A n c l _ (h.ext hE0) (by omega) hD)
 have HE0 := Lib.hid hE0
 have HR0 := Lib.hid (Blk.new w 25 (vwA none 0 0 none 0 0))
 have HLN := Lib.hid h.len
 clear h hD hE0
 go_enter Tryz.func26, Tryz.ntmps26
 go_wp2_with fail
 refine HO.out.mono ?_
 rintro e w1 ⟨CB, rfl, hC1, hB1, hE1⟩
 have HC1 := Lib.hid hC1
 have HB1 := Lib.hid (show w.heap.size + 1 ≤ CB by simpa using hB1)
 have HE1 := Lib.hid (HE0.out.trans hE1)
 have HR1 := Lib.hid (HR0.out.ext hE1)
 clear hC1 hB1 hE1 HO HE0 HR0
 go_wp2_with fail
 have HA1 := Lib.hid ((Ext.refl w1).alloc' (.cells (vwA none 0 0 none 0 0) 25))
 have HBV := Lib.hid (Blk.new w1 25 (vwA none 0 0 none 0 0))
 refine (cuint4_any CB (some l) _ (HC1.out.ext HA1.out)).mono ?_
 rintro e w2 ⟨N, rfl, hN, hC2, hg2⟩
 have hlt1 : w.heap.size < w1.heap.size := HR1.out.lt
 have HN := Lib.hid hN
 have bN : (N : Int) ≤ 4294967295 := by have := rNum_bd 4 (some l); have h4 := hN; omega
 have HD2 := Lib.hid (show VdS w w2 CB w1.heap.size none 0 0 [] none 0 0 [] (rRest 4 (some l)) from
  VdS.read (w := w1.alloc (.cells (vwA none 0 0 none 0 0) 25)) (s := some l) ⟨HC1.out.ext HA1.out, HBV.out, World.ownsRow_nil _ _ _ _, World.ownsRow_nil _ _ _ _, (fun S hS => by cases hS), (fun T hT => by cases hT), HE1.out.trans HA1.out, by have := HB1.out; omega, hlt1, HR1.out.ext HA1.out⟩ hC2 hg2)
 generalize w1.heap.size = VB at *
 clear hN hC2 hg2 HC1 HE1 HR1 HA1 HBV hlt1
 obtain ⟨s1, hs1⟩ : ∃ s1, rRest 4 (some l) = s1 := ⟨_, rfl⟩
 have HRW := Lib.hid (show rawVw l = contS N s1 [] by unfold rawVw; rw [HN.out, hs1])
 have HS1 := Lib.hid (show (s1 = none → N = 0) ∧ ∀ r, s1 = some r → r.length ≤ n from by
  constructor
  ·intro h
   rw [← HN.out]
   rw [← hs1] at h
   simp only [rRest, rNum] at h ⊢
   by_cases hl : l.length < 4
   ·rw [if_pos hl]; rfl
   ·rw [if_neg hl] at h; cases h
  ·intro r h
   rw [← hs1] at h
   simp only [rRest] at h
   by_cases hl : l.length < 4
   ·rw [if_pos hl] at h; cases h
   ·rw [if_neg hl] at h; cases h; rw [List.length_drop, HLN.out]; omega)
 rw [hs1] at HD2
 clear hs1
 go_wp2_with fail
 go_loopw [6] (fun i wr => ∃ (j : Nat) (A4 : Option Addr) (n4 c4 : Nat) (L : List SgR) (s : Option (List UInt8)), (j : Int) ≤ 4294967295 ∧ i = .int .i64 (j : Int) ∧ Hid (rawVw l = contS j s (L.map SgR.V)) ∧ Hid (s = none → j = 0) ∧ Hid (∀ r, s = some r → 393 * n4 + r.length ≤ n) ∧ Hid (n4 ≤ 1000000) ∧ Hid (VdS w wr CB VB A4 n4 c4 L none 0 0 [] s)) (fun i _ => (intOf i).toNat)
 case atStart => exact ⟨N, none, 0, 0, [], s1, bN, rfl, HRW, Lib.hid HS1.out.1, Lib.hid (fun r hr => by have := HS1.out.2 r hr; omega), Lib.hid (by omega), HD2⟩
 case round =>
  obtain ⟨j, A4, n4, c4, L, s, hj, rfl, HW, HZ, HLE, HN4, HD⟩ := hrel
  rcases Nat.eq_zero_or_pos j with rfl | hpos
  ·have hN5 : ∀ N : Nat, (rNum 4 s).toNat = N → (N : Int) ≤ 4294967295 := fun N h => by have := rNum_bd 4 s; omega
   have HW0 := Lib.hid HW.out
   have i0 : ¬ (0 : Int) < ((0 : Nat) : Int) := by omega
   have HLE0 := Lib.hid HLE.out
   go_wp2_with fail
   refine (cuint4_any CB s _ HD.out.cur).mono ?_
   rintro e w5 ⟨M, rfl, hM, hC5, hg5⟩
   have bM := hN5 M hM
   have HD5 := Lib.hid (HD.out.read hC5 hg5)
   have HW5 := Lib.hid (show rawVw l = contT M (rRest 4 s) (L.map SgR.V) [] by
    rw [HW0.out]
    cases s with
    | none => rfl
    | some r => rw [contS_zero, hM])
   have HB5 := Lib.hid (show ∀ r, rRest 4 s = some r → r.length ≤ n from by
    intro r hr
    cases s with
    | none => cases hr
    | some r0 =>
     have := HLE0.out r0 rfl
     simp only [rRest] at hr
     by_cases hl : r0.length < 4
     ·rw [if_pos hl] at hr; cases hr
     ·rw [if_neg hl] at hr; cases hr; rw [List.length_drop]; omega)
   obtain ⟨s2, hs2⟩ : ∃ s2, rRest 4 s = s2 := ⟨_, rfl⟩
   rw [hs2] at HD5 HW5 HB5
   clear hN5 HW0 HLE0 hM hC5 hg5 hs2 HD HW HZ HLE i0
   go_wp2_with fail
   go_loopw [9] (fun i wr => ∃ (j : Nat) (B4 : Option Addr) (m4 d4 : Nat) (X4 : List TeR) (s3 : Option (List UInt8)), (j : Int) ≤ 4294967295 ∧ i = .int .i64 (j : Int) ∧ Hid (rawVw l = contT j s3 (L.map SgR.V) (X4.map TeR.l)) ∧ Hid (∀ r, s3 = some r → 2 * m4 + r.length ≤ n) ∧ Hid (m4 ≤ 100000000) ∧ Hid (VdS w wr CB VB A4 n4 c4 L B4 m4 d4 X4 s3)) (fun i _ => (intOf i).toNat)
   case atStart => exact ⟨M, none, 0, 0, [], s2, bM, rfl, HW5, Lib.hid (fun r hr => by have := HB5.out r hr; omega), Lib.hid (by omega), HD5⟩
   case round =>
    obtain ⟨j, B4, m4, d4, X4, s3, hj, rfl, HW, HLE, HM4, HDx⟩ := hrel
    rcases Nat.eq_zero_or_pos j with rfl | hpos
    ·have i0 : ¬ (0 : Int) < ((0 : Nat) : Int) := by omega
     have HEX := Lib.hid (show rawVw l = if s3 = some [] then some (L.map SgR.V, X4.map TeR.l) else none by rw [HW.out, contT_zero])
     clear HW HLE HM4
     have HDN := Lib.hid (HDx.out)
     clear HDx
     go_wp2_with (first | (go_at_call 49; (with_reducible refine (cok_any w.heap.size CB _ _ HDN.out.cur).mono ?_); rintro e wv ⟨rfl, rfl⟩))
     refine (cdone_any CB s3 _ HDN.out.cur).mono ?_
     rintro e w9 ⟨rfl, q9, rfl⟩
     have HD9 := Lib.hid (HDN.out.ext (drewN_ext _ q9))
     generalize wr.drewN q9 = w9 at HD9 ⊢
     have ht : w9.there w.heap.size 0 2 := there_of_blk HD9.out.res
     clear HDN
     by_cases hst : s3 = some []
     ·have HRW2 := Lib.hid (show rawVw l = some (L.map SgR.V, X4.map TeR.l) by rw [HEX.out, if_pos hst])
      rw [decide_eq_true hst]
      clear hst HEX
      obtain ⟨y0, y1⟩ := vw_facts HD9.out.blk
      go_wp2_with fail
      refine (ordered_any A4 n4 c4 L B4 m4 d4 X4 _ HD9.out.sl1 HD9.out.sl2).mono ?_
      rintro e w10 ⟨rfl, he10⟩
      have HD10 := Lib.hid (HD9.out.ext he10)
      have ht : w10.there w.heap.size 0 2 := there_of_blk HD10.out.res
      clear he10 y0 y1 HD9
      cases hv : ordV L X4 with
      | true =>
       have hst := blk_whole (ds := vwA A4 n4 c4 B4 m4 d4) HD10.out.res rfl
       obtain ⟨y0, y1⟩ := vw_facts HD10.out.blk
       go_wp2_with (first | (with_reducible refine wpList_storeVw rfl (.tmp 2) (.tmp 63) rfl w.heap.size A4 n4 c4 B4 m4 d4 rfl rfl ht ?_))
       exact bodyPost_ret (v := .tuple #[.agg (vwA A4 n4 c4 B4 m4 d4), .int .i64 0]) (retCV rfl _ _ w.heap.size _ _ rfl rfl (run_loadVar_row _ _ _ _ _ (0, 0) _ hst Tryz.underlying25 rfl (by kernel_rfl))) rfl ⟨Below.setCells' HD10.out.low (Nat.le_refl _) _ _, .inl ⟨A4, n4, c4, L, B4, m4, d4, X4, rfl, HD10.out.vwo.set HD10.out.res _, HRW2.out, hv, fun S hS => (HD10.out.sig S hS).2.2⟩⟩
      | false =>
       have hst := blk_whole (ds := vwA none 0 0 none 0 0) HD10.out.res rfl
       have HV := Lib.hid (fun (L' : List SgR) (X' : List TeR) (h : rawVw l = some (L'.map SgR.V, X'.map TeR.l)) => show ordV L' X' = false from by
        rw [HRW2.out] at h
        rw [← hv]; exact ordV_vals (Option.some.inj h))
       clear hv
       go_wp2_with (first | (with_reducible refine wpList_storeVw rfl (.tmp 2) (.tmp 62) rfl w.heap.size none 0 0 none 0 0 rfl rfl ht ?_))
       exact bodyPost_ret (v := .tuple #[.agg (vwA none 0 0 none 0 0), .int .i64 4]) (retCV rfl _ _ w.heap.size _ _ rfl rfl (run_loadVar_row _ _ _ _ _ (0, 0) _ hst Tryz.underlying25 rfl (by kernel_rfl))) rfl ⟨Below.setCells' HD10.out.low (Nat.le_refl _) _ _, .inr ⟨rfl, HV.out⟩⟩
     ·have HNO := Lib.hid (show rawVw l = none by rw [HEX.out, if_neg hst])
      have hst2 := blk_whole (ds := vwA none 0 0 none 0 0) HD9.out.res rfl
      rw [decide_eq_false hst]
      clear hst HEX
      have hst := hst2
      go_wp2_with (first | (with_reducible refine wpList_storeVw rfl (.tmp 2) (.tmp 62) rfl w.heap.size none 0 0 none 0 0 rfl rfl ht ?_))
      exact bodyPost_ret (v := .tuple #[.agg (vwA none 0 0 none 0 0), .int .i64 4]) (retCV rfl _ _ w.heap.size _ _ rfl rfl (run_loadVar_row _ _ _ _ _ (0, 0) _ hst Tryz.underlying25 rfl (by kernel_rfl))) rfl ⟨Below.setCells' HD9.out.low (Nat.le_refl _) _ _, .inr ⟨rfl, fun L X h => by rw [HNO.out] at h; cases h⟩⟩
    ·obtain ⟨j, rfl⟩ : ∃ q, j = q + 1 := ⟨j - 1, by omega⟩
     have i1 : (0 : Int) < ((j + 1 : Nat) : Int) := by omega
     by_cases hs3 : s3 = none
     ·have HEX := Lib.hid (show rawVw l = if s3 = some [] then some (L.map SgR.V, X4.map TeR.l) else none by rw [HW.out]; simp [hs3, contT_none])
      have hi : s3.isSome = false := by rw [hs3]; rfl
      have HCO := Lib.hid (fun (W : World) (h : CurAt 101 w.heap.size W CB s3) => show Calls Tryz.prog 49 #[.pointer (some ⟨CB, 0, none⟩)] W (fun e w' => e = .returned (.bool false) ∧ W = w') from by have := cok_any w.heap.size CB s3 W h; rw [hi] at this; exact this)
      clear hi
      clear HW HLE HM4 hs3
      have HDN := Lib.hid (HDx.out)
      clear HDx
      go_wp2_with (first | (go_at_call 49; (with_reducible refine (HCO.out _ HDN.out.cur).mono ?_); rintro e wv ⟨rfl, rfl⟩))
      refine (cdone_any CB s3 _ HDN.out.cur).mono ?_
      rintro e w9 ⟨rfl, q9, rfl⟩
      have HD9 := Lib.hid (HDN.out.ext (drewN_ext _ q9))
      generalize wr.drewN q9 = w9 at HD9 ⊢
      have ht : w9.there w.heap.size 0 2 := there_of_blk HD9.out.res
      clear HDN
      by_cases hst : s3 = some []
      ·have HRW2 := Lib.hid (show rawVw l = some (L.map SgR.V, X4.map TeR.l) by rw [HEX.out, if_pos hst])
       rw [decide_eq_true hst]
       clear hst HEX
       obtain ⟨y0, y1⟩ := vw_facts HD9.out.blk
       go_wp2_with fail
       refine (ordered_any A4 n4 c4 L B4 m4 d4 X4 _ HD9.out.sl1 HD9.out.sl2).mono ?_
       rintro e w10 ⟨rfl, he10⟩
       have HD10 := Lib.hid (HD9.out.ext he10)
       have ht : w10.there w.heap.size 0 2 := there_of_blk HD10.out.res
       clear he10 y0 y1 HD9
       cases hv : ordV L X4 with
       | true =>
        have hst := blk_whole (ds := vwA A4 n4 c4 B4 m4 d4) HD10.out.res rfl
        obtain ⟨y0, y1⟩ := vw_facts HD10.out.blk
        go_wp2_with (first | (with_reducible refine wpList_storeVw rfl (.tmp 2) (.tmp 63) rfl w.heap.size A4 n4 c4 B4 m4 d4 rfl rfl ht ?_))
        exact bodyPost_ret (v := .tuple #[.agg (vwA A4 n4 c4 B4 m4 d4), .int .i64 0]) (retCV rfl _ _ w.heap.size _ _ rfl rfl (run_loadVar_row _ _ _ _ _ (0, 0) _ hst Tryz.underlying25 rfl (by kernel_rfl))) rfl ⟨Below.setCells' HD10.out.low (Nat.le_refl _) _ _, .inl ⟨A4, n4, c4, L, B4, m4, d4, X4, rfl, HD10.out.vwo.set HD10.out.res _, HRW2.out, hv, fun S hS => (HD10.out.sig S hS).2.2⟩⟩
       | false =>
        have hst := blk_whole (ds := vwA none 0 0 none 0 0) HD10.out.res rfl
        have HV := Lib.hid (fun (L' : List SgR) (X' : List TeR) (h : rawVw l = some (L'.map SgR.V, X'.map TeR.l)) => show ordV L' X' = false from by
         rw [HRW2.out] at h
         rw [← hv]; exact ordV_vals (Option.some.inj h))
        clear hv
        go_wp2_with (first | (with_reducible refine wpList_storeVw rfl (.tmp 2) (.tmp 62) rfl w.heap.size none 0 0 none 0 0 rfl rfl ht ?_))
        exact bodyPost_ret (v := .tuple #[.agg (vwA none 0 0 none 0 0), .int .i64 4]) (retCV rfl _ _ w.heap.size _ _ rfl rfl (run_loadVar_row _ _ _ _ _ (0, 0) _ hst Tryz.underlying25 rfl (by kernel_rfl))) rfl ⟨Below.setCells' HD10.out.low (Nat.le_refl _) _ _, .inr ⟨rfl, HV.out⟩⟩
      ·have HNO := Lib.hid (show rawVw l = none by rw [HEX.out, if_neg hst])
       have hst2 := blk_whole (ds := vwA none 0 0 none 0 0) HD9.out.res rfl
       rw [decide_eq_false hst]
       clear hst HEX
       have hst := hst2
       go_wp2_with (first | (with_reducible refine wpList_storeVw rfl (.tmp 2) (.tmp 62) rfl w.heap.size none 0 0 none 0 0 rfl rfl ht ?_))
       exact bodyPost_ret (v := .tuple #[.agg (vwA none 0 0 none 0 0), .int .i64 4]) (retCV rfl _ _ w.heap.size _ _ rfl rfl (run_loadVar_row _ _ _ _ _ (0, 0) _ hst Tryz.underlying25 rfl (by kernel_rfl))) rfl ⟨Below.setCells' HD9.out.low (Nat.le_refl _) _ _, .inr ⟨rfl, fun L X h => by rw [HNO.out] at h; cases h⟩⟩
     ·obtain ⟨r, rfl⟩ : ∃ r, s3 = some r := by
       cases s3 with
       | none => exact absurd rfl hs3
       | some r => exact ⟨r, rfl⟩
      clear hs3
      have i2 : IntKind.i64.wrap (((j + 1 : Nat) : Int) - 1) = (j : Int) := by rw [IntKind.wrap_i64]; omega
      have i3 : (((j + 1 : Nat) : Int) - 1) = (j : Int) := by omega
      have HW2 := Lib.hid (show rawVw l = contT j (rAft (some r)) (L.map SgR.V) (X4.map TeR.l ++ [rBlob (some r)]) by rw [HW.out, contT_step])
      have HL2 := Lib.hid (show (∀ r', rAft (some r) = some r' → 2 * (m4 + 1) + r'.length ≤ n) from fun r' hr' => by
       have := HLE.out r rfl
       obtain ⟨r2, h1, h2⟩ := rBlob_len r (by rw [hr']; simp)
       rw [h1] at hr'; cases hr'; omega)
      have HM2 := Lib.hid (show m4 + 1 ≤ 100000000 from by have := HLE.out r rfl; omega)
      have hm4 := HM2.out
      have q0 : wr.cell? ⟨VB, 1, none⟩ = some (.slice B4 m4 d4) := HDx.out.blk.cell 1
      have hbs := fun (A : Option Addr) (n c : Nat) (W : World) => run_buildTe1 A n c W
      have HCO := Lib.hid (fun (W : World) (h : CurAt 101 w.heap.size W CB (some r)) => show Calls Tryz.prog 49 #[.pointer (some ⟨CB, 0, none⟩)] W (fun e w' => e = .returned (.bool true) ∧ W = w') from cok_any w.heap.size CB (some r) W h)
      obtain ⟨p, hp⟩ : ∃ p, rBlob (some r) = p := ⟨_, rfl⟩
      obtain ⟨s4, hs4⟩ : ∃ s4, rAft (some r) = s4 := ⟨_, rfl⟩
      have HCB := Lib.hid (fun (W : World) (h : CurAt 101 w.heap.size W CB (some r)) => show Calls Tryz.prog 52 #[.pointer (some ⟨CB, 0, none⟩)] W (fun e w' => ∃ A' n' c', e = .returned (.slice A' n' c') ∧ OwnB w' W.heap.size 5 A' n' c' p ∧ CurAt 101 w.heap.size w' CB s4 ∧ W.grownBy w' (some CB)) from by rw [← hp, ← hs4]; exact cblob_any w.heap.size CB (some r) W h)
      rw [hp, hs4] at HW2
      rw [hs4] at HL2
      clear hp hs4 HW HLE HM4
      go_wp2_with (first | (go_at_call 49; (with_reducible refine (HCO.out _ HDx.out.cur).mono ?_); rintro e wv ⟨rfl, rfl⟩))
      have HDd := Lib.hid (HDx.out.ext (Ext.refl wr).drew')
      go_region_law (first | (go_simp; go_at_call 52; refine (HCB.out wr.drew HDd.out.cur).mono ?_; rintro e w6 ⟨A6, n6, c6, rfl, hO6, hC6, hg6⟩; have HD6 := Lib.hid ((HDd.out.read hC6 hg6).ext ((Ext.refl w6).alloc' (.cells #[.slice A6 n6 c6] 28))); have HOW6 := Lib.hid (OwnB.alloc (own_mono hO6 HDd.out.low.size) (.cells #[.slice A6 n6 c6] 28)); have q6 : w6.cell? ⟨VB, 1, none⟩ = some (.slice B4 m4 d4) := (HDd.out.read hC6 hg6).blk.cell 1; have q7 : (w6.alloc (.cells #[.slice A6 n6 c6] 28)).cell? ⟨VB, 1, none⟩ = some (.slice B4 m4 d4) := HD6.out.blk.cell 1; clear hO6 hC6 hg6) | (refine step_appG' teE rfl (.tmp 48) (.tmp 51) rfl w.heap.size B4 m4 d4 (gcs X4) (by rfl) HD6.out.own2 (some ⟨w6.heap.size, 0, none⟩) 1 1 [.slice A6 n6 c6] (by rfl) (Rd.of_blk (Blk.new w6 28 #[.slice A6 n6 c6])) (by rfl) (fun u hu => by rw [List.mem_singleton.1 hu]; rfl) (by omega) (by omega) HD6.out.low.size ?_; intro B7 d7 w7 hO7 hg7; have HD7 := Lib.hid (HD6.out.push2 (T := ⟨A6, n6, c6, p⟩) HOW6.out hg7 hO7); have hb7 := HD6.out.blk.grown hg7 (own_other HD6.out.own2 HD6.out.blk (by decide)); have q8 : w7.cell? ⟨VB, 1, none⟩ = some (.slice B4 m4 d4) := hb7.cell 1; have f8 := hb7.frozen 1; clear hO7 hg7 hb7))
      all_goals (
       have HW3 := Lib.hid (show rawVw l = contT j s4 (L.map SgR.V) ((X4 ++ [TeR.mk A6 n6 c6 p]).map TeR.l) by rw [HW2.out, List.map_append]; rfl)
       have HD8 := Lib.hid HD7.out
       clear HD7 HD6 HDx HDd
       go_wp2_with fail
       go_roundw
       case rel => exact ⟨j, B7, m4 + 1, d7, X4 ++ [TeR.mk A6 n6 c6 p], s4, by omega, by go_num, HW3, HL2, HM2, HD8⟩
       case measure => simp [intOf])
  ·obtain ⟨j, rfl⟩ : ∃ q, j = q + 1 := ⟨j - 1, by omega⟩
   obtain ⟨r, rfl⟩ : ∃ r, s = some r := by
    cases s with
    | none => have := HZ.out rfl; omega
    | some r => exact ⟨r, rfl⟩
   have i1 : (0 : Int) < ((j + 1 : Nat) : Int) := by omega
   have i2 : IntKind.i64.wrap (((j + 1 : Nat) : Int) - 1) = (j : Int) := by rw [IntKind.wrap_i64]; omega
   have i3 : (((j + 1 : Nat) : Int) - 1) = (j : Int) := by omega
   go_wp2_with (first | (go_at_call 49; (with_reducible refine (cok_any w.heap.size CB (some r) _ HD.out.cur).mono ?_); rintro e wv ⟨rfl, rfl⟩))
   refine (cfix393 CB (some r) _ HD.out.cur).mono ?_
   rintro e w3 ⟨A5, n5, c5, rfl, hs5, hc5, hg5⟩
   have HD3 := Lib.hid (HD.out.read hc5 hg5)
   have HS5 := Lib.hid hs5
   clear hs5 hc5 hg5 HD
   go_wp2_with fail
   refine (sgDec_any A5 n5 c5 (rTkF 393 (some r)) w3 HS5.out).mono ?_
   rintro e w4 ⟨S, rfl, hok, he4, hy, hno, how⟩
   have HD4 := Lib.hid (HD3.out.ext (he4.trans ((Ext.refl w4).alloc' (.cells (sgA S) 48))))
   have HOW := Lib.hid (show OwnB (w4.alloc (.cells (sgA S) 48)) w.heap.size 5 S.A S.n S.c S.sig from (own_mono (OwnB.alloc how _) HD3.out.low.size))
   have HWF := Lib.hid hok.v
   have hnew := new_sg w4 S
   obtain ⟨z, hz⟩ : ∃ z, sdC (rTkF 393 (some r)) = z := ⟨_, rfl⟩
   have HZZ := Lib.hid hz
   rw [hz] at hy hno ⊢
   by_cases hz0 : z = 0
   ·subst hz0
    obtain ⟨k1, k2, k3, k4⟩ := chunk_yes HZZ.out
    obtain ⟨y1, y2, y3, y4⟩ := hy rfl
    have HV := Lib.hid (show S.V = (decVt (r.take 23), (r.take 393).drop 23) by
     unfold SgR.V; rw [y1, y4, k2, List.take_take, Nat.min_eq_left (by omega)])
    have HVL := Lib.hid (show vldSg S = true by unfold vldSg; rw [y2, decide_eq_true y3]; rfl)
    have HW2 := Lib.hid (show rawVw l = contS j (some (r.drop 393)) ((L ++ [S]).map SgR.V) by
     rw [HW.out, contS_yes k4, List.map_append, List.map_cons, List.map_nil, HV.out])
    have HK := Lib.hid (And.intro k1 k3)
    clear hy hno k1 k2 k3 k4 y1 y2 y3 y4 hz hok he4 how
    have q0 : (w4.alloc (.cells (sgA S) 48)).cell? ⟨VB, 0, none⟩ = some (.slice A4 n4 c4) := HD4.out.blk.cell 0
    have hbs := run_buildSg1 S
    have HA5 := Lib.hid (HD4.out.ext ((Ext.refl (w4.alloc (.cells (sgA S) 48))).alloc' (.cells (sgA S) 48)))
    have HOW5 := Lib.hid (OwnB.alloc HOW.out (.cells (sgA S) 48))
    have HS8 := Lib.hid (show Rd ((w4.alloc (.cells (sgA S) 48)).alloc (.cells (sgA S) 48)) (some ⟨w4.heap.size + 1, 0, none⟩) (sgL S) from Rd.of_blk (Blk.newAt _ _ _ _ (by simp)))
    have hn4 := HN4.out
    go_wp2_with (first | (with_reducible refine wpList_newSg rfl (.tmp 7) (.tmp 26) rfl _ rfl S rfl rfl ?_) | (with_reducible refine wpList_loadSg rfl (.tmp 7) rfl w4.heap.size 0 rfl S hnew ?_) | (at_builtin; go_must (refine wpList_appGG sgE rfl (.tmp 32) (.tmp 34) rfl w.heap.size A4 n4 c4 (gcs L) rfl HA5.out.own1 _ 1 1 (sgL S) rfl HS8.out (by rfl) (sgL_one S) (by omega) (by omega) HA5.out.low.size ?_; intro A7 c7 w8 hO8 hg8; have HD9 := Lib.hid (HA5.out.push1 ⟨HOW5.out, HWF.out, HVL.out⟩ hg8 hO8); have hb8 := HA5.out.blk.grown hg8 (own_other HA5.out.own1 HA5.out.blk (by decide)); have q8 : w8.cell? ⟨VB, 0, none⟩ = some (.slice A4 n4 c4) := hb8.cell 0; have f8 := hb8.frozen 0; clear hO8 hg8 hb8)))
    go_roundw
    case rel => exact ⟨j, A7, n4 + 1, c7, L ++ [S], some (r.drop 393), by omega, by go_num, HW2, Lib.hid (fun h => by cases h), Lib.hid (fun r' hr' => by cases hr'; have := HLE.out r rfl; have := HK.out.1; rw [List.length_drop]; omega), Lib.hid (by have := HLE.out r rfl; omega), by have := HD9.out; rw [HK.out.2] at this; exact Lib.hid this⟩
    case measure => simp [intOf]
   ·have HNO := Lib.hid (show rawVw l = none by rw [HW.out, contS_no (chunk_no (by rw [HZZ.out]; exact hz0))])
    have z1 : (z != 0) = true := bne_iff_ne.2 hz0
    have z2 : (z == 0) = false := beq_eq_false_iff_ne.2 hz0
    have ht : (w4.alloc (.cells (sgA S) 48)).there w.heap.size 0 2 := there_of_blk HD4.out.res
    have hst := blk_whole (ds := vwA none 0 0 none 0 0) HD4.out.res rfl
    clear hy hno hz hok he4 how
    go_wp2_with (first | (with_reducible refine wpList_newSg rfl (.tmp 7) (.tmp 26) rfl _ rfl S rfl rfl ?_) | (with_reducible refine wpList_storeVw rfl (.tmp 2) (.tmp 30) rfl w.heap.size none 0 0 none 0 0 rfl rfl ht ?_))
    exact bodyPost_ret (v := .tuple #[.agg (vwA none 0 0 none 0 0), .int .i64 4]) (retCV rfl _ _ w.heap.size _ _ rfl rfl (run_loadVar_row _ _ _ _ _ (0, 0) _ hst Tryz.underlying25 rfl (by kernel_rfl))) rfl ⟨Below.setCells' HD4.out.low (Nat.le_refl _) _ _, .inr ⟨rfl, fun L X h => by rw [HNO.out] at h; cases h⟩⟩
end Go.Proofs.YtbfepgjeecndiaaGreat
