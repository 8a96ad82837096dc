/- The view that bytes tell (the reference's DecodeView). -/
import Derived.Test.YtbfepgjeecndiaaGreatJ30
import Derived.Test.YtbfepgjeecndiaaGreatJ33
import Derived.Test.YtbfepgjeecndiaaGreatJ45
namespace Go.Proofs.YtbfepgjeecndiaaGreat
set_option maxRecDepth 100000
set_option maxHeartbeats 16000000
open Go.RowKit
set_option linter.unusedVariables false
set_option linter.unusedSimpArgs false
attribute [local go_sem ↓] Go.wp_at_zero Go.wp_at_succ
theorem contS_short {N : Nat} {r : List UInt8} {P : List SgV} (h : r.length < 393 * N) : contS N (some r) P = none := by
 cases hc : contS N (some r) P with
 | none => rfl
 | some q =>
  obtain ⟨L, X⟩ := q
  obtain ⟨L', r', h1, h2, h3, h4⟩ := contS_back N r P L X hc
  have h5 : ∀ (M : List SgV), (∀ v ∈ M, vldSv v = true ∧ v.1.wf) → (M.flatMap encSv).length = 393 * M.length := by
   intro M
   induction M with
   | nil => intro _; rfl
   | cons v M ih =>
    intro hM
    have hv := (vldSv_iff.1 (hM v (by simp)).1).2
    rw [List.flatMap_cons, List.length_append, ih (fun u hu => hM u (by simp [hu])), List.length_cons]
    unfold encSv
    rw [List.length_append, encVt_length, hv]; omega
  have := h5 L' h4
  rw [h2, List.length_append, this, h1] at h
  omega
theorem contT_short {M : Nat} {r : List UInt8} {P : List SgV} {Q : List (List UInt8)} (h : r.length < 2 * M) : contT M (some r) P Q = none := by
 cases hc : contT M (some r) P Q with
 | none => rfl
 | some q =>
  obtain ⟨L, X⟩ := q
  obtain ⟨h1, X', h2, h3, h4, h5⟩ := contT_back M _ P Q L X hc
  have h6 : ∀ (Y : List (List UInt8)), 2 * Y.length ≤ (Y.flatMap fun l => blob l).length := by
   intro Y
   induction Y with
   | nil => simp
   | cons y Y ih =>
    rw [List.flatMap_cons, List.length_append, List.length_cons, blob_length]
    omega
  have := h6 X'
  injection h4 with h4
  rw [h4] at h
  omega
theorem rUint4 (A : Option Addr) (n c : Nat) (l : List UInt8) (a : Nat) (w : World) (h : SlB w A n c l) (hf : a + 4 ≤ n) (hn : n ≤ 140737488355328) :
  Calls Tryz.prog 54 #[.slice A n c, .int .i64 (a : Int), .int .i64 4] w fun e w' => e = .returned (.tuple #[.int .u64 (numAt l a 4 : Int), .bool true]) ∧ w = w' := refUint_yes A n c l a 4 w h (by omega) (by omega) hf hn
theorem rUint4_no (A : Option Addr) (n c : Nat) (a : Nat) (w : World) (hn : n ≤ 140737488355328) (hk : a ≤ n) (hf : ¬ a + 4 ≤ n) :
  Calls Tryz.prog 54 #[.slice A n c, .int .i64 (a : Int), .int .i64 4] w fun e w' => e = .returned (.tuple #[.int .u64 0, .bool false]) ∧ w = w' := refUint_no A n c a 4 w hn (by omega) (by omega) hk hf
theorem num4_lt (l : List UInt8) (a : Nat) : numAt l a 4 < 4294967296 := by
 have h1 := beNat_lt ((l.drop a).take 4)
 have h3 : 256 ^ ((l.drop a).take 4).length ≤ 256 ^ 4 := Nat.pow_le_pow_right (by omega) (List.length_take_le _ _)
 unfold numAt; omega
theorem rNum4 {l : List UInt8} {a : Nat} (h : a + 4 ≤ l.length) : (rNum 4 (some (l.drop a))).toNat = numAt l a 4 ∧ rRest 4 (some (l.drop a)) = some (l.drop (a + 4)) := by
 have hl : ¬ (l.drop a).length < 4 := by rw [List.length_drop]; omega
 constructor
 ·show (if (l.drop a).length < 4 then (0 : Int) else (beNat ((l.drop a).take 4) : Int)).toNat = _
  rw [if_neg hl]; unfold numAt; omega
 ·show (if (l.drop a).length < 4 then none else some ((l.drop a).drop 4)) = _
  rw [if_neg hl, List.drop_drop]
theorem rNum4_no {l : List UInt8} {a : Nat} (h : ¬ a + 4 ≤ l.length) : rRest 4 (some (l.drop a)) = none := by
 have hl : (l.drop a).length < 4 := by rw [List.length_drop]; omega
 show (if (l.drop a).length < 4 then none else some ((l.drop a).drop 4)) = _
 rw [if_pos hl]
theorem num2_lt (l : List UInt8) (a : Nat) : numAt l a 2 < 65536 := by
 have h1 := beNat_lt ((l.drop a).take 2)
 have h3 : 256 ^ ((l.drop a).take 2).length ≤ 256 ^ 2 := Nat.pow_le_pow_right (by omega) (List.length_take_le _ _)
 unfold numAt; omega
theorem rAft_at {l : List UInt8} {a : Nat} (h : a ≤ l.length) : rAft (some (l.drop a)) = (if a + 2 ≤ l.length ∧ a + 2 + numAt l a 2 ≤ l.length then some (l.drop (a + 2 + numAt l a 2)) else none) ∧ (a + 2 ≤ l.length ∧ a + 2 + numAt l a 2 ≤ l.length → rBlob (some (l.drop a)) = (l.drop (a + 2)).take (numAt l a 2)) := by
 have hb := blobOk_at (l := l) (n := l.length) rfl h
 simp only [rAft, rBlob]
 rw [hb]
 constructor
 ·by_cases hh : a + 2 ≤ l.length ∧ a + 2 + numAt l a 2 ≤ l.length
  ·rw [if_pos hh, decide_eq_true hh, if_pos rfl, List.drop_drop, show a + 2 + numAt l a 2 = a + (2 + beNat ((l.drop a).take 2)) from by unfold numAt; omega]
  ·rw [if_neg hh, decide_eq_false hh]; rfl
 ·intro hh
  rw [decide_eq_true hh, if_pos rfl, List.drop_drop]; rfl
theorem encTes_take_le (X : List TeR) (k : Nat) : (encTes (X.take k)).length ≤ (encTes X).length := by
 have : encTes X = encTes (X.take k) ++ encTes (X.drop k) := by unfold encTes; rw [← List.flatMap_append, List.take_append_drop]
 rw [this, List.length_append]; omega
theorem rDec_any (A : Option Addr) (n c : Nat) (l : List UInt8) (w : World) (h : SlB w A n c l) (hn : n ≤ 1000000) :
  Calls Tryz.prog 28 #[.slice A n c] w (VwDec w l) := by
 have hcap := h.cap
 have hle := h.le
 have HLN := Lib.hid h.len
 have HSL := Lib.hid (fun (W : World) (he : Ext w W) => h.ext he)
 obtain ⟨W2, hW2⟩ : ∃ W2, (w.alloc (.cells (vwA none 0 0 none 0 0) 25)).alloc (.cells (vwA none 0 0 none 0 0) 25) = W2 := ⟨_, rfl⟩
 have HEW := Lib.hid (show Ext w W2 from by rw [← hW2]; exact ((Ext.refl w).alloc' _).alloc' _)
 have HR := Lib.hid (show Blk W2 w.heap.size 25 (vwA none 0 0 none 0 0) from by rw [← hW2]; exact (Blk.new w 25 (vwA none 0 0 none 0 0)).alloc _)
 have HV := Lib.hid (show Blk W2 (w.heap.size + 1) 25 (vwA none 0 0 none 0 0) from by rw [← hW2]; exact Blk.newAt _ _ _ _ (by simp))
 have HAT := Lib.hid (fun (h0 : 0 < n) => h.at h0)
 by_cases h4 : 0 + 4 ≤ n
 case neg =>
  have HNO := Lib.hid (show rawVw l = none from by
   unfold rawVw
   have := rNum4_no (l := l) (a := 0) (by rw [HLN.out]; exact h4)
   rw [List.drop_zero] at this
   rw [this]; rfl)
  have HU := Lib.hid (rUint4_no A n c 0 W2 (by omega) (by omega) h4)
  clear h h4
  go_enter Tryz.func28, Tryz.ntmps28
  go_wp2_with fail
  refine HU.out.mono ?_
  rintro e w1 ⟨rfl, rfl⟩
  clear hW2
  have ht : W2.there w.heap.size 0 2 := there_of_blk HR.out
  have hst := blk_whole (ds := vwA none 0 0 none 0 0) HR.out rfl
  go_wp2_with (first | (with_reducible refine wpList_storeVw rfl (.tmp 2) (.tmp 34) rfl w.heap.size none 0 0 none 0 0 rfl rfl ht ?_))
  exact bodyPost_ret (v := .tuple #[.agg (vwA none 0 0 none 0 0), .int .i64 4]) (retCV rfl _ _ w.heap.size _ _ rfl rfl (run_loadVar_row _ _ _ _ _ (0, 0) _ hst Tryz.underlying25 rfl (by kernel_rfl))) rfl ⟨Below.setCells' HEW.out (Nat.le_refl _) _ _, .inr ⟨rfl, fun L X h => by rw [HNO.out] at h; cases h⟩⟩
 case pos =>
 have HU := Lib.hid (rUint4 A n c l 0 W2 (HSL.out _ HEW.out) h4 (by omega))
 have HRW := Lib.hid (show rawVw l = contS (numAt l 0 4) (some (l.drop 4)) [] from by
  unfold rawVw
  have := rNum4 (l := l) (a := 0) (by rw [HLN.out]; exact h4)
  rw [List.drop_zero] at this
  rw [this.1, this.2])
 obtain ⟨N, hN⟩ : ∃ N, numAt l 0 4 = N := ⟨_, rfl⟩
 have bN : N < 4294967296 := by rw [← hN]; exact num4_lt l 0
 rw [hN] at HU HRW
 obtain ⟨b, o, rfl, hra, hbl⟩ := h.at (by omega)
 have HSB := Lib.hid (fun (W : World) (he : Ext w W) (a m : Nat) (ha : a + m ≤ n) => show SlB W (some ⟨b, o + a, none⟩) m (c - a) ((l.drop a).take m) from slB_at (by
  have h1 := rangeAt_take (k := m) (rangeAt_drop (k := a) (rangeAt_keep hra (he.block b hbl)))
  simpa [bcs] using h1) (by rw [List.length_take, List.length_drop, HLN.out]; omega) (by omega) (by omega))
 have hwN : IntKind.i64.wrap (N : Int) = (N : Int) := by rw [IntKind.wrap_i64]; omega
 clear h hra hbl hN
 go_enter Tryz.func28, Tryz.ntmps28
 go_wp2_with fail
 refine HU.out.mono ?_
 rintro e w1 ⟨rfl, rfl⟩
 clear hW2 HU
 by_cases hbig : (N : Int) > ((n : Int) - 4) / 393
 ·have HNO := Lib.hid (show rawVw l = none from by rw [HRW.out]; exact contS_short (by rw [List.length_drop, HLN.out]; omega))
  have ht : W2.there w.heap.size 0 2 := there_of_blk HR.out
  have hst := blk_whole (ds := vwA none 0 0 none 0 0) HR.out rfl
  go_wp2_with (first | (with_reducible refine wpList_storeVw rfl (.tmp 2) (.tmp 34) rfl w.heap.size none 0 0 none 0 0 rfl rfl ht ?_))
  exact bodyPost_ret (v := .tuple #[.agg (vwA none 0 0 none 0 0), .int .i64 4]) (retCV rfl _ _ w.heap.size _ _ rfl rfl (run_loadVar_row _ _ _ _ _ (0, 0) _ hst Tryz.underlying25 rfl (by kernel_rfl))) rfl ⟨Below.setCells' HEW.out (Nat.le_refl _) _ _, .inr ⟨rfl, fun L X h => by rw [HNO.out] at h; cases h⟩⟩
 have hNn : 4 + 393 * N ≤ n := by omega
 go_wp2_with fail
 go_loopw [8, 7] (fun vi va wr => ∃ (k a : Nat) (A4 : Option Addr) (c4 : Nat) (L : List SgR), k ≤ N ∧ vi = .int .i64 (k : Int) ∧ va = .int .i64 (a : Int) ∧ Hid (a = 4 + 393 * k) ∧ Hid (rawVw l = contS (N - k) (some (l.drop a)) (L.map SgR.V)) ∧ Hid (ClS w wr (w.heap.size + 1) A4 k c4 L none 0 0 []) ∧ Hid (Blk wr w.heap.size 25 (vwA none 0 0 none 0 0)) ∧ Hid (∀ S ∈ L, vldSg S = true)) (fun i _ _ => N - (intOf i).toNat)
 case atStart => exact ⟨0, 4, none, 0, [], Nat.zero_le _, rfl, rfl, Lib.hid rfl, HRW, Lib.hid ⟨HV.out, VwO.nil _ _, HEW.out, Nat.lt_succ_self _⟩, HR, Lib.hid (fun S hS => by cases hS)⟩
 case round =>
  clear HRW HR HV HEW hbig
  obtain ⟨k, a, A4, c4, L, hk, rfl, rfl, HAE, HW, HD, HR, HVL⟩ := hrel
  by_cases hlt : k < N
  ·have i1 : (k : Int) < (N : Int) := by omega
   obtain ⟨E, hE⟩ : ∃ E, a + 393 = E := ⟨_, rfl⟩
   have hEn : E ≤ n := by have := HAE.out; omega
   have hAi : (a : Int) + 393 = (E : Int) := by omega
   have hKE : (a : Int) ≤ (E : Int) := by omega
   have hEc : (E : Int) ≤ (c : Int) := by omega
   have hEK : (E : Int) - (a : Int) = 393 := by omega
   have hEKn : E - a = 393 := by omega
   have hck : ¬ c = a := by omega
   have HS5 := Lib.hid (HSB.out wr HD.out.low a 393 (by omega))
   have HQ := Lib.hid (show (l.drop a).take 393 = rTkF 393 (some (l.drop a)) from by
    unfold rTkF
    simp only
    rw [if_neg (by rw [List.length_drop, HLN.out]; omega)])
   have HEE := Lib.hid hE
   clear hE
   go_wp2_with fail
   refine (rSgDec_any _ 393 (c - a) _ wr HS5.out).mono ?_
   rintro e w4 ⟨S, rfl, hok, he4, hy, hno, how⟩
   rw [HQ.out] at hy hno ⊢
   have HD4 := Lib.hid (HD.out.ext (he4.trans ((Ext.refl w4).alloc' (.cells (sgA S) 48))))
   have HR4 := Lib.hid (HR.out.ext (he4.trans ((Ext.refl w4).alloc' (.cells (sgA S) 48))))
   have HOW := Lib.hid (show OwnB (w4.alloc (.cells (sgA S) 48)) w.heap.size 5 S.A S.n S.c S.sig from (own_mono (OwnB.alloc how _) HD.out.low.size))
   have HWF := Lib.hid hok.v
   have hnew := new_sg w4 S
   obtain ⟨z, hz⟩ : ∃ z, sdC (rTkF 393 (some (l.drop a))) = z := ⟨_, rfl⟩
   have HZZ := Lib.hid hz
   rw [hz] at hy hno ⊢
   by_cases hz0 : z = 0
   ·subst hz0
    obtain ⟨k1, k2, k3, k4⟩ := chunk_yes HZZ.out
    obtain ⟨y1, y2, y3, y4⟩ := hy rfl
    have HVV := Lib.hid (show S.V = (decVt ((l.drop a).take 23), ((l.drop a).take 393).drop 23) by
     unfold SgR.V; rw [y1, y4, k2, List.take_take, Nat.min_eq_left (by omega)])
    have HVL2 := Lib.hid (show ∀ Q ∈ L ++ [S], vldSg Q = true from fun Q hQ => by
     rcases List.mem_append.1 hQ with hQ | hQ
     ·exact HVL.out Q hQ
     ·rw [List.mem_singleton.1 hQ]; unfold vldSg; rw [y2, decide_eq_true y3]; rfl)
    have HW2 := Lib.hid (show rawVw l = contS (N - (k + 1)) (some (l.drop E)) ((L ++ [S]).map SgR.V) by
     rw [HW.out, show N - k = (N - (k + 1)) + 1 from by omega, contS_yes k4, List.map_append, List.map_cons, List.map_nil, HVV.out, List.drop_drop, HEE.out])
    clear hy hno k1 k2 k3 k4 y1 y2 y3 y4 hz hok he4 how HW HVL HVV
    have q0 : (w4.alloc (.cells (sgA S) 48)).cell? ⟨w.heap.size + 1, 0, none⟩ = some (.slice A4 k c4) := HD4.out.blk.cell 0
    have hbs := run_buildSg1 S
    have HA5 := Lib.hid (HD4.out.ext ((Ext.refl (w4.alloc (.cells (sgA S) 48))).alloc' (.cells (sgA S) 48)))
    have HR5 := Lib.hid (HR4.out.alloc (.cells (sgA S) 48))
    have HOW5 := Lib.hid (OwnB.alloc HOW.out (.cells (sgA S) 48))
    have HS8 := Lib.hid (show Rd ((w4.alloc (.cells (sgA S) 48)).alloc (.cells (sgA S) 48)) (some ⟨w4.heap.size + 1, 0, none⟩) (sgL S) from Rd.of_blk (Blk.newAt _ _ _ _ (by simp)))
    have hkb : k + 1 ≤ 1000000 := by omega
    go_wp2_with (first | (with_reducible refine wpList_newSg rfl (.tmp 9) (.tmp 48) rfl _ rfl S rfl rfl ?_) | (with_reducible refine wpList_loadSg rfl (.tmp 9) rfl w4.heap.size 0 rfl S hnew ?_) | (at_builtin; go_must (refine wpList_appGG sgE rfl (.tmp 54) (.tmp 56) rfl w.heap.size A4 k c4 (gcs L) rfl HA5.out.vw.own1 _ 1 1 (sgL S) rfl HS8.out (by rfl) (sgL_one S) (by omega) (by omega) HA5.out.low.size ?_; intro A7 c7 w8 hO8 hg8; have HD9 := Lib.hid (HA5.out.push1 ⟨HOW5.out, HWF.out⟩ hg8 hO8); have HR9 := Lib.hid (HD9.out.2 _ _ (by omega) HR5.out); have hb8 := HA5.out.blk.grown hg8 (own_other HA5.out.vw.own1 HA5.out.blk (by decide)); have q8 : w8.cell? ⟨w.heap.size + 1, 0, none⟩ = some (.slice A4 k c4) := hb8.cell 0; have f8 := hb8.frozen 0; clear hO8 hg8 hb8)))
    go_roundw
    case rel => exact ⟨k + 1, E, A7, c7, L ++ [S], hlt, by go_num, by go_num, Lib.hid (by have := HAE.out; have := HEE.out; omega), HW2, Lib.hid HD9.out.1, HR9, HVL2⟩
    case measure => simp [intOf]; omega
   ·have HNO := Lib.hid (show rawVw l = none by rw [HW.out, show N - k = (N - (k + 1)) + 1 from by omega, contS_no (chunk_no (by rw [HZZ.out]; exact hz0))])
    have z1 : (z != 0) = true := bne_iff_ne.2 hz0
    have z2 : (z == 0) = false := beq_eq_false_iff_ne.2 hz0
    have ht : (w4.alloc (.cells (sgA S) 48)).there w.heap.size 0 2 := there_of_blk HR4.out
    have hst := blk_whole (ds := vwA none 0 0 none 0 0) HR4.out rfl
    clear hy hno hz hok he4 how
    go_wp2_with (first | (with_reducible refine wpList_newSg rfl (.tmp 9) (.tmp 48) rfl _ rfl S rfl rfl ?_) | (with_reducible refine wpList_storeVw rfl (.tmp 2) (.tmp 52) rfl w.heap.size none 0 0 none 0 0 rfl rfl ht ?_))
    exact bodyPost_ret (v := .tuple #[.agg (vwA none 0 0 none 0 0), .int .i64 4]) (retCV rfl _ _ w.heap.size _ _ rfl rfl (run_loadVar_row _ _ _ _ _ (0, 0) _ hst Tryz.underlying25 rfl (by kernel_rfl))) rfl ⟨Below.setCells' HD4.out.low (Nat.le_refl _) _ _, .inr ⟨rfl, fun L X h => by rw [HNO.out] at h; cases h⟩⟩
  ·obtain rfl : N = k := by omega
   have i1 : ¬ (N : Int) < (N : Int) := by omega
   have HW2 := Lib.hid (show rawVw l = contT (rNum 4 (some (l.drop a))).toNat (rRest 4 (some (l.drop a))) (L.map SgR.V) [] from by rw [HW.out, Nat.sub_self, contS_zero])
   have han : a ≤ n := by have := HAE.out; omega
   clear HW
   by_cases h5 : a + 4 ≤ n
   case neg =>
    have HNO := Lib.hid (show rawVw l = none from by rw [HW2.out, rNum4_no (by rw [HLN.out]; exact h5)]; rfl)
    have HU := Lib.hid (rUint4_no (some ⟨b, o, none⟩) n c a wr (by omega) han h5)
    go_wp2_with fail
    refine HU.out.mono ?_
    rintro e w1 ⟨rfl, rfl⟩
    have ht : wr.there w.heap.size 0 2 := there_of_blk HR.out
    have hst := blk_whole (ds := vwA none 0 0 none 0 0) HR.out rfl
    go_wp2_with (first | (with_reducible refine wpList_storeVw rfl (.tmp 2) (.tmp 80) rfl w.heap.size none 0 0 none 0 0 rfl rfl ht ?_))
    exact bodyPost_ret (v := .tuple #[.agg (vwA none 0 0 none 0 0), .int .i64 4]) (retCV rfl _ _ w.heap.size _ _ rfl rfl (run_loadVar_row _ _ _ _ _ (0, 0) _ hst Tryz.underlying25 rfl (by kernel_rfl))) rfl ⟨Below.setCells' HD.out.low (Nat.le_refl _) _ _, .inr ⟨rfl, fun L X h => by rw [HNO.out] at h; cases h⟩⟩
   case pos =>
   have HU := Lib.hid (rUint4 (some ⟨b, o, none⟩) n c l a wr (HSL.out _ HD.out.low) h5 (by omega))
   have HW3 := Lib.hid (show rawVw l = contT (numAt l a 4) (some (l.drop (a + 4))) (L.map SgR.V) [] from by
    have := rNum4 (l := l) (a := a) (by rw [HLN.out]; exact h5)
    rw [HW2.out, this.1, this.2])
   obtain ⟨M, hM⟩ : ∃ M, numAt l a 4 = M := ⟨_, rfl⟩
   have bM : M < 4294967296 := by rw [← hM]; exact num4_lt l a
   rw [hM] at HU HW3
   have hwM : IntKind.i64.wrap (M : Int) = (M : Int) := by rw [IntKind.wrap_i64]; omega
   clear hM HW2
   go_wp2_with fail
   refine HU.out.mono ?_
   rintro e w1 ⟨rfl, rfl⟩
   clear HU
   by_cases hbig : (M : Int) > ((n : Int) - (a : Int) - 4) / 2
   ·have HNO := Lib.hid (show rawVw l = none from by rw [HW3.out]; exact contT_short (by rw [List.length_drop, HLN.out]; omega))
    have ht : wr.there w.heap.size 0 2 := there_of_blk HR.out
    have hst := blk_whole (ds := vwA none 0 0 none 0 0) HR.out rfl
    go_wp2_with (first | (with_reducible refine wpList_storeVw rfl (.tmp 2) (.tmp 80) rfl w.heap.size none 0 0 none 0 0 rfl rfl ht ?_))
    exact bodyPost_ret (v := .tuple #[.agg (vwA none 0 0 none 0 0), .int .i64 4]) (retCV rfl _ _ w.heap.size _ _ rfl rfl (run_loadVar_row _ _ _ _ _ (0, 0) _ hst Tryz.underlying25 rfl (by kernel_rfl))) rfl ⟨Below.setCells' HD.out.low (Nat.le_refl _) _ _, .inr ⟨rfl, fun L X h => by rw [HNO.out] at h; cases h⟩⟩
   have hMn : a + 4 + 2 * M ≤ n := by omega
   go_wp2_with fail
   go_loopw [12, 7] (fun vi va wr => ∃ (j q : Nat) (B4 : Option Addr) (d4 : Nat) (X4 : List TeR), j ≤ M ∧ vi = .int .i64 (j : Int) ∧ va = .int .i64 (q : Int) ∧ q ≤ n ∧ Hid (q = a + 4 + (encTes X4).length) ∧ Hid (rawVw l = contT (M - j) (some (l.drop q)) (L.map SgR.V) (X4.map TeR.l)) ∧ Hid (ClS w wr (w.heap.size + 1) A4 N c4 L B4 j d4 X4) ∧ Hid (Blk wr w.heap.size 25 (vwA none 0 0 none 0 0)) ∧ Hid (∀ T ∈ X4, T.n ≤ 65535)) (fun i _ _ => M - (intOf i).toNat)
   case atStart => exact ⟨0, a + 4, none, 0, [], Nat.zero_le _, rfl, by go_num, by omega, Lib.hid (by simp [encTes]), HW3, HD, HR, Lib.hid (fun T hT => by cases hT)⟩
   case round =>
    clear HW3 HD HR hbig
    obtain ⟨j, q, B4, d4, X4, hj, rfl, rfl, hqn, HQE, HW, HD, HR, HTL⟩ := hrel
    by_cases hlt : j < M
    ·have i1 : (j : Int) < (M : Int) := by omega
     have hra := rAft_at (l := l) (a := q) (by rw [HLN.out]; exact hqn)
     rw [HLN.out] at hra
     have HRA := Lib.hid hra
     clear hra
     have HST := Lib.hid (show rawVw l = contT (M - (j + 1)) (rAft (some (l.drop q))) (L.map SgR.V) (X4.map TeR.l ++ [rBlob (some (l.drop q))]) from by rw [HW.out, show M - j = (M - (j + 1)) + 1 from by omega, contT_step])
     by_cases hg : q + 2 ≤ n ∧ q + 2 + numAt l q 2 ≤ n
     case neg =>
      have HNO := Lib.hid (show rawVw l = none from by rw [HST.out, HRA.out.1, if_neg hg]; rfl)
      have HB := Lib.hid (show Calls Tryz.prog 56 #[.slice (some ⟨b, o, none⟩) n c, .int .i64 (q : Int)] wr (BytesNo wr) from by
       by_cases h2 : q + 2 ≤ n
       ·exact refBytes_no2 _ n c l q wr (HSL.out _ HD.out.low) (by omega) h2 (fun h3 => hg ⟨h2, h3⟩)
       ·exact refBytes_no1 _ n c q wr (by omega) hqn h2)
      go_wp2_with fail
      refine HB.out.mono ?_
      rintro e w1 ⟨rfl, rfl⟩
      have ht : wr.there w.heap.size 0 2 := there_of_blk HR.out
      have hst := blk_whole (ds := vwA none 0 0 none 0 0) HR.out rfl
      go_wp2_with (first | (with_reducible refine wpList_storeVw rfl (.tmp 2) (.tmp 98) rfl w.heap.size none 0 0 none 0 0 rfl rfl ht ?_))
      exact bodyPost_ret (v := .tuple #[.agg (vwA none 0 0 none 0 0), .int .i64 4]) (retCV rfl _ _ w.heap.size _ _ rfl rfl (run_loadVar_row _ _ _ _ _ (0, 0) _ hst Tryz.underlying25 rfl (by kernel_rfl))) rfl ⟨Below.setCells' HD.out.low (Nat.le_refl _) _ _, .inr ⟨rfl, fun L X h => by rw [HNO.out] at h; cases h⟩⟩
     case pos =>
     have HB := Lib.hid (refBytes_yes _ n c l q wr (HSL.out _ HD.out.low) (by omega) hg.1 hg.2)
     obtain ⟨p, hp⟩ : ∃ p, (l.drop (q + 2)).take (numAt l q 2) = p := ⟨_, rfl⟩
     have HW2 := Lib.hid (show rawVw l = contT (M - (j + 1)) (some (l.drop (q + 2 + numAt l q 2))) (L.map SgR.V) (X4.map TeR.l ++ [p]) from by rw [HST.out, HRA.out.1, if_pos hg, HRA.out.2 hg, hp])
     have b2 := num2_lt l q
     rw [hp] at HB
     obtain ⟨v, hv⟩ : ∃ v, numAt l q 2 = v := ⟨_, rfl⟩
     have HPL := Lib.hid (show p.length = v from by rw [← hp, hv, List.length_take, List.length_drop, HLN.out]; omega)
     rw [hv] at HB HW2 hg b2
     obtain ⟨Q2, hQ2⟩ : ∃ Q2, q + 2 + v = Q2 := ⟨_, rfl⟩
     rw [hQ2] at HB HW2 hg
     have HQ2 := Lib.hid hQ2
     have hq2n := hg.2
     clear hp hv hQ2 HST HRA HW hg
     go_wp2_with fail
     refine HB.out.mono ?_
     rintro e w6 ⟨A6, c6, rfl, hO6, he6⟩
     have HD6 := Lib.hid ((HD.out.ext he6).ext ((Ext.refl w6).alloc' (.cells #[.slice A6 v c6] 28)))
     have HR6 := Lib.hid ((HR.out.ext he6).alloc (.cells #[.slice A6 v c6] 28))
     have HOW6 := Lib.hid (show OwnB (w6.alloc (.cells #[.slice A6 v c6] 28)) w.heap.size 5 A6 v c6 p from OwnB.alloc (own_mono hO6 HD.out.low.size) _)
     have q6 : w6.cell? ⟨w.heap.size + 1, 1, none⟩ = some (.slice B4 j d4) := (HD.out.ext he6).blk.cell 1
     have q7 : (w6.alloc (.cells #[.slice A6 v c6] 28)).cell? ⟨w.heap.size + 1, 1, none⟩ = some (.slice B4 j d4) := HD6.out.blk.cell 1
     have hbs := fun (A : Option Addr) (n c : Nat) (W : World) => run_buildTe1 A n c W
     have HRD := Lib.hid (Rd.of_blk (Blk.new w6 28 #[.slice A6 v c6]))
     clear hO6 he6 HB HD HR
     have hjb : j + 1 ≤ 1000000 := by omega
     go_wp2_with (first | (at_builtin; go_must (refine wpList_appGG teE rfl (.tmp 100) (.tmp 102) rfl w.heap.size B4 j d4 (gcs X4) rfl HD6.out.vw.own2 (some ⟨w6.heap.size, 0, none⟩) 1 1 [.slice A6 v c6] rfl HRD.out (by rfl) (fun u hu => by rw [List.mem_singleton.1 hu]; rfl) (by omega) (by omega) HD6.out.low.size ?_; intro B7 d7 w8 hO8 hg8; have HD9 := Lib.hid (HD6.out.push2 (T := ⟨A6, v, c6, p⟩) HOW6.out hg8 hO8); have HR9 := Lib.hid (HD9.out.2 _ _ (by omega) HR6.out); have hb8 := HD6.out.blk.grown hg8 (own_other HD6.out.vw.own2 HD6.out.blk (by decide)); have q8 : w8.cell? ⟨w.heap.size + 1, 1, none⟩ = some (.slice B4 j d4) := hb8.cell 1; have f8 := hb8.frozen 1; clear hO8 hg8 hb8)))
     go_roundw
     case rel => exact ⟨j + 1, Q2, B7, d7, X4 ++ [⟨A6, v, c6, p⟩], hlt, by go_num, rfl, hq2n, Lib.hid (by
      have h1 := HQE.out
      have h2 := HQ2.out
      have h3 := HPL.out
      have h4 : encTes (X4 ++ [(⟨A6, v, c6, p⟩ : TeR)]) = encTes X4 ++ blob p := by simp [encTes]
      rw [h4, List.length_append, blob_length]; omega), Lib.hid (by rw [HW2.out, List.map_append]; rfl), Lib.hid HD9.out.1, HR9, Lib.hid (fun T hT => by
      rcases List.mem_append.1 hT with hT | hT
      ·exact HTL.out T hT
      ·rw [List.mem_singleton.1 hT]; show v ≤ 65535; omega)⟩
     case measure => simp [intOf]; omega
    ·obtain rfl : M = j := by omega
     have i1 : ¬ (M : Int) < (M : Int) := by omega
     have HEX := Lib.hid (show rawVw l = if some (l.drop q) = some [] then some (L.map SgR.V, X4.map TeR.l) else none from by rw [HW.out, Nat.sub_self, contT_zero])
     have HLL := Lib.hid HD.out.vw.sl1.len
     have HXL := Lib.hid HD.out.vw.sl2.len
     have hq : ∀ k, k ≤ M → (∀ j, j < k → okTe (nthG X4 j) = true) → (encTes (X4.take k)).length ≤ 900000000 := fun k _ _ => by
      have h1 := encTes_take_le X4 k
      have h2 := HQE.out
      omega
     have HE := Lib.hid (rEnv_any A4 N c4 L B4 M d4 X4 wr HD.out.vw.sl1 HD.out.vw.sl2 (by omega) (by omega) hq)
     have HVE := Lib.hid (show vwE L X4 = if ordV L X4 = true then 0 else 10 from by
      unfold vwE
      rw [if_pos ⟨allG_yes (fun j hj => HVL.out _ (nthG_mem hj)), allG_yes (fun j hj => decide_eq_true (HTL.out _ (nthG_mem hj)))⟩])
     obtain ⟨y0, y1⟩ := vw_facts HD.out.blk
     clear HW hq
     go_wp2_with fail
     refine HE.out.mono ?_
     intro e w9 h9
     obtain ⟨hcase, he9⟩ := h9
     have HD9 := Lib.hid (HD.out.ext he9)
     have HR9 := Lib.hid (HR.out.ext he9)
     obtain ⟨u0, u1⟩ := vw_facts HD9.out.blk
     have ht : w9.there w.heap.size 0 2 := there_of_blk HR9.out
     clear he9 HE y0 y1
     by_cases hqn2 : q = n
     ·have HRW2 := Lib.hid (show rawVw l = some (L.map SgR.V, X4.map TeR.l) from by rw [HEX.out, if_pos (by rw [List.drop_of_length_le (by rw [HLN.out]; omega)])])
      have k1 : ((q : Int) != (n : Int)) = false := by simp; omega
      have k2 : ((q : Int) == (n : Int)) = true := by simp; omega
      have HQN := Lib.hid hqn2
      clear hqn2 HEX
      cases hv : ordV L X4 with
      | true =>
       have hz : vwE L X4 = 0 := by rw [HVE.out, if_pos hv]
       rcases hcase with ⟨h0, _⟩ | ⟨_, A', n', c', rfl, _, _⟩
       ·exact absurd hz h0
       ·have hst := blk_whole (ds := vwA A4 N c4 B4 M d4) HR9.out rfl
        have HVF := Lib.hid (HD9.out.vw.set HR9.out (vwA A4 N c4 B4 M d4).toList)
        have HO := Lib.hid hv
        clear hv hz
        go_wp2_with (first | (with_reducible refine wpList_storeVw rfl (.tmp 2) (.tmp 120) rfl w.heap.size A4 N c4 B4 M d4 rfl rfl ht ?_))
        exact bodyPost_ret (v := .tuple #[.agg (vwA A4 N c4 B4 M d4), .int .i64 0]) (retCV rfl _ _ w.heap.size _ _ rfl rfl (run_loadVar_row _ _ _ _ _ (0, 0) _ hst Tryz.underlying25 rfl (by kernel_rfl))) rfl ⟨Below.setCells' HD9.out.low (Nat.le_refl _) _ _, .inl ⟨A4, N, c4, L, B4, M, d4, X4, rfl, HVF.out, HRW2.out, HO.out, HVL.out⟩⟩
      | false =>
       have hz : vwE L X4 = 10 := by rw [HVE.out, if_neg (by rw [hv]; decide)]
       rcases hcase with ⟨_, h0⟩ | ⟨h0, _⟩
       ·rw [hz] at h0
        subst h0
        have hst := blk_whole (ds := vwA none 0 0 none 0 0) HR9.out rfl
        have HVN := Lib.hid (fun (L' : List SgR) (X' : List TeR) (h : rawVw l = some (L'.map SgR.V, X'.map TeR.l)) => show ordV L' X' = false from by
         rw [HRW2.out] at h
         rw [← hv]; exact ordV_vals (Option.some.inj h))
        clear hv hz
        go_wp2_with (first | (with_reducible refine wpList_storeVw rfl (.tmp 2) (.tmp 119) rfl w.heap.size none 0 0 none 0 0 rfl rfl ht ?_))
        exact bodyPost_ret (v := .tuple #[.agg (vwA none 0 0 none 0 0), .int .i64 4]) (retCV rfl _ _ w.heap.size _ _ rfl rfl (run_loadVar_row _ _ _ _ _ (0, 0) _ hst Tryz.underlying25 rfl (by kernel_rfl))) rfl ⟨Below.setCells' HD9.out.low (Nat.le_refl _) _ _, .inr ⟨rfl, HVN.out⟩⟩
       ·rw [hz] at h0; cases h0
     ·have HNO := Lib.hid (show rawVw l = none from by
       rw [HEX.out, if_neg (fun hh => by
        injection hh with hh
        have := congrArg List.length hh
        rw [List.length_drop, HLN.out, List.length_nil] at this
        omega)])
      have k1 : ((q : Int) != (n : Int)) = true := by simp; omega
      have k2 : ((q : Int) == (n : Int)) = false := by simp; omega
      have hst := blk_whole (ds := vwA none 0 0 none 0 0) HR9.out rfl
      clear hqn2 HEX
      rcases hcase with ⟨_, rfl⟩ | ⟨_, A', n', c', rfl, _, _⟩
      ·go_wp2_with (first | (with_reducible refine wpList_storeVw rfl (.tmp 2) (.tmp 119) rfl w.heap.size none 0 0 none 0 0 rfl rfl ht ?_))
       exact bodyPost_ret (v := .tuple #[.agg (vwA none 0 0 none 0 0), .int .i64 4]) (retCV rfl _ _ w.heap.size _ _ rfl rfl (run_loadVar_row _ _ _ _ _ (0, 0) _ hst Tryz.underlying25 rfl (by kernel_rfl))) rfl ⟨Below.setCells' HD9.out.low (Nat.le_refl _) _ _, .inr ⟨rfl, fun L X h => by rw [HNO.out] at h; cases h⟩⟩
      ·go_wp2_with (first | (with_reducible refine wpList_storeVw rfl (.tmp 2) (.tmp 119) rfl w.heap.size none 0 0 none 0 0 rfl rfl ht ?_))
       exact bodyPost_ret (v := .tuple #[.agg (vwA none 0 0 none 0 0), .int .i64 4]) (retCV rfl _ _ w.heap.size _ _ rfl rfl (run_loadVar_row _ _ _ _ _ (0, 0) _ hst Tryz.underlying25 rfl (by kernel_rfl))) rfl ⟨Below.setCells' HD9.out.low (Nat.le_refl _) _ _, .inr ⟨rfl, fun L X h => by rw [HNO.out] at h; cases h⟩⟩
end Go.Proofs.YtbfepgjeecndiaaGreat
