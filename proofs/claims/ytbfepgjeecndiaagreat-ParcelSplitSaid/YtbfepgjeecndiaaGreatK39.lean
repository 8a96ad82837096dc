/- The stable sort of signed votes (slices' stableCmpFunc, SortStableFunc). -/
import Derived.Test.YtbfepgjeecndiaaGreatK27
import Derived.Test.YtbfepgjeecndiaaGreatK33
import Derived.Test.YtbfepgjeecndiaaGreatK36
namespace Go.Proofs.YtbfepgjeecndiaaGreat
set_option maxRecDepth 100000
set_option maxHeartbeats 8000000
open Go.RowKit
set_option linter.unusedVariables false
set_option linter.unusedSimpArgs false
attribute [local go_sem ↓] Go.wp_at_zero Go.wp_at_succ
theorem stable_any (w0 w : World) (base : Nat) (A : Option Addr) (n c : Nat) (d : Array SgR) (h : RowV w0 w base A n c d) (hn : n ≤ 1000000000) (hc : c ≤ 9223372036854775807) :
  Calls Tryz.prog 90 #[.slice A n c, .int .i64 n, .func (.func 61) #[] #[]] w (fun e w' => e = .returned (.tuple #[]) ∧ ∃ d', RowV w0 w' base A n c d' ∧ Sort.PermIn 0 n d d' ∧ Sort.SortedIn ltSg 0 n d') := by
 have HD := Lib.hid h
 have HSZ := Lib.hid (show n ≤ d.size by rw [RowS.size h]; exact Nat.le_refl _)
 have HI0 := Lib.hid (InsA.start (lt := ltSg) n d)
 clear h
 go_enter Tryz.func90, Tryz.ntmps90
 go_wp2_with fail
 go_loopw [7, 8] (fun va vb wr => ∃ (a b : Nat) (dk : Array SgR), va = .int .i64 (a : Int) ∧ vb = .int .i64 (b : Int) ∧ Hid (b = a + 20) ∧ a ≤ n ∧ Hid (InsA ltSg a n d dk) ∧ Hid (RowV w0 wr base A n c dk)) (fun a _ _ => n - (intOf a).toNat)
 case atStart => exact ⟨0, 20, d, rfl, rfl, Lib.hid rfl, Nat.zero_le _, HI0, HD⟩
 case round =>
  clear HD HI0
  obtain ⟨a, b, dk, rfl, rfl, HAB, han, HI, HD⟩ := hrel
  have bl : a ≤ b ∧ b ≤ n + 20 := by have := HAB.out; omega
  by_cases hlt : b ≤ n
  ·have i1 : (b : Int) ≤ (n : Int) := by omega
   have HC := Lib.hid (insSort_any w0 wr base A n c dk HD.out a b (by omega) hlt hn hc)
   go_wp2_with fail
   refine HC.out.mono ?_
   rintro e w2 ⟨rfl, d2, h2, p2, s2⟩
   have HD2 := Lib.hid h2
   have HI2 := Lib.hid (show InsA ltSg b n d d2 from by rw [HAB.out] at p2 s2 ⊢; exact HI.out.step (by have := HAB.out; omega) HSZ.out p2 s2)
   clear h2 p2 s2 HC HD HI
   go_wp2_with fail
   go_roundw
   case rel => exact ⟨b, b + 20, d2, rfl, by go_num, Lib.hid rfl, hlt, HI2, HD2⟩
   case measure => simp [intOf]; have := HAB.out; omega
  ·have i1 : ¬ (b : Int) ≤ (n : Int) := by omega
   have HC := Lib.hid (insSort_any w0 wr base A n c dk HD.out a n han (Nat.le_refl _) hn hc)
   go_wp2_with fail
   refine HC.out.mono ?_
   rintro e w2 ⟨rfl, d2, h2, p2, s2⟩
   have HD2 := Lib.hid h2
   have HR2 := Lib.hid (HI.out.last han (by have := HAB.out; omega) HSZ.out p2 s2)
   clear h2 p2 s2 HC HD HI i1
   go_wp2_with fail
   go_loopw [6] (fun vs wr => ∃ (s : Nat) (dk : Array SgR), vs = .int .i64 (s : Int) ∧ 0 < s ∧ s ≤ 2 * n + 20 ∧ Hid (Runs ltSg s n d dk) ∧ Hid (RowV w0 wr base A n c dk)) (fun s _ => n - (intOf s).toNat)
   case atStart => exact ⟨20, d2, rfl, by omega, by omega, HR2, HD2⟩
   case round =>
    clear HD2 HR2
    obtain ⟨s, dk, rfl, hs, hsl, HR, HD⟩ := hrel
    by_cases hsn : s < n
    ·have i1 : (s : Int) < (n : Int) := by omega
     obtain ⟨s2, hs2⟩ : ∃ s2, s2 = 2 * s := ⟨_, rfl⟩
     have m1 : (2 : Int) * (s : Int) = (s2 : Int) := by omega
     have m2 : (s : Int) * (2 : Int) = (s2 : Int) := by omega
     have hs2l : s2 ≤ 2 * n := by omega
     have HS2 := Lib.hid hs2
     clear hs2
     have HM0 := Lib.hid (MerA.start HR.out)
     clear HR
     go_wp2_with fail
     go_loopw [7, 8] (fun va vb wr => ∃ (a b : Nat) (dk : Array SgR), va = .int .i64 (a : Int) ∧ vb = .int .i64 (b : Int) ∧ Hid (b = a + s2) ∧ a ≤ n ∧ Hid (MerA ltSg s a n d dk) ∧ Hid (RowV w0 wr base A n c dk)) (fun a _ _ => n - (intOf a).toNat)
     case atStart => exact ⟨0, s2, dk, rfl, rfl, Lib.hid (Nat.zero_add _).symm, Nat.zero_le _, HM0, HD⟩
     case round =>
      clear HD HM0
      obtain ⟨a, b, dk, rfl, rfl, HAB, han, HM, HD⟩ := hrel
      obtain ⟨m, hm⟩ : ∃ m, m = a + s := ⟨_, rfl⟩
      have m0 : (a : Int) + (s : Int) = (m : Int) := by omega
      have HMM := Lib.hid hm
      have bl : a ≤ b ∧ b ≤ 3 * n ∧ m ≤ b := by have := HAB.out; have := HS2.out; omega
      have ml : a < m := by omega
      have mb : m < b := by have := HAB.out; have := HS2.out; omega
      clear hm
      by_cases hlt : b ≤ n
      ·have i2 : (b : Int) ≤ (n : Int) := by omega
       have HC := Lib.hid (symMerge_any (b - a) w0 wr base A n c dk HD.out a m b (Nat.le_refl _) ml mb hlt hn hc (by rw [HMM.out]; exact HM.out.left (by have := HMM.out; omega)) (by have := HM.out.right; rw [← HMM.out, ← HS2.out, ← HAB.out, Nat.min_eq_left hlt] at this; exact this))
       go_wp2_with fail
       refine HC.out.mono ?_
       rintro e w2 ⟨rfl, d2, h2, p2, q2⟩
       have HD2 := Lib.hid h2
       have HM2 := Lib.hid (show MerA ltSg s b n d d2 from by
        have hb2 : b = a + 2 * s := by have := HAB.out; have := HS2.out; omega
        rw [hb2] at p2 q2 ⊢; exact HM.out.step (by omega) HSZ.out p2 q2)
       clear h2 p2 q2 HC HD HM
       go_wp2_with fail
       go_roundw
       case rel => exact ⟨b, b + s2, d2, rfl, by go_num, Lib.hid rfl, hlt, HM2, HD2⟩
       case measure => simp [intOf]; omega
      ·have i2 : ¬ (b : Int) ≤ (n : Int) := by omega
       by_cases hmn : m < n
       ·have i3 : (m : Int) < (n : Int) := by omega
        have HC := Lib.hid (symMerge_any (n - a) w0 wr base A n c dk HD.out a m n (Nat.le_refl _) ml hmn (Nat.le_refl _) hn hc (by rw [HMM.out]; exact HM.out.left (by have := HMM.out; omega)) (by have := HM.out.right; rw [← HMM.out, Nat.min_eq_right (by have := HAB.out; have := HS2.out; omega)] at this; exact this))
        go_wp2_with fail
        refine HC.out.mono ?_
        rintro e w2 ⟨rfl, d2, h2, p2, q2⟩
        have HD2 := Lib.hid h2
        have HR2 := Lib.hid (show Runs ltSg s2 n d d2 from by rw [HS2.out]; exact HM.out.last han (by have := HAB.out; have := HS2.out; omega) HSZ.out p2 q2)
        clear h2 p2 q2 HC HD HM
        go_wp2_with fail
        go_roundw
        case rel => exact ⟨s2, d2, by go_num, by have := HS2.out; omega, by omega, HR2, HD2⟩
        case measure => simp [intOf]; have := HS2.out; omega
       ·have i3 : ¬ (m : Int) < (n : Int) := by omega
        have HR2 := Lib.hid (show Runs ltSg s2 n d dk from by rw [HS2.out]; exact HM.out.rest (by have := HMM.out; omega) han HSZ.out)
        clear HM
        go_wp2_with fail
        go_roundw
        case rel => exact ⟨s2, dk, by go_num, by have := HS2.out; omega, by omega, HR2, HD⟩
        case measure => simp [intOf]; have := HS2.out; omega
    ·have i1 : ¬ (s : Int) < (n : Int) := by omega
     go_wp2_with fail
     go_end0
     exact ⟨rfl, dk, HD.out, HR.out.perm, HR.out.whole (by omega)⟩
theorem sortStable_any (w0 w : World) (base : Nat) (A : Option Addr) (n c : Nat) (d : Array SgR) (h : RowV w0 w base A n c d) (hn : n ≤ 1000000000) (hc : c ≤ 9223372036854775807) :
  Calls Tryz.prog 60 #[.slice A n c, .func (.func 61) #[] #[]] w (fun e w' => e = .returned (.tuple #[]) ∧ ∃ d', RowV w0 w' base A n c d' ∧ Sort.PermIn 0 n d d' ∧ Sort.SortedIn ltSg 0 n d') := by
 have HC := Lib.hid (stable_any w0 w base A n c d h hn hc)
 clear h
 go_enter Tryz.func60, Tryz.ntmps60
 go_wp2_with fail
 refine HC.out.mono ?_
 rintro e w2 ⟨rfl, h2⟩
 go_wp2_with fail
 go_end0
 exact ⟨rfl, h2⟩
end Go.Proofs.YtbfepgjeecndiaaGreat

/- Views and parcels as bytes, both ways (plain). -/
namespace Go.Proofs.YtbfepgjeecndiaaGreat
open Go.RowKit
set_option linter.unusedVariables false
set_option linter.unusedSimpArgs false
theorem vldSv_iff {v : SgV} : vldSv v = true ↔ vldVt v.1 = true ∧ v.2.length = 370 := by unfold vldSv; rw [Bool.and_eq_true, decide_eq_true_eq]
theorem chunk_enc {v : SgV} (h : vldSv v = true) (hw : v.1.wf) (r : List UInt8) : chunk (encSv v ++ r) = some (v, r) := by
 obtain ⟨h1, h2⟩ := vldSv_iff.1 h
 have l1 := encVt_length v.1
 have e1 : (encSv v ++ r).take 23 = encVt v.1 := by
  unfold encSv
  rw [List.append_assoc]
  exact List.take_left' l1
 have e2 : (encSv v ++ r).take 393 = encSv v := List.take_left' (by unfold encSv; rw [List.length_append]; omega)
 have e3 : (encSv v ++ r).drop 393 = r := List.drop_left' (by unfold encSv; rw [List.length_append]; omega)
 have e4 : (encSv v).drop 23 = v.2 := by unfold encSv; exact List.drop_left' l1
 unfold chunk
 rw [e1, e2, e3, e4, decVt_enc h1 hw]
 rw [if_pos ⟨by unfold encSv; rw [List.length_append, List.length_append]; omega, h1⟩]
theorem contS_enc : ∀ (L P : List SgV) (r : List UInt8), (∀ v ∈ L, vldSv v = true ∧ v.1.wf) → contS L.length (some (L.flatMap encSv ++ r)) P = contS 0 (some r) (P ++ L)
 | [], P, r, _ => by simp
 | v :: L, P, r, h => by
  have hv := h v (by simp)
  rw [List.flatMap_cons, List.append_assoc, List.length_cons, contS_yes (chunk_enc hv.1 hv.2 _), contS_enc L (P ++ [v]) r (fun u hu => h u (by simp [hu]))]
  simp
theorem contT_enc : ∀ (X : List (List UInt8)) (P : List SgV) (Q : List (List UInt8)), (∀ x ∈ X, x.length ≤ 65535) → contT X.length (some (X.flatMap fun l => blob l)) P Q = some (P, Q ++ X)
 | [], P, Q, _ => by rw [List.length_nil, contT_zero]; simp
 | x :: X, P, Q, h => by
  have hx := h x (by simp)
  rw [List.flatMap_cons, List.length_cons, contT_step, rAft_blob _ _ hx, rBlob_blob _ _ hx, contT_enc X P (Q ++ [x]) (fun u hu => h u (by simp [hu]))]
  simp
theorem rawVw_enc (L : List SgV) (X : List (List UInt8)) (hL : ∀ v ∈ L, vldSv v = true ∧ v.1.wf) (hX : ∀ x ∈ X, x.length ≤ 65535) (h1 : L.length < 4294967296) (h2 : X.length < 4294967296) : rawVw (encVwV L X) = some (L, X) := by
 unfold rawVw encVwV
 rw [List.append_assoc, rNum_be 4 _ (by omega) (by simp; omega) (by omega), rRest_be]
 rw [Int.toNat_natCast, contS_enc L [] _ hL, contS_zero, rNum_be 4 _ (by omega) (by simp; omega) (by omega), rRest_be, Int.toNat_natCast, contT_enc X _ [] hX]
 simp
theorem chunk_back {r r' : List UInt8} {v : SgV} (h : chunk r = some (v, r')) : r = encSv v ++ r' ∧ vldSv v = true ∧ v.1.wf := by
 unfold chunk at h
 split at h
 ·rename_i hc
  obtain ⟨hc1, hc2⟩ := hc
  injection h with h
  injection h with h1 h2
  subst h1 h2
  have l1 : (r.take 23).length = 23 := by rw [List.length_take]; omega
  refine ⟨?_, vldSv_iff.2 ⟨hc2, by simp only [List.length_drop, List.length_take]; omega⟩, decVt_wf _⟩
  unfold encSv
  simp only
  rw [enc_decVt l1]
  have e : r.take 23 = (r.take 393).take 23 := by rw [List.take_take]; rfl
  rw [e, List.take_append_drop, List.take_append_drop]
 ·cases h
theorem contT_back : ∀ (M : Nat) (s : Option (List UInt8)) (P : List SgV) (Q : List (List UInt8)) (L : List SgV) (X : List (List UInt8)), contT M s P Q = some (L, X) → L = P ∧ ∃ X', X = Q ++ X' ∧ X'.length = M ∧ s = some (X'.flatMap fun l => blob l) ∧ ∀ x ∈ X', x.length ≤ 65535
 | 0, s, P, Q, L, X, h => by
  rw [contT_zero] at h
  split at h
  ·rename_i hs
   injection h with h
   injection h with h1 h2
   subst h1 h2
   exact ⟨rfl, [], by simp, rfl, hs, fun x hx => by cases hx⟩
  ·cases h
 | M + 1, s, P, Q, L, X, h => by
  rw [contT_step] at h
  obtain ⟨h1, X', h2, h3, h4, h5⟩ := contT_back M _ P _ L X h
  obtain ⟨h6, h7⟩ := blob_back h4
  refine ⟨h1, rBlob s :: X', by rw [h2]; simp, by rw [List.length_cons, h3], ?_, fun x hx => ?_⟩
  ·rw [List.flatMap_cons]; exact h6
  ·rcases List.mem_cons.1 hx with rfl | hx
   ·exact h7
   ·exact h5 x hx
theorem contS_back : ∀ (N : Nat) (r0 : List UInt8) (P : List SgV) (L : List SgV) (X : List (List UInt8)), contS N (some r0) P = some (L, X) → ∃ L' r, L'.length = N ∧ r0 = L'.flatMap encSv ++ r ∧ contS 0 (some r) (P ++ L') = some (L, X) ∧ ∀ v ∈ L', vldSv v = true ∧ v.1.wf
 | 0, r0, P, L, X, h => ⟨[], r0, rfl, by simp, by simpa using h, fun v hv => by cases hv⟩
 | N + 1, r0, P, L, X, h => by
  cases hc : chunk r0 with
  | none => rw [contS_no hc] at h; cases h
  | some q =>
   obtain ⟨v, r1⟩ := q
   rw [contS_yes hc] at h
   obtain ⟨L', r, h1, h2, h3, h4⟩ := contS_back N r1 _ L X h
   obtain ⟨h5, h6, h7⟩ := chunk_back hc
   refine ⟨v :: L', r, by rw [List.length_cons, h1], by rw [List.flatMap_cons, List.append_assoc, ← h2]; exact h5, by rw [← h3]; simp, fun u hu => ?_⟩
   rcases List.mem_cons.1 hu with rfl | hu
   ·exact ⟨h6, h7⟩
   ·exact h4 u hu
theorem rawVw_back {l : List UInt8} {L : List SgV} {X : List (List UInt8)} (h : rawVw l = some (L, X)) : encVwV L X = l ∧ (∀ v ∈ L, vldSv v = true ∧ v.1.wf) ∧ (∀ x ∈ X, x.length ≤ 65535) ∧ L.length < 4294967296 ∧ X.length < 4294967296 := by
 unfold rawVw at h
 cases h4 : rRest 4 (some l) with
 | none => rw [h4, contS_none] at h; cases h
 | some r0 =>
  rw [h4] at h
  obtain ⟨L', r, h1, h2, h3, h5⟩ := contS_back _ _ _ _ _ h
  rw [List.nil_append, contS_zero] at h3
  obtain ⟨rfl, X', h6, h7, h8, h9⟩ := contT_back _ _ _ _ _ _ h3
  rw [List.nil_append] at h6
  subst h6
  have b1 := be_back (by omega) h4
  have b2 := be_back (by omega) h8
  have n1 := rNum_bd 4 (some l)
  have n2 := rNum_bd 4 (some r)
  have e1 : (L.length : Int) = rNum 4 (some l) := by rw [h1]; omega
  have e2 : (X.length : Int) = rNum 4 (some r) := by rw [h7]; omega
  refine ⟨?_, h5, h9, by omega, by omega⟩
  unfold encVwV
  rw [e1, e2, List.append_assoc]
  injection b1 with b1
  injection b2 with b2
  rw [← b2, ← h2, ← b1]
/-! parcels -/
theorem vwEV_zero {L : List SgV} {X : List (List UInt8)} : vwEV L X = 0 ↔ L.all vldSv = true ∧ X.all okTv = true ∧ (adjB ltSv L && adjB lexB X) = true := by
 unfold vwEV
 split
 ·rename_i h
  split
  ·rename_i h2; exact ⟨fun _ => ⟨h.1, h.2, h2⟩, fun _ => rfl⟩
  ·rename_i h2; exact ⟨fun hh => absurd hh (by decide), fun hh => absurd hh.2.2 h2⟩
 ·rename_i h; exact ⟨fun hh => absurd hh (by decide), fun hh => absurd ⟨hh.1, hh.2.1⟩ h⟩
theorem pcEV_zero {L : List SgV} {X : List (List UInt8)} : pcEV L X = 0 ↔ lrgN L.length X.length = false ∧ vwEV L X = 0 := by
 unfold pcEV
 split
 ·rename_i h; rw [h]; exact ⟨fun hh => absurd hh (by decide), fun hh => absurd hh.1 (by decide)⟩
 ·rename_i h; exact ⟨fun hh => ⟨by simpa using h, hh⟩, fun hh => hh.2⟩
theorem okTv_all {X : List (List UInt8)} (h : X.all okTv = true) : ∀ x ∈ X, x.length ≤ 65535 := fun x hx => of_decide_eq_true (List.all_eq_true.1 h x hx)
theorem lrgN_bd {n m : Nat} (h : lrgN n m = false) : n ≤ 64 ∧ m ≤ 64 := by
 unfold lrgN at h
 rw [Bool.or_eq_false_iff] at h
 have h1 := of_decide_eq_false h.1
 have h2 := of_decide_eq_false h.2
 omega
theorem pcDecV_enc {L : List SgV} {X : List (List UInt8)} (hw : ∀ v ∈ L, v.1.wf) (h : pcEV L X = 0) : pcDecV (encPcV L X) = some (L, X) := by
 obtain ⟨h1, h2⟩ := pcEV_zero.1 h
 obtain ⟨h3, h4, h5⟩ := vwEV_zero.1 h2
 obtain ⟨b1, b2⟩ := lrgN_bd h1
 have l8 := nmb_length (tagU 89 (encVwV L X))
 have e1 : (encPcV L X).drop 8 = encVwV L X := by unfold encPcV; exact List.drop_left' l8
 have e2 : (encPcV L X).take 8 = nmb (tagU 89 (encVwV L X)) := by unfold encPcV; exact List.take_left' l8
 have e3 : sumOk (encPcV L X) = true := by unfold sumOk; rw [e1, e2]; simp
 unfold pcDecV
 rw [if_pos ⟨by unfold encPcV; rw [List.length_append]; omega, e3⟩, e1, rawVw_enc L X (fun v hv => ⟨List.all_eq_true.1 h3 v hv, hw v hv⟩) (okTv_all h4) (by omega) (by omega)]
 simp only
 rw [if_pos ⟨h5, h1⟩]
theorem encPcV_dec {l : List UInt8} {L : List SgV} {X : List (List UInt8)} (h : pcDecV l = some (L, X)) : pcEV L X = 0 ∧ encPcV L X = l ∧ (∀ v ∈ L, v.1.wf) := by
 unfold pcDecV at h
 split at h
 ·rename_i hc
  obtain ⟨hc1, hc2⟩ := hc
  split at h
  ·cases h
  ·rename_i L2 X2 hr
   split at h
   ·rename_i ho
    injection h with h
    injection h with h1 h2
    subst h1 h2
    obtain ⟨b1, b2, b3, -, -⟩ := rawVw_back hr
    refine ⟨pcEV_zero.2 ⟨ho.2, vwEV_zero.2 ⟨List.all_eq_true.2 (fun v hv => (b2 v hv).1), List.all_eq_true.2 (fun x hx => decide_eq_true (b3 x hx)), ho.1⟩⟩, ?_, fun v hv => (b2 v hv).2⟩
    unfold sumOk at hc2
    have hc2 := of_decide_eq_true hc2
    unfold encPcV
    rw [b1, hc2, List.take_append_drop]
   ·cases h
 ·cases h
end Go.Proofs.YtbfepgjeecndiaaGreat
