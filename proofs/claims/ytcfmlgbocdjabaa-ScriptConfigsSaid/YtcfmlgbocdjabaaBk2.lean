/- block.open: a cursor behind the kind of a text, or one that has failed. DecodePayload at a text of another kind. -/
import Derived.Test.YtcfmlgbocdjabaaCur2
import Derived.Test.YtcfmlgbocdjabaaAu
namespace Go.Proofs.Ytcfmlgbocdjabaa
open Go.RowKit
set_option linter.unusedVariables false
set_option linter.unusedSimpArgs false
attribute [local go_sem ↓] Go.wp_at_zero Go.wp_at_succ

variable {D : Nat}
/-- what is left of a text behind its kind -/
def openU (l : List UInt8) (kind : Int) : Option (List UInt8) := if kindU l = kind then some (l.drop 1) else none
theorem kindU_pos {l : List UInt8} {kind : Int} (h : kindU l = kind) (hk : 1 ≤ kind) : 0 < l.length := by
  cases l with
  | nil => simp [kindU] at h; omega
  | cons c r => simp
theorem ext_grown {w w1 w2 : World} {B : Nat} (h : Ext w w1) (hg : w1.grownBy w2 (some B)) (hB : w.heap.size ≤ B) : Ext w w2 :=
  Below.grown h hg h.size (fun k hk => by injection hk with hk; omega)
/-- two results: a struct in a variable, and a slot -/
theorem retCV {fn : Func} {p q : Tmp} {ty : TypeId} (hres : fn.results = #[.cell p ty, .tmp q]) (tmps : Array Value) (w1 : World) (g : Nat) (cs : Array Value) (v : Value) (hp : tmps.getD p undef = .pointer (some ⟨g, 0, none⟩)) (hq : tmps.getD q undef = v) (hl : (loadVar ty ⟨g, 0, none⟩).run Try.prog w1 = .ok (.agg cs) w1) :
    (results fn tmps).run Try.prog w1 = .ok (.tuple #[.agg cs, v]) w1 := by
  have hp' : tmps[p]?.getD undef = .pointer (some ⟨g, 0, none⟩) := by simpa using hp
  have hq' : tmps[q]?.getD undef = v := by simpa using hq
  simp [results, hres, hp', hq', asAddr, hl]
def OpenOut (D : Nat) (w : World) (s : Option (List UInt8)) (e : Ending) (w' : World) : Prop := ∃ B, e = .returned (.pointer (some ⟨B, 0, none⟩)) ∧ CurAt 164 D w' B s ∧ w.heap.size ≤ B ∧ Ext w w'
set_option maxHeartbeats 1000000 in
theorem open_no (A : Option Addr) (n c : Nat) (l : List UInt8) (kind : Int) (w : World) (h : SlB w A n c l) (hne : kindU l ≠ kind) :
    Calls Try.prog 56 #[.slice A n c, .int .i64 kind] w (OpenOut D w none) := by
  have HK := Lib.hid (kind_any A n c l w h)
  have d1 : (kindU l == kind) = false := beq_eq_false_iff_ne.2 hne
  have d2 : (kindU l != kind) = true := by simp [bne, d1]
  have d3 : decide (kindU l = kind) = false := decide_eq_false hne
  generalize kindU l = x at *
  have HC := Lib.hid (fun (W : World) => cnew_any (D := D) none 0 0 [] W (SlB.nil W) (by omega) (.inl rfl))
  clear h hne
  go_enter Try.func56, Try.ntmps56
  go_wp2_with fail
  refine HK.out.mono ?_
  rintro e w1 ⟨rfl, rfl⟩
  go_wp2_with fail
  refine (HC.out _).mono ?_
  rintro e w2 ⟨B, rfl, hC, hB, hE⟩
  have HC2 := Lib.hid hC
  have HB := Lib.hid hB
  have HE := Lib.hid hE
  clear hC hB hE
  go_wp2_with fail
  refine (cuint_any 1 (by omega) (by omega) B _ _ HC2.out).mono ?_
  rintro e w3 ⟨rfl, hC3, hg3⟩
  go_wp2_with fail
  go_ret
  exact ⟨B, rfl, hC3, HB.out, ext_grown HE.out hg3 HB.out⟩
set_option maxHeartbeats 1000000 in
theorem open_yes (A : Option Addr) (n c : Nat) (l : List UInt8) (kind : Int) (hk1 : 1 ≤ kind) (w : World) (h : SlB w A n c l) (hn : n ≤ 140737488355328) (hD : LowB D A n) (he : kindU l = kind) :
    Calls Try.prog 56 #[.slice A n c, .int .i64 kind] w (OpenOut D w (some (l.drop 1))) := by
  have HK := Lib.hid (kind_any A n c l w h)
  rw [he] at HK
  have hp := kindU_pos he hk1
  have hlen := h.len
  have hle := h.le
  have hcap := h.cap
  obtain ⟨b, o, rfl, hra, hbl⟩ := h.at (by omega)
  have hD' : LowB D (some ⟨b, o + 1, none⟩) (n - 1) := by
    rcases hD with h0 | ⟨b', o', e, hb'⟩
    · omega
    · injection e with e; injection e with e1 e2; subst e1; exact .inr ⟨_, _, rfl, hb'⟩
  by_cases hc : c = 1
  · subst hc
    obtain rfl : n = 1 := by omega
    have HC := Lib.hid (cnew_any (some ⟨b, o, none⟩) 0 0 [] w (SlB.empty w _ 0 (by omega)) (by omega) (D := D) (.inl rfl))
    have HD := Lib.hid (show l.drop 1 = [] from List.drop_eq_nil_of_le (by omega))
    clear h he hp hlen hra hbl
    go_enter Try.func56, Try.ntmps56
    go_wp2_with fail
    refine HK.out.mono ?_
    rintro e w1 ⟨rfl, rfl⟩
    go_wp2_with fail
    refine HC.out.mono ?_
    rintro e w2 ⟨B, rfl, hC, hB, hE⟩
    go_wp2_with fail
    go_ret
    exact ⟨B, rfl, by rw [HD.out]; exact hC, hB, hE⟩
  · have hs := h.cut (k := 1) (by omega) (by omega)
    have HC := Lib.hid (cnew_any (some ⟨b, o + 1, none⟩) (n - 1) (c - 1) (l.drop 1) w (by simpa [Addr.add_mid] using hs) (by omega) (D := D) hD')
    have n1 : (1 : Int) ≤ (n : Int) := by omega
    have n2 : (n : Int) ≤ (c : Int) := by omega
    clear h he hp hlen hra hbl hs
    go_enter Try.func56, Try.ntmps56
    go_wp2_with fail
    refine HK.out.mono ?_
    rintro e w1 ⟨rfl, rfl⟩
    go_wp2_with fail
    refine HC.out.mono ?_
    rintro e w2 ⟨B, rfl, hC, hB, hE⟩
    go_wp2_with fail
    go_ret
    exact ⟨B, rfl, hC, hB, hE⟩
theorem open_any (A : Option Addr) (n c : Nat) (l : List UInt8) (kind : Int) (hk1 : 1 ≤ kind) (w : World) (h : SlB w A n c l) (hn : n ≤ 140737488355328) (hD : LowB D A n) :
    Calls Try.prog 56 #[.slice A n c, .int .i64 kind] w (OpenOut D w (openU l kind)) := by
  by_cases he : kindU l = kind
  · rw [show openU l kind = some (l.drop 1) from if_pos he]; exact open_yes A n c l kind hk1 w h hn hD he
  · rw [show openU l kind = none from if_neg he]; exact open_no A n c l kind w h he
set_option maxRecDepth 100000 in
set_option maxHeartbeats 1000000 in
/-- a text of another kind is no payload -/
theorem decPayload_other (A : Option Addr) (n c : Nat) (l : List UInt8) (w : World) (h : SlB w A n c l) (hne : kindU l ≠ 2) :
    Calls Try.prog 49 #[.slice A n c] w fun e w' => e = .returned (.tuple #[.agg #[.slice none 0 0], .int .i64 4]) ∧ Ext w w' := by
  have HO := Lib.hid (open_no (D := 0) A n c l 2 _ (h.ext ((Ext.refl w).alloc' (.cells #[.slice none 0 0] 92))) hne)
  have HE0 := Lib.hid ((Ext.refl w).alloc' (.cells #[.slice none 0 0] 92))
  have HB0 := Lib.hid (Blk.new w 92 #[.slice none 0 0])
  clear h hne
  go_enter Try.func49, Try.ntmps49
  go_wp2_with fail
  refine HO.out.mono ?_
  rintro e w1 ⟨B, rfl, hC, hB, hE⟩
  have HC := Lib.hid hC
  have HB := Lib.hid hB
  have HE := Lib.hid hE
  clear hC hB hE
  go_wp2_with fail
  refine (cuint_any 1 (by omega) (by omega) B none _ HC.out).mono ?_
  rintro e w2 ⟨rfl, hC2, hg2⟩
  have hE2 := ext_grown HE.out hg2 HB.out
  have HC2 := Lib.hid (hC2.ext ((Ext.refl w2).alloc' (.cells #[.slice none 0 0] 92)))
  have HE2 := Lib.hid (hE2.alloc' (.cells #[.slice none 0 0] 92))
  clear hC2 hg2 hE2
  rw [show rNum 1 none = 0 from rfl]
  go_wp2_with fail
  go_loopw [17] (fun i wr => i = .int .i64 0 ∧ wr = w2.alloc (.cells #[.slice none 0 0] 92)) (fun i _ => 0)
  case atStart => exact ⟨rfl, rfl⟩
  case round =>
    obtain ⟨rfl, rfl⟩ := hrel
    go_wp2_with fail
    refine (cdone_any B none _ HC2.out).mono ?_
    rintro e w3 ⟨rfl, q, rfl⟩
    have hb0 := HB0.out.ext (HE2.out.trans (drewN_ext _ q))
    have c0 : ((w2.alloc (.cells #[.slice none 0 0] 92)).drewN q).cell? ⟨w.heap.size, 0, none⟩ = some (.slice none 0 0) := hb0.cell 0
    have f0 := hb0.frozen 0
    have hb1 := hb0.set 0 (.slice none 0 0)
    have HE3 := Lib.hid (HE0.out.trans (HE2.out.trans (drewN_ext _ q)))
    go_wp2_with fail
    exact bodyPost_ret (v := .tuple #[.agg #[.slice none 0 0], .int .i64 4]) (retCV rfl _ _ w.heap.size _ _ rfl rfl (run_loadVar_row _ _ _ _ _ (0, 0) _ hb1 Try.underlying92 rfl (by kernel_rfl))) rfl ⟨rfl, HE3.out.setCell (p := ⟨w.heap.size, 0, none⟩) (Nat.le_refl _) _⟩
end Go.Proofs.Ytcfmlgbocdjabaa
/- ids in strictly ascending order: block.validators over a function value; validBlock and its reference. -/
namespace Go.Proofs.Ytcfmlgbocdjabaa
open Go.RowKit
set_option linter.unusedVariables false
set_option linter.unusedSimpArgs false
attribute [local go_sem ↓] Go.wp_at_zero Go.wp_at_succ

/-- the id at i is an id of a validator, and greater than the one before it -/
def okId (ids : Nat → Int) (i : Nat) : Prop := 0 ≤ ids i ∧ ids i < 10 ∧ (0 < i → ids (i - 1) < ids i)
instance (ids : Nat → Int) (i : Nat) : Decidable (okId ids i) := by unfold okId; infer_instance
def okIds (ids : Nat → Int) (n : Nat) : Bool := decide (∀ i, i < n → okId ids i)
theorem okIds_no {ids : Nat → Int} {n k : Nat} (hk : k < n) (h : ¬ okId ids k) : okIds ids n = false := by
  unfold okIds; rw [decide_eq_false_iff_not]; exact fun hh => h (hh k hk)
theorem okIds_yes {ids : Nat → Int} {n : Nat} (h : ∀ i, i < n → okId ids i) : okIds ids n = true := by
  unfold okIds; rw [decide_eq_true_eq]; exact h
set_option maxRecDepth 100000 in
set_option maxHeartbeats 2000000 in
theorem validators_any (fn : Nat) (eg : ∀ args w, (callFunc fn args).run Try.prog w = .ok (.enter fn args) w) (ptr : Value) (ids : Nat → Int) (n : Nat) (hn : n ≤ 1000000) (w : World)
    (hid : ∀ i, i < n → Calls Try.prog fn #[.int .i64 (i : Int), ptr] w fun e w' => e = .returned (.int .i64 (ids i)) ∧ w = w') :
    Calls Try.prog 110 #[.int .i64 (n : Int), .func (.func fn) #[] #[ptr]] w fun e w' => e = .returned (.bool (okIds ids n)) ∧ w = w' := by
  have HID := Lib.hid hid
  clear hid
  go_enter Try.func110, Try.ntmps110
  go_wp2_with fail
  go_loop [7] (fun i => ∃ k : Nat, k ≤ n ∧ i = .int .i64 (k : Int) ∧ Hid (∀ j, j < k → okId ids j)) (fun i => n - (intOf i).toNat)
  case atStart => exact ⟨0, Nat.zero_le _, rfl, Lib.hid (fun j hj => by omega)⟩
  case round =>
    obtain ⟨k, hk, rfl, HP⟩ := hrel
    by_cases hlt : k < n
    · rcases Nat.eq_zero_or_pos k with rfl | hk0
      · have HK := Lib.hid (HID.out 0 hlt)
        obtain ⟨x, hx⟩ : ∃ x, ids 0 = x := ⟨_, rfl⟩
        rw [hx] at HK
        have HX := Lib.hid hx
        clear hx HID
        by_cases h0 : x < 0
        · have HF := Lib.hid (okIds_no hlt (fun h : okId ids 0 => by have := h.1; rw [HX.out] at this; omega))
          go_wp2_with fail
          refine HK.out.mono ?_
          rintro e w' ⟨rfl, rfl⟩
          go_wp2_with fail
          go_ret
          exact ⟨by rw [HF.out]; rfl, rfl⟩
        · have d0 : decide (x < 0) = false := decide_eq_false h0
          by_cases h1 : 10 ≤ x
          · have HF := Lib.hid (okIds_no hlt (fun h : okId ids 0 => by have := h.2.1; rw [HX.out] at this; omega))
            go_wp2_with fail
            refine HK.out.mono ?_
            rintro e w' ⟨rfl, rfl⟩
            go_wp2_with fail
            refine HK.out.mono ?_
            rintro e w' ⟨rfl, rfl⟩
            go_wp2_with fail
            go_ret
            exact ⟨by rw [HF.out]; rfl, rfl⟩
          · have d1 : decide (10 ≤ x) = false := decide_eq_false h1
            have HO := Lib.hid (show okId ids 0 from ⟨by rw [HX.out]; omega, by rw [HX.out]; omega, fun h => by omega⟩)
            go_wp2_with fail
            refine HK.out.mono ?_
            rintro e w' ⟨rfl, rfl⟩
            go_wp2_with fail
            refine HK.out.mono ?_
            rintro e w' ⟨rfl, rfl⟩
            go_wp2_with fail
            go_round
            case rel => exact ⟨1, by omega, rfl, Lib.hid (fun j hj => (show 0 = j by omega) ▸ HO.out)⟩
            case measure => simp [intOf]; omega
      · obtain ⟨j, rfl⟩ : ∃ j, k = j + 1 := ⟨k - 1, by omega⟩
        have HK := Lib.hid (HID.out (j + 1) hlt)
        have HJ := Lib.hid (HID.out j (by omega))
        obtain ⟨x, hx⟩ : ∃ x, ids (j + 1) = x := ⟨_, rfl⟩
        obtain ⟨y, hy⟩ : ∃ y, ids j = y := ⟨_, rfl⟩
        rw [hx, show (((j + 1 : Nat)) : Int) = (j : Int) + 1 from by omega] at HK
        rw [hy] at HJ
        have HX := Lib.hid hx
        have HY := Lib.hid hy
        clear hx hy HID
        rw [show (((j + 1 : Nat)) : Int) = (j : Int) + 1 from by omega]
        have j0 : (0 : Int) < (j : Int) + 1 := by omega
        have j1 : (j : Int) + 1 < (n : Int) := by omega
        by_cases h0 : x < 0
        · have HF := Lib.hid (okIds_no hlt (fun h : okId ids (j + 1) => by have := h.1; rw [HX.out] at this; omega))
          go_wp2_with fail
          refine HK.out.mono ?_
          rintro e w' ⟨rfl, rfl⟩
          go_wp2_with fail
          go_ret
          exact ⟨by rw [HF.out]; rfl, rfl⟩
        · have d0 : decide (x < 0) = false := decide_eq_false h0
          by_cases h1 : 10 ≤ x
          · have HF := Lib.hid (okIds_no hlt (fun h : okId ids (j + 1) => by have := h.2.1; rw [HX.out] at this; omega))
            go_wp2_with fail
            refine HK.out.mono ?_
            rintro e w' ⟨rfl, rfl⟩
            go_wp2_with fail
            refine HK.out.mono ?_
            rintro e w' ⟨rfl, rfl⟩
            go_wp2_with fail
            go_ret
            exact ⟨by rw [HF.out]; rfl, rfl⟩
          · have d1 : decide (10 ≤ x) = false := decide_eq_false h1
            by_cases h2 : x ≤ y
            · have HF := Lib.hid (okIds_no hlt (fun h : okId ids (j + 1) => by have := h.2.2 (by omega); rw [HX.out, show j + 1 - 1 = j from rfl, HY.out] at this; omega))
              go_wp2_with fail
              refine HK.out.mono ?_
              rintro e w' ⟨rfl, rfl⟩
              go_wp2_with fail
              refine HK.out.mono ?_
              rintro e w' ⟨rfl, rfl⟩
              go_wp2_with fail
              refine HJ.out.mono ?_
              rintro e w' ⟨rfl, rfl⟩
              go_wp2_with fail
              refine HK.out.mono ?_
              rintro e w' ⟨rfl, rfl⟩
              go_wp2_with fail
              go_ret
              exact ⟨by rw [HF.out]; rfl, rfl⟩
            · have d2 : decide (x ≤ y) = false := decide_eq_false h2
              have HO := Lib.hid (show okId ids (j + 1) from ⟨by rw [HX.out]; omega, by rw [HX.out]; omega, fun h => by rw [HX.out, show j + 1 - 1 = j from rfl, HY.out]; omega⟩)
              go_wp2_with fail
              refine HK.out.mono ?_
              rintro e w' ⟨rfl, rfl⟩
              go_wp2_with fail
              refine HK.out.mono ?_
              rintro e w' ⟨rfl, rfl⟩
              go_wp2_with fail
              refine HJ.out.mono ?_
              rintro e w' ⟨rfl, rfl⟩
              go_wp2_with fail
              refine HK.out.mono ?_
              rintro e w' ⟨rfl, rfl⟩
              go_wp2_with fail
              go_round
              case rel => exact ⟨j + 1 + 1, by omega, by go_num, Lib.hid (fun i hi => by
                rcases Nat.lt_or_ge i (j + 1) with h | h
                · exact HP.out i h
                · obtain rfl : i = j + 1 := by omega
                  exact HO.out)⟩
              case measure => simp [intOf]; omega
    · obtain rfl : k = n := by omega
      have HF := Lib.hid (okIds_yes HP.out)
      go_wp2_with fail
      go_ret
      exact ⟨by rw [HF.out]; rfl, rfl⟩
end Go.Proofs.Ytcfmlgbocdjabaa
/- A block as a value; validBlock. -/
namespace Go.Proofs.Ytcfmlgbocdjabaa
open Go.RowKit
set_option linter.unusedVariables false
set_option linter.unusedSimpArgs false
attribute [local go_sem ↓] Go.wp_at_zero Go.wp_at_succ

/-! a list of pairs of an id and a name (slots of a block, heads of a record): nine cells each -/
def chL (x : Int × UInt64) : List Value := .int .i64 x.1 :: bcs (nmb x.2)
theorem chL_length (x : Int × UInt64) : (chL x).length = 9 := by simp [chL, bcs_length, nmb_length]
abbrev chA (i : Int) (v : UInt64) : Array Value := #[.int .i64 i, .int .u8 (nb8 v 0), .int .u8 (nb8 v 1), .int .u8 (nb8 v 2), .int .u8 (nb8 v 3), .int .u8 (nb8 v 4), .int .u8 (nb8 v 5), .int .u8 (nb8 v 6), .int .u8 (nb8 v 7)]
theorem bcs_nb8 (n : UInt64) : bcs (nmb n) = [.int .u8 (nb8 n 0), .int .u8 (nb8 n 1), .int .u8 (nb8 n 2), .int .u8 (nb8 n 3), .int .u8 (nb8 n 4), .int .u8 (nb8 n 5), .int .u8 (nb8 n 6), .int .u8 (nb8 n 7)] := by
  rw [← nmc_toList, ← nmc_nb8]
theorem chL_eq (x : Int × UInt64) : (chL x).toArray = chA x.1 x.2 := by unfold chL; rw [bcs_nb8]
theorem chA_toList (i : Int) (v : UInt64) : (chA i v).toList = chL (i, v) := by unfold chL; rw [bcs_nb8]
def chc (L : List (Int × UInt64)) : List Value := L.flatMap chL
theorem chc_nil : chc [] = [] := rfl
theorem chc_cons (x : Int × UInt64) (r : List (Int × UInt64)) : chc (x :: r) = chL x ++ chc r := by simp [chc]
theorem chc_append (a b : List (Int × UInt64)) : chc (a ++ b) = chc a ++ chc b := by simp [chc]
theorem chc_length (L : List (Int × UInt64)) : (chc L).length = L.length * 9 := by
  induction L with
  | nil => rfl
  | cons x r ih => rw [chc_cons, List.length_append, chL_length, ih, List.length_cons]; omega
theorem chL_one (x : Int × UInt64) : ∀ u ∈ chL x, u.oneCell' = true := by
  intro u hu
  rcases List.mem_cons.1 hu with rfl | h
  · rfl
  · exact bcs_one _ u h
theorem chc_one (L : List (Int × UInt64)) : ∀ u ∈ chc L, u.oneCell' = true := by
  intro u hu
  simp only [chc, List.mem_flatMap] at hu
  obtain ⟨x, _, h⟩ := hu
  exact chL_one x u h
theorem chc_drop (L : List (Int × UInt64)) (k : Nat) : (chc L).drop (k * 9) = chc (L.drop k) := by
  induction k generalizing L with
  | zero => simp
  | succ k ih =>
    cases L with
    | nil => simp [chc]
    | cons n r =>
      rw [chc_cons, List.drop_succ_cons, ← ih r, show (k + 1) * 9 = (chL n).length + k * 9 from by rw [chL_length]; omega, List.drop_append, List.drop_of_length_le (by omega)]
      simp
def nthC (L : List (Int × UInt64)) (k : Nat) : Int × UInt64 := L.getD k (0, 0)
def idN (L : List (Int × UInt64)) (k : Nat) : Int := (nthC L k).1
def vlN (L : List (Int × UInt64)) (k : Nat) : UInt64 := (nthC L k).2
theorem chc_at {L : List (Int × UInt64)} {k : Nat} (h : k < L.length) : ((chc L).drop (k * 9)).take 9 = chL (idN L k, vlN L k) := by
  have e : L[k] = nthC L k := by simp [nthC, h]
  rw [chc_drop, List.drop_eq_getElem_cons h, chc_cons, List.take_append_of_le_length (by rw [chL_length]; omega), List.take_of_length_le (by rw [chL_length]; omega), e]
  rfl
theorem take_nthC {L : List (Int × UInt64)} {k : Nat} (h : k < L.length) : L.take (k + 1) = L.take k ++ [(idN L k, vlN L k)] := by
  rw [List.take_succ_eq_append_getElem h]
  have e : L[k] = nthC L k := by simp [nthC, h]
  rw [e]; rfl
structure SlC (w : World) (A : Option Addr) (n c : Nat) (L : List (Int × UInt64)) : Prop where
  len : L.length = n
  le : n ≤ c
  cap : c ≤ 9223372036854775807
  rd : Rd w A (chc L)
section
variable {w w' : World} {A : Option Addr} {n c : Nat} {L : List (Int × UInt64)}
theorem SlC.ext (h : SlC w A n c L) (e : Ext w w') : SlC w' A n c L := ⟨h.len, h.le, h.cap, h.rd.ext e⟩
theorem SlC.at (h : SlC w A n c L) (hn : 0 < n) : ∃ b o, A = some ⟨b, o, none⟩ ∧ w.rangeAt b o (chc L) ∧ b < w.heap.size :=
  h.rd.at (by intro e; have := congrArg List.length e; rw [chc_length, h.len] at this; simp at this; omega)
theorem SlC.nil (w : World) : SlC w none 0 0 [] := ⟨rfl, Nat.le_refl _, Nat.zero_le _, .nil⟩
theorem item_at {b o k : Nat} (h : w.rangeAt b o (chc L)) (hk : k < L.length) : w.rangeAt b (o + k * 9) (chL (idN L k, vlN L k)) := by
  have h1 := rangeAt_take (k := 9) (rangeAt_drop (k := k * 9) h)
  rwa [chc_at hk] at h1
theorem id_at {b o k : Nat} (h : w.rangeAt b o (chc L)) (hk : k < L.length) : w.cell? ⟨b, o + k * 9, none⟩ = some (.int .i64 (idN L k)) := item_at h hk 0 _ rfl
end
/-- the cells of a block -/
abbrev blkC (p : UInt64) (A : Option Addr) (n c : Nat) : Array Value := #[.int .u8 (nb8 p 0), .int .u8 (nb8 p 1), .int .u8 (nb8 p 2), .int .u8 (nb8 p 3), .int .u8 (nb8 p 4), .int .u8 (nb8 p 5), .int .u8 (nb8 p 6), .int .u8 (nb8 p 7), .slice A n c]
theorem blkC_range {w : World} {g : Nat} {t : TypeId} {p : UInt64} {A : Option Addr} {n c : Nat} (h : Blk w g t (blkC p A n c)) : w.rangeAt g 0 (bcs (nmb p)) := by
  have := rangeAt_take (k := 8) (rangeAt_of_blk h)
  rw [bcs_nb8]; exact this
theorem blkC_parent {w : World} {g : Nat} {t : TypeId} {p : UInt64} {A : Option Addr} {n c : Nat} (h : Blk w g t (blkC p A n c)) : SlB w (some ⟨g, 0, none⟩) 8 8 (nmb p) :=
  ⟨nmb_length p, Nat.le_refl _, by omega, .inr ⟨g, 0, rfl, blkC_range h⟩⟩
def vldBlk (L : List (Int × UInt64)) : Bool := decide (1 ≤ L.length ∧ L.length ≤ 7) && okIds (idN L) L.length
theorem vldBlk_len {L : List (Int × UInt64)} (h : vldBlk L = true) : 1 ≤ L.length ∧ L.length ≤ 7 := by
  unfold vldBlk at h; simp only [Bool.and_eq_true, decide_eq_true_eq] at h; exact h.1
set_option maxHeartbeats 1000000 in
theorem blkFn_any (g : Nat) (p : UInt64) (A : Option Addr) (n c : Nat) (L : List (Int × UInt64)) (i : Nat) (hi : i < n) (hn : n ≤ 1000000) (w : World) (hB : Blk w g 26 (blkC p A n c)) (hS : SlC w A n c L) :
    Calls Try.prog 111 #[.int .i64 (i : Int), .pointer (some ⟨g, 0, none⟩)] w fun e w' => e = .returned (.int .i64 (idN L i)) ∧ w = w' := by
  have hlen := hS.len
  obtain ⟨b, o, rfl, hr, hb⟩ := hS.at (by omega)
  have h8 : w.cell? ⟨g, 8, none⟩ = some (.slice (some ⟨b, o, none⟩) n c) := hB.cell 8
  have hid := id_at hr (k := i) (by omega)
  have i0 : (0 : Int) ≤ (i : Int) := by omega
  have i1 : (i : Int) < (n : Int) := by omega
  clear hB hS hr hlen
  go_enter Try.func111, Try.ntmps111
  go_wp2_with fail
  go_ret
  exact ⟨rfl, rfl⟩
theorem egBlk : ∀ args w, (callFunc 111 args).run Try.prog w = .ok (.enter 111 args) w := fun _ _ => by kernel_rfl
set_option maxHeartbeats 1000000 in
theorem validBlock_any (p : UInt64) (A : Option Addr) (n c : Nat) (L : List (Int × UInt64)) (w : World) (hS : SlC w A n c L) (hn : n ≤ 1000000) :
    Calls Try.prog 52 #[.agg (blkC p A n c)] w fun e w' => e = .returned (.bool (vldBlk L)) ∧ Ext w w' := by
  have hlen := hS.len
  have hE := (Ext.refl w).alloc' (.cells (blkC p A n c) 26)
  have HV := Lib.hid (show vldBlk L = (decide (1 ≤ n ∧ n ≤ 7) && okIds (idN L) n) by unfold vldBlk; rw [hlen])
  have HF := Lib.hid (fun (hn : n ≤ 1000000) => validators_any 111 egBlk (.pointer (some ⟨w.heap.size, 0, none⟩)) (idN L) n hn (w.alloc (.cells (blkC p A n c) 26)) (fun i hi => blkFn_any w.heap.size p A n c L i hi hn _ (Blk.new _ _ _) (hS.ext hE)))
  have HE := Lib.hid hE
  clear hS hE hlen
  by_cases h1 : n = 0
  · subst h1
    have HR := Lib.hid (show vldBlk L = false by rw [HV.out]; simp)
    clear HF HV
    go_enter Try.func52, Try.ntmps52
    go_wp2_with fail
    go_ret
    exact ⟨by rw [HR.out]; rfl, HE.out⟩
  · by_cases h7 : n ≤ 7
    · have HR := Lib.hid (show vldBlk L = okIds (idN L) n by rw [HV.out, decide_eq_true (by omega), Bool.true_and])
      have i1 : (1 : Int) ≤ (n : Int) := by omega
      have i7 : (n : Int) ≤ 7 := by omega
      clear HV h1 h7
      go_enter Try.func52, Try.ntmps52
      go_wp2_with fail
      refine (HF.out (by omega)).mono ?_
      rintro e w1 ⟨rfl, rfl⟩
      go_wp2_with fail
      go_ret
      exact ⟨by rw [HR.out]; rfl, HE.out⟩
    · have HR := Lib.hid (show vldBlk L = false by rw [HV.out, decide_eq_false (by omega), Bool.false_and])
      have i1 : (1 : Int) ≤ (n : Int) := by omega
      have i7 : decide ((n : Int) ≤ 7) = false := decide_eq_false (by omega)
      have i8 : (7 : Int) < (n : Int) := by omega
      clear HF HV h1 h7
      go_enter Try.func52, Try.ntmps52
      go_wp2_with fail
      go_ret
      exact ⟨by rw [HR.out]; rfl, HE.out⟩
end Go.Proofs.Ytcfmlgbocdjabaa
