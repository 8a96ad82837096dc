/- Stable sorting, plain: blocks put in order, then merged two by two. -/
import Derived.Test.YtjlnmpjffogpdaaK02
import Derived.Test.YtjlnmpjffogpdaaK03
import Derived.Test.YtjlnmpjffogpdaaK04
namespace Go.Proofs.Ytjlnmpjffogpdaa
open Go.Sort
set_option linter.unusedVariables false
section
variable {α : Type} [Inhabited α] {lt : α → α → Bool} {a m b s n : Nat} {d0 d d' d'' : Array α}
theorem Rot.perm (h : Rot a m b d d') (ham : a ≤ m) (hmb : m ≤ b) (hb : b ≤ d.size) : PermIn a b d d' := by
  refine ⟨h.size, fun i hi => h.out i hi, ?_⟩
  rw [extract_toList d' a b (by rw [h.size]; exact hb), extract_toList d a b hb]
  have e1 : List.range' a (b - a) = List.range' a (b - m) ++ List.range' (a + (b - m)) (m - a) := by
    rw [List.range'_append_1]; congr 1; omega
  have e2 : List.range' a (b - a) = List.range' a (m - a) ++ List.range' m (b - m) := by
    have := List.range'_append_1 (s := a) (m := m - a) (n := b - m)
    rw [show a + (m - a) = m from by omega, show m - a + (b - m) = b - a from by omega] at this
    exact this.symm
  have g1 : (List.range' a (b - m)).map (fun i => d'[i]!) = (List.range' m (b - m)).map (fun i => d[i]!) := by
    refine List.ext_getElem (by simp) fun i h1 h2 => ?_
    simp only [List.length_map, List.length_range'] at h1
    simp only [List.getElem_map, List.getElem_range', Nat.one_mul]
    rw [h.lo (a + i) (by omega) (by omega)]; congr 1; omega
  have g2 : (List.range' (a + (b - m)) (m - a)).map (fun i => d'[i]!) = (List.range' a (m - a)).map (fun i => d[i]!) := by
    refine List.ext_getElem (by simp) fun i h1 h2 => ?_
    simp only [List.length_map, List.length_range'] at h1
    simp only [List.getElem_map, List.getElem_range', Nat.one_mul]
    rw [h.hi (a + (b - m) + i) (by omega) (by omega)]; congr 1; omega
  have k1 : (List.range' a (b - a)).map (fun i => d'[i]!) = (List.range' m (b - m)).map (fun i => d[i]!) ++ (List.range' a (m - a)).map (fun i => d[i]!) := by
    rw [e1, List.map_append, g1, g2]
  have k2 : (List.range' a (b - a)).map (fun i => d[i]!) = (List.range' a (m - a)).map (fun i => d[i]!) ++ (List.range' m (b - m)).map (fun i => d[i]!) := by
    rw [e2, List.map_append]
  have k1' := k1
  have k2' := k2
  exact (List.Perm.of_eq k1).trans (List.perm_append_comm.trans (List.Perm.of_eq k2.symm))
theorem sorted_far {x y : Nat} (p : PermIn a b d d') (h : SortedIn lt x y d) (hd : y ≤ a ∨ b ≤ x) : SortedIn lt x y d' := fun i j hi hij hj => by
  rw [p.2.1 i (by omega), p.2.1 j (by omega)]; exact h i j hi hij hj
/-- the first blocks of twenty are in order -/
structure InsA (lt : α → α → Bool) (a n : Nat) (d0 d : Array α) : Prop where
  perm : PermIn 0 n d0 d
  low : ∃ j, a = j * 20 ∧ ∀ k, k < j → SortedIn lt (k * 20) ((k + 1) * 20) d
/-- all blocks of s are in order -/
structure Runs (lt : α → α → Bool) (s n : Nat) (d0 d : Array α) : Prop where
  perm : PermIn 0 n d0 d
  all : ∀ k, SortedIn lt (k * s) (min ((k + 1) * s) n) d
theorem InsA.start (n : Nat) (d : Array α) : InsA lt 0 n d d := ⟨permIn_refl _ _ _, 0, rfl, fun k hk => absurd hk (Nat.not_lt_zero _)⟩
theorem InsA.step (h : InsA lt a n d0 d) (hb : a + 20 ≤ n) (hn : n ≤ d0.size) (p : PermIn a (a + 20) d d') (q : SortedIn lt a (a + 20) d') : InsA lt (a + 20) n d0 d' := by
  obtain ⟨hp, j, rfl, hl⟩ := h
  have hs := hp.1
  refine ⟨permIn_trans _ _ _ _ _ hp (permIn_mono _ _ _ _ _ _ (by omega) hb (by omega) p), j + 1, by omega, fun k hk => ?_⟩
  by_cases e : k = j
  · subst e; rw [show (k + 1) * 20 = k * 20 + 20 from by omega]; exact q
  · exact sorted_far p (hl k (by omega)) (.inl (by omega))
theorem InsA.last (h : InsA lt a n d0 d) (ha : a ≤ n) (hb : n < a + 20) (hn : n ≤ d0.size) (p : PermIn a n d d') (q : SortedIn lt a n d') : Runs lt 20 n d0 d' := by
  obtain ⟨hp, j, rfl, hl⟩ := h
  have hs := hp.1
  refine ⟨permIn_trans _ _ _ _ _ hp (permIn_mono _ _ _ _ _ _ (by omega) (Nat.le_refl _) (by omega) p), fun k => ?_⟩
  by_cases e : k = j
  · subst e; rw [show min ((k + 1) * 20) n = n from by omega]; exact q
  · by_cases e2 : k < j
    · rw [show min ((k + 1) * 20) n = (k + 1) * 20 from by omega]; exact sorted_far p (hl k e2) (.inl (by omega))
    · intro x y h1 h2 h3; omega
theorem Runs.whole (h : Runs lt s n d0 d) (hs : n ≤ s) : SortedIn lt 0 n d := by
  have := h.all 0
  rw [Nat.zero_mul, Nat.zero_add, Nat.one_mul, Nat.min_eq_right hs] at this
  exact this
/-- below a the blocks of 2 s are in order, from a on those of s -/
structure MerA (lt : α → α → Bool) (s a n : Nat) (d0 d : Array α) : Prop where
  perm : PermIn 0 n d0 d
  run : ∃ j, a = j * (2 * s) ∧ (∀ k, k < j → SortedIn lt (k * (2 * s)) ((k + 1) * (2 * s)) d) ∧ ∀ k, 2 * j ≤ k → SortedIn lt (k * s) (min ((k + 1) * s) n) d
theorem MerA.start (h : Runs lt s n d0 d) : MerA lt s 0 n d0 d := ⟨h.perm, 0, by simp, fun k hk => absurd hk (Nat.not_lt_zero _), fun k _ => h.all k⟩
theorem two_mul_s (j s : Nat) : 2 * j * s = j * (2 * s) := by rw [Nat.mul_comm 2 j, Nat.mul_assoc]
theorem succ_mul_s (j s : Nat) : (j + 1) * (2 * s) = j * (2 * s) + 2 * s := by rw [Nat.add_mul, Nat.one_mul]
theorem MerA.left (h : MerA lt s a n d0 d) (hb : a + s ≤ n) : SortedIn lt a (a + s) d := by
  obtain ⟨hp, j, rfl, hl, hh⟩ := h
  have := hh (2 * j) (Nat.le_refl _)
  rw [Nat.add_mul, Nat.one_mul, two_mul_s, Nat.min_eq_left hb] at this
  exact this
theorem MerA.right (h : MerA lt s a n d0 d) : SortedIn lt (a + s) (min (a + 2 * s) n) d := by
  obtain ⟨hp, j, rfl, hl, hh⟩ := h
  have := hh (2 * j + 1) (by omega)
  rw [Nat.add_mul (2 * j + 1) 1, Nat.one_mul, Nat.add_mul, Nat.one_mul, two_mul_s, show j * (2 * s) + s + s = j * (2 * s) + 2 * s from by omega] at this
  exact this
theorem MerA.step (h : MerA lt s a n d0 d) (hb : a + 2 * s ≤ n) (hn : n ≤ d0.size) (p : PermIn a (a + 2 * s) d d') (q : SortedIn lt a (a + 2 * s) d') : MerA lt s (a + 2 * s) n d0 d' := by
  obtain ⟨hp, j, rfl, hl, hh⟩ := h
  have hs := hp.1
  refine ⟨permIn_trans _ _ _ _ _ hp (permIn_mono _ _ _ _ _ _ (by omega) hb (by omega) p), j + 1, (succ_mul_s j s).symm, fun k hk => ?_, fun k hk => ?_⟩
  · by_cases e : k = j
    · subst e; rw [succ_mul_s]; exact q
    · exact sorted_far p (hl k (by omega)) (.inl (Nat.mul_le_mul_right _ (by omega)))
  · refine sorted_far p (hh k (by omega)) (.inr ?_)
    have := Nat.mul_le_mul_right s hk
    rw [two_mul_s, succ_mul_s] at this
    exact this
theorem MerA.last (h : MerA lt s a n d0 d) (ha : a ≤ n) (hb : n < a + 2 * s) (hn : n ≤ d0.size) (p : PermIn a n d d') (q : SortedIn lt a n d') : Runs lt (2 * s) n d0 d' := by
  obtain ⟨hp, j, rfl, hl, hh⟩ := h
  have hs := hp.1
  refine ⟨permIn_trans _ _ _ _ _ hp (permIn_mono _ _ _ _ _ _ (by omega) (Nat.le_refl _) (by omega) p), fun k => ?_⟩
  by_cases e : k = j
  · subst e; rw [succ_mul_s, Nat.min_eq_right (by omega)]; exact q
  · by_cases e2 : k < j
    · have h1 : (k + 1) * (2 * s) ≤ j * (2 * s) := Nat.mul_le_mul_right _ (by omega)
      rw [Nat.min_eq_left (by omega)]; exact sorted_far p (hl k e2) (.inl h1)
    · intro x y h1 h2 h3
      have h4 : (j + 1) * (2 * s) ≤ k * (2 * s) := Nat.mul_le_mul_right _ (by omega)
      rw [succ_mul_s] at h4
      omega
theorem MerA.rest (h : MerA lt s a n d0 d) (hb : n ≤ a + s) (ha : a ≤ n) (hn : n ≤ d0.size) : Runs lt (2 * s) n d0 d := by
  have hs := h.perm.1
  rcases Nat.eq_zero_or_pos s with e | e
  · subst e
    have ha : a = n := by omega
    obtain ⟨hp, j, rfl, hl, hh⟩ := h
    refine ⟨hp, fun k => ?_⟩
    intro x y h1 h2 h3; omega
  · have hl := h.right
    have h0 : SortedIn lt a n d := by
      obtain ⟨hp, j, rfl, hl, hh⟩ := h
      have := hh (2 * j) (Nat.le_refl _)
      rw [Nat.add_mul, Nat.one_mul, two_mul_s, Nat.min_eq_right hb] at this
      exact this
    exact h.last ha (by omega) hn (permIn_refl _ _ _) h0
end
end Go.Proofs.Ytjlnmpjffogpdaa

namespace Go.Proofs.Ytjlnmpjffogpdaa
open Go.RowKit
set_option linter.unusedVariables false
set_option linter.unusedSimpArgs false
attribute [local go_sem ↓] Go.wp_at_zero Go.wp_at_succ

/-- the name of a byte string behind a tag -/
def tagU (t : UInt8) (l : List UInt8) : UInt64 := sumU (t :: l)
theorem hmk160 (w : World) : (Instr.makeSlice 33 (.int .i64 0) (.int .i64 160)).run Try.prog w = .ok (.slice (some ⟨w.heap.size, 0, none⟩) 0 160) (w.alloc (.cells (madeCells (Value.int .u8 0).cells 160) 5)) := by
  obtain ⟨i, hi, hz, hs, hby⟩ := bytesE.get
  have h := run_make (P := Try.prog) w 33 5 i (.int .u8 0) bytesE.ut hi hz .i64 .i64 0 160 (by omega) (by omega) (by rw [hby]; omega) (by omega)
  simpa [hs] using h
set_option maxRecDepth 100000 in
set_option maxHeartbeats 1000000 in
theorem tagged_any (t : UInt8) (A : Option Addr) (n c : Nat) (l : List UInt8) (w : World) (h : SlB w A n c l) (hm : n < 140737488355328) :
    Calls Try.prog 60 #[.int .u8 (t.toNat : Int), .slice A n c] w fun e w' => e = .returned (.agg (nmc (tagU t l))) ∧ Ext w w' := by
  have hmk := hmk160
  go_enter Try.func60, Try.ntmps60
  go_wp2_with (at_builtin; go_must (refine wpList_appB bytesE rfl (.tmp 7) (.tmp 9) rfl (w.heap.size + 1) _ _ _ [] rfl ((OwnB.made (w.alloc _) (w.heap.size + 1) _ 160 (w.heap.size + 1) (by simp) (Nat.le_refl _) (by omega) (size_madeCells _ _)).alloc _) _ _ _ [t] rfl ?r1 (by omega) ?b1 (w.alloc (.cells zcs.toArray 26)) ?w1 ?_))
  case r1 => exact SlB.new1 _ _ _ t _ (by simp) rfl
  case b1 => simp
  case w1 => exact Below.alloc (Below.alloc (Below.refl _ _) (by simp) _) (by simp) _
  intro A1 c1 w1 ho1 hw1 hs1
  have hsl := h.ext (((Ext.refl w).alloc' _).trans (hw1.mono (by simp)))
  have hsz : w.heap.size + 1 ≤ w1.heap.size := by omega
  go_wp2_with (at_builtin; refine wpList_appB bytesE rfl (.tmp 10) (.tmp 11) rfl (w.heap.size + 1) _ _ _ [t] rfl ho1 _ _ _ l rfl hsl (by omega) hsz (w.alloc (.cells zcs.toArray 26)) hw1 ?_)
  intro A2 c2 w2 ho2 hw2 hs2
  go_wp2_with fail
  refine (sum_any _ _ _ _ _ ho2.sl (by omega)).mono ?_
  rintro e w3 ⟨rfl, he3⟩
  have hE3 : Ext (w.alloc (.cells zcs.toArray 26)) w3 := by have := Below.trans hw2 (he3.mono (B' := w.heap.size + 1) (by omega)); simpa [Ext] using this
  have hb0 : Blk w3 w.heap.size 26 zcs.toArray := (Blk.new w _ _).ext hE3
  go_wp2_with (refine wpList_store_mid rfl 26 _ _ rfl w.heap.size 0 (nmc (sumU ([t] ++ l))) rfl rfl (thereN hb0 _) (size61 _) (nmc_one _) ?_)
  refine bodyPost_ret (v := .agg (nmc (sumU ([t] ++ l)))) (retN rfl _ _ w.heap.size _ rfl (blkN hb0 _)) rfl ⟨rfl, Below.setCells' (((Ext.refl w).alloc' _).trans hE3) (Nat.le_refl _) _ _⟩
end Go.Proofs.Ytjlnmpjffogpdaa
namespace Go.Proofs.Ytjlnmpjffogpdaa
open Go.RowKit
set_option linter.unusedVariables false
set_option linter.unusedSimpArgs false
attribute [local go_sem ↓] Go.wp_at_zero Go.wp_at_succ


end Go.Proofs.Ytjlnmpjffogpdaa
namespace Go.Proofs.Ytjlnmpjffogpdaa
open Go.RowKit
set_option linter.unusedVariables false
set_option linter.unusedSimpArgs false
attribute [local go_sem ↓] Go.wp_at_zero Go.wp_at_succ


end Go.Proofs.Ytjlnmpjffogpdaa
namespace Go.Proofs.Ytjlnmpjffogpdaa
open Go.RowKit
set_option linter.unusedVariables false
set_option linter.unusedSimpArgs false
attribute [local go_sem ↓] Go.wp_at_zero Go.wp_at_succ

theorem Blk.setCells_far {w : World} {g g' : Nat} {t : TypeId} {cs : Array Value} (h : Blk w g t cs) (hne : g ≠ g') (vs : List Value) : ∀ o, Blk (w.setCells g' o vs) g t cs := by
  induction vs generalizing w with
  | nil => intro o; exact h
  | cons v r ih => intro o; exact ih (h.far (p := ⟨g', o, none⟩) hne v) (o + 1)
theorem nmc_get (n : UInt64) (k : Nat) (hk : k < 8) : (nmc n)[k]? = some (.int .u8 (((nmb n).getD k 0).toNat : Int)) := by
  have hl := nmb_length n
  simp [nmc, bcs, bv, hl, hk]
theorem nmb_list (n : UInt64) : nmb n = [(nmb n).getD 0 0, (nmb n).getD 1 0, (nmb n).getD 2 0, (nmb n).getD 3 0, (nmb n).getD 4 0, (nmb n).getD 5 0, (nmb n).getD 6 0, (nmb n).getD 7 0] := by
  have hl := nmb_length n
  match h : nmb n, hl with
  | [a, b, c, d, e, f, g, i], _ => rfl
end Go.Proofs.Ytjlnmpjffogpdaa

/- codec.Uint and its reference, over every offset and width. -/
namespace Go.Proofs.Ytjlnmpjffogpdaa
open Go.RowKit
set_option linter.unusedVariables false
set_option linter.unusedSimpArgs false
attribute [local go_sem ↓] Go.wp_at_zero Go.wp_at_succ

/-- n bytes follow the offset at -/
def flw (len at_ n : Int) : Bool := decide (0 ≤ at_ ∧ at_ ≤ len ∧ n ≤ len - at_)
set_option maxHeartbeats 1000000 in
theorem codFollow_any (A : Option Addr) (len c : Nat) (at_ n : Int) (w : World) (hl : len ≤ 9223372036854775807) :
    Calls Try.prog 108 #[.slice A len c, .int .i64 at_, .int .i64 n] w fun e w' => e = .returned (.bool (flw len at_ n)) ∧ w = w' := by
  by_cases h1 : 0 ≤ at_
  · by_cases h2 : at_ ≤ (len : Int)
    · by_cases h3 : n ≤ (len : Int) - at_
      · have hf : flw len at_ n = true := by unfold flw; simp only [decide_eq_true_eq]; exact ⟨h1, h2, h3⟩
        rw [hf]; clear hf
        go_enter Try.func108, Try.ntmps108
        go_wp2_with fail
        go_ret
        exact ⟨rfl, rfl⟩
      · have hf : flw len at_ n = false := by unfold flw; simp only [decide_eq_false_iff_not]; omega
        have h3' : decide (n ≤ (len : Int) - at_) = false := decide_eq_false h3
        rw [hf]; clear hf
        go_enter Try.func108, Try.ntmps108
        go_wp2_with fail
        go_ret
        exact ⟨rfl, rfl⟩
    · have hf : flw len at_ n = false := by unfold flw; simp only [decide_eq_false_iff_not]; omega
      have h2' : decide (at_ ≤ (len : Int)) = false := decide_eq_false h2
      rw [hf]; clear hf
      go_enter Try.func108, Try.ntmps108
      go_wp2_with fail
      go_ret
      exact ⟨rfl, rfl⟩
  · have hf : flw len at_ n = false := by unfold flw; simp only [decide_eq_false_iff_not]; omega
    have h1' : decide (0 ≤ at_) = false := decide_eq_false h1
    rw [hf]; clear hf
    go_enter Try.func108, Try.ntmps108
    go_wp2_with fail
    go_ret
    exact ⟨rfl, rfl⟩
theorem or_byte' (a : Nat) (c : UInt8) (ha : a < 72057594037927936) : bits .or .u64 (IntKind.u64.wrap ((a : Int) * 256)) (c.toNat : Int) = ((a * 256 + c.toNat : Nat) : Int) := or_byte a c ha
theorem pow_le7 (a k : Nat) (h : a < 256 ^ k) (hk : k < 8) : a < 72057594037927936 := Nat.lt_of_lt_of_le h (Nat.pow_le_pow_right (n := 256) (j := 7) (by omega) (by omega))
/-- the number that stands in 'width' bytes at an offset -/
def numAt (l : List UInt8) (at_ width : Nat) : Nat := beNat ((l.drop at_).take width)
set_option maxRecDepth 100000 in
set_option maxHeartbeats 1000000 in
theorem uint_yes (A : Option Addr) (n c : Nat) (l : List UInt8) (at_ width : Nat) (w : World) (h : SlB w A n c l) (h1 : 1 ≤ width) (h8 : width ≤ 8) (hf : at_ + width ≤ n) :
    Calls Try.prog 81 #[.slice A n c, .int .i64 (at_ : Int), .int .i64 (width : Int)] w fun e w' => e = .returned (.tuple #[.int .u64 (numAt l at_ width : Int), .bool true]) ∧ w = w' := by
  have hle := h.le
  have hcap := h.cap
  have hlen := h.len
  have e1 : decide ((width : Int) < 1) = false := decide_eq_false (by omega)
  have e2 : decide ((8 : Int) < (width : Int)) = false := decide_eq_false (by omega)
  have hfl : flw n at_ width = true := by unfold flw; simp only [decide_eq_true_eq]; omega
  have b1 : ¬ c = at_ := by omega
  obtain ⟨b, o, rfl, hra, hbl⟩ := h.at (by omega)
  go_enter Try.func81, Try.ntmps81
  go_wp2_with (go_at_call 108; refine (codFollow_any _ _ _ _ _ _ (by omega)).mono ?_; rintro e w1 ⟨rfl, rfl⟩; rw [hfl])
  go_loop [8, 31] (fun v i => ∃ k : Nat, k ≤ width ∧ i = .int .i64 (k : Int) ∧ v = .int .u64 ((numAt l at_ k : Nat) : Int)) (fun _ i => width - (intOf i).toNat)
  case atStart => exact ⟨0, by omega, rfl, by simp [numAt, beNat]⟩
  case round =>
    obtain ⟨k, hk, rfl, rfl⟩ := hrel
    by_cases hlt : k < width
    · have hcell := byte_at hra (at_ + k) (by omega)
      rw [← Nat.add_assoc] at hcell
      have hd : (l.drop at_)[k]'(by simp; omega) = l[at_ + k]'(by omega) := by simp
      have HS := Lib.hid (show numAt l at_ (k + 1) = numAt l at_ k * 256 + (l[at_ + k]'(by omega)).toNat by unfold numAt; rw [take_at _ _ (by simp; omega), beNat_snoc, hd])
      have hor := or_byte' (numAt l at_ k) (l[at_ + k]'(by omega)) (pow_le7 _ k (beNat_take_lt _ _ (by simp; omega)) (by omega))
      clear hd
      generalize numAt l at_ k = a at *
      generalize (l[at_ + k]'(by omega)) = x at *
      go_wp2_with fail
      go_round
      case rel => exact ⟨k + 1, by omega, by go_num, by rw [HS.out]; go_num⟩
      case measure => simp [intOf]; omega
    · obtain rfl : k = width := by omega
      go_wp2_with fail
      go_ret2
      exact ⟨rfl, rfl⟩
set_option maxRecDepth 100000 in
set_option maxHeartbeats 1000000 in
theorem uint_no (A : Option Addr) (n c : Nat) (at_ width : Int) (w : World) (hn : n ≤ 9223372036854775807) (h1 : 1 ≤ width) (h8 : width ≤ 8) (hf : flw n at_ width = false) :
    Calls Try.prog 81 #[.slice A n c, .int .i64 at_, .int .i64 width] w fun e w' => e = .returned (.tuple #[.int .u64 0, .bool false]) ∧ w = w' := by
  have e1 : decide (width < 1) = false := decide_eq_false (by omega)
  have e2 : decide (8 < width) = false := decide_eq_false (by omega)
  go_enter Try.func81, Try.ntmps81
  go_wp2_with (go_at_call 108; refine (codFollow_any _ _ _ _ _ _ (by omega)).mono ?_; rintro e w1 ⟨rfl, rfl⟩; rw [hf])
  go_ret2
  exact ⟨rfl, rfl⟩
end Go.Proofs.Ytjlnmpjffogpdaa
