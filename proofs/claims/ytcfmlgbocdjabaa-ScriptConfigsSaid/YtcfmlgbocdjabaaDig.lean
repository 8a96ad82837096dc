import Derived.Test.YtcfmlgbocdjabaaTag
namespace Go.Proofs.Ytcfmlgbocdjabaa
open Go.RowKit
set_option linter.unusedVariables false
set_option linter.unusedSimpArgs false
attribute [local go_sem ↓] Go.wp_at_zero Go.wp_at_succ

def iv (z : Int) : Value := .int .i64 z
def ics (l : List Int) : List Value := l.map iv
theorem ics_length (l : List Int) : (ics l).length = l.length := by simp [ics]
theorem ics_append (a b : List Int) : ics (a ++ b) = ics a ++ ics b := by simp [ics]
theorem ics_one (l : List Int) : ∀ u ∈ ics l, u.oneCell' = true := by
  intro u hu; simp only [ics, List.mem_map] at hu; obtain ⟨c, _, rfl⟩ := hu; rfl
theorem intsE : Elem Try.prog 38 3 (.int .i64 0) 1 8 := ⟨Try.underlying38, by kernel_rfl, rfl, by decide⟩
/-- the digits of bytes, and their sum -/
def dg (l : List UInt8) : List Int := l.flatMap fun c => [((c.toNat / 16 : Nat) : Int), ((c.toNat % 16 : Nat) : Int)]
def dsum : List UInt8 → Nat
  | [] => 0
  | c :: r => c.toNat / 16 + c.toNat % 16 + dsum r
theorem dg_snoc (l : List UInt8) (c : UInt8) : dg (l ++ [c]) = dg l ++ [((c.toNat / 16 : Nat) : Int), ((c.toNat % 16 : Nat) : Int)] := by simp [dg]
theorem dg_length (l : List UInt8) : (dg l).length = 2 * l.length := by
  induction l with
  | nil => rfl
  | cons c r ih => simp only [dg, List.flatMap_cons, List.length_append, List.length_cons, List.length_nil] at *; omega
theorem dsum_append (a b : List UInt8) : dsum (a ++ b) = dsum a + dsum b := by
  induction a with
  | nil => simp [dsum]
  | cons c r ih => simp [dsum, ih]; omega
theorem dsum_le (l : List UInt8) : dsum l ≤ 30 * l.length := by
  induction l with
  | nil => simp [dsum]
  | cons c r ih => have := c.toNat_lt; simp only [dsum, List.length_cons]; omega
/-- the 18 digits of a name -/
def digs (m : UInt64) : List Int := dg (nmb m) ++ [(((240 - dsum (nmb m)) / 16 : Nat) : Int), (((240 - dsum (nmb m)) % 16 : Nat) : Int)]
theorem digs_length (m : UInt64) : (digs m).length = 18 := by simp [digs, dg_length, nmb_length]
theorem and15 (c : UInt8) : bits .and .u8 (c.toNat : Int) 15 = ((c.toNat % 16 : Nat) : Int) := by
  have h := c.toNat_lt
  rw [show (15 : Int) = ((15 : Nat) : Int) from rfl, u8_and_nat _ _ h (by omega)]
  rw [show (15 : Nat) = 2 ^ 4 - 1 from rfl, Nat.and_two_pow_sub_one_eq_mod]
theorem ofInt_i64' (a : Nat) (ha : a < 9223372036854775808) : (BitVec.ofInt 64 (a : Int)).toNat = a := by
  rw [BitVec.ofInt_natCast, BitVec.toNat_ofNat]; exact Nat.mod_eq_of_lt (by omega)
theorem and15i (a : Nat) (ha : a < 9223372036854775808) : bits .and .i64 (a : Int) 15 = ((a % 16 : Nat) : Int) := by
  have hx : a &&& 15 = a % 16 := by rw [show (15 : Nat) = 2 ^ 4 - 1 from rfl, Nat.and_two_pow_sub_one_eq_mod]
  show IntKind.i64.wrap ((BitVec.ofInt 64 (a : Int) &&& BitVec.ofInt 64 ((15 : Nat) : Int)).toNat : Int) = _
  rw [BitVec.toNat_and, ofInt_i64' a ha, ofInt_i64' 15 (by omega), IntKind.wrap_i64, hx]
  omega
theorem hmkI18 (w : World) : (Instr.makeSlice 38 (.int .i64 0) (.int .i64 18)).run Try.prog w = .ok (.slice (some ⟨w.heap.size, 0, none⟩) 0 18) (w.alloc (.cells (madeCells (Value.int .i64 0).cells 18) 3)) := by
  obtain ⟨i, hi, hz, hs, hby⟩ := intsE.get
  have h := run_make (P := Try.prog) w 38 3 i (.int .i64 0) intsE.ut hi hz .i64 .i64 0 18 (by omega) (by omega) (by rw [hby]; omega) (by omega)
  simpa [hs] using h
theorem Rd.new2 (w : World) (t : TypeId) (a b : Value) (g : Nat) (hg : w.heap.size = g) : Rd (w.alloc (.cells #[a, b] t)) (some ⟨g, 0, none⟩) [a, b] := by subst hg; exact Rd.of_blk (Blk.new w t #[a, b])
set_option maxRecDepth 100000 in
set_option maxHeartbeats 1000000 in
theorem digits_any (m : UInt64) (w : World) :
    Calls Try.prog 187 #[.agg (nmc m)] w fun e w' => ∃ g c, e = .returned (.slice (some ⟨g, 0, none⟩) 18 c) ∧ w'.rangeAt g 0 (ics (digs m)) ∧ w.heap.size ≤ g ∧ Ext w w' := by
  have hmk := hmkI18
  have hl := nmb_length m
  go_enter Try.func187, Try.ntmps187
  go_wp2_with (refine wpList_load_row rfl 23 (.tmp 1) rfl _ rfl 23 _ (0, 0) _ ((Blk.new w _ _).alloc _) Try.underlying23 rfl (size61 m) ?_)
  go_loopw [3, 4, 11] (fun o s i wr => ∃ (k : Nat) (A : Option Addr) (c : Nat), k ≤ 8 ∧ i = .int .i64 (k : Int) ∧ s = .int .i64 ((240 - dsum ((nmb m).take k) : Nat) : Int) ∧ o = .slice A (2 * k) c ∧ wr.ownsRow (w.heap.size + 1) 3 1 (.slice A (2 * k) c) (2 * k) (ics (dg ((nmb m).take k))) ∧ Below (w.heap.size + 1) (w.alloc (.cells (nmc m) 23)) wr ∧ w.heap.size + 1 ≤ wr.heap.size) (fun _ _ i _ => 8 - (intOf i).toNat)
  case atStart => exact ⟨0, _, _, by omega, rfl, rfl, rfl, own_made (w.alloc _) _ _ 18 _ (by simp) (Nat.le_refl _) (by omega) (by rw [size_madeCells]), Below.alloc (Below.refl _ _) (by simp) _, by simp⟩
  case round =>
    obtain ⟨k, A, c, hk, rfl, rfl, rfl, hO, hB, hsz⟩ := hrel
    have hd : dsum ((nmb m).take k) ≤ 30 * k := by have := dsum_le ((nmb m).take k); rw [List.length_take, hl] at this; omega
    by_cases hlt : k < 8
    · have hix := run_index_name m k hlt
      have HT := Lib.hid (take_get (nmb m) k (by omega))
      have HD : Hid (dsum ((nmb m).take (k + 1)) = dsum ((nmb m).take k) + (((nmb m).getD k 0).toNat / 16 + ((nmb m).getD k 0).toNat % 16)) := Lib.hid (by rw [HT.out, dsum_append]; simp [dsum])
      have HG : Hid (dg ((nmb m).take (k + 1)) = dg ((nmb m).take k) ++ [((((nmb m).getD k 0).toNat / 16 : Nat) : Int), ((((nmb m).getD k 0).toNat % 16 : Nat) : Int)]) := Lib.hid (by rw [HT.out, dg_snoc])
      clear HT
      have ha := and15 ((nmb m).getD k 0)
      have hcb := ((nmb m).getD k 0).toNat_lt
      generalize (nmb m).getD k 0 = b at *
      generalize dsum ((nmb m).take k) = s at *
      generalize dg ((nmb m).take k) = d at *
      have hb16 : b.toNat / 16 + b.toNat % 16 ≤ 30 := by omega
      go_wp2_with (at_builtin; go_must (with_reducible refine wpList_app intsE rfl _ _ rfl (w.heap.size + 1) _ _ _ _ rfl (hO.alloc _) _ _ _ _ rfl (Rd.new2 _ _ _ _ _ rfl) ?l1 ?h1 ?b1 ?c1 ?d1 (w.alloc (.cells (nmc m) 23)) ?w1 ?_))
      case l1 => rfl
      case h1 => simp [Value.oneCell']
      case b1 => omega
      case c1 => omega
      case d1 => simp; omega
      case w1 => exact Below.alloc hB hsz _
      intro A1 c1 w1 ho1 hw1 hs1
      go_wp2_with fail
      go_roundw
      case rel => exact ⟨k + 1, A1, c1, by omega, by go_num, by rw [HD.out]; go_num, by go_num, by rw [HG.out, ics_append]; exact ho1, hw1, by omega⟩
      case measure => simp [intOf]; omega
    · obtain rfl : k = 8 := by omega
      have HX : Hid (digs m = dg ((nmb m).take 8) ++ [(((240 - dsum ((nmb m).take 8)) / 16 : Nat) : Int), (((240 - dsum ((nmb m).take 8)) % 16 : Nat) : Int)]) := Lib.hid (by rw [List.take_of_length_le (by omega)]; rfl)
      generalize dsum ((nmb m).take 8) = s at *
      generalize dg ((nmb m).take 8) = d at *
      have ha := and15i (240 - s) (by omega)
      obtain ⟨r, hr⟩ : ∃ r, r = 240 - s := ⟨_, rfl⟩
      rw [← hr] at ha HX ⊢
      have hr2 : r ≤ 240 := by omega
      clear hr
      go_wp2_with (at_builtin; go_must (with_reducible refine wpList_app intsE rfl _ _ rfl (w.heap.size + 1) _ _ _ _ rfl (hO.alloc _) _ _ _ _ rfl (Rd.new2 _ _ _ _ _ rfl) ?l1 ?h1 ?b1 ?c1 ?d1 (w.alloc (.cells (nmc m) 23)) ?w1 ?_))
      case l1 => rfl
      case h1 => simp [Value.oneCell']
      case b1 => omega
      case c1 => omega
      case d1 => simp; omega
      case w1 => exact Below.alloc hB hsz _
      intro A1 c1 w1 ho1 hw1 hs1
      have ho2 : w1.ownsRow (w.heap.size + 1) 3 1 (.slice A1 18 c1) 18 (ics (digs m)) := by rw [HX.out, ics_append]; exact ho1
      obtain ⟨g, rfl, hg, hra⟩ := own_at ho2 (by omega)
      clear ho1 ho2
      go_wp2_with fail
      go_ret
      exact ⟨g, c1, rfl, hra, by omega, ((Ext.refl w).alloc' _).trans (by simpa [Ext] using hw1)⟩
end Go.Proofs.Ytcfmlgbocdjabaa
namespace Go.Proofs.Ytcfmlgbocdjabaa
open Go.RowKit
set_option linter.unusedVariables false
set_option linter.unusedSimpArgs false
attribute [local go_sem ↓] Go.wp_at_zero Go.wp_at_succ

end Go.Proofs.Ytcfmlgbocdjabaa
