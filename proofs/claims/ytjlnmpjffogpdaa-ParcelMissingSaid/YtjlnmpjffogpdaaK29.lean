/- Bytes of a fixed number out of the cursor (cursor.Fixed). -/
import Derived.Test.YtjlnmpjffogpdaaK26
import Derived.Test.YtjlnmpjffogpdaaK11
import Derived.Test.YtjlnmpjffogpdaaK27
import Derived.Test.YtjlnmpjffogpdaaLay
namespace Go.Proofs.Ytjlnmpjffogpdaa
open Go.RowKit
set_option linter.unusedVariables false
set_option linter.unusedSimpArgs false
attribute [local go_sem ↓] Go.wp_at_zero Go.wp_at_succ

/-- the bytes that are taken -/
def rTkF (k : Nat) (s : Option (List UInt8)) : List UInt8 := match s with
  | none => []
  | some r => if r.length < k then [] else r.take k
variable {D : Nat}
def TkOutF (t : TypeId) (D B k : Nat) (s : Option (List UInt8)) (w : World) (e : Ending) (w' : World) : Prop :=
  ∃ A' m c', e = .returned (.slice A' m c') ∧ SlB w' A' m c' (rTkF k s) ∧ CurAt t D w' B (rRest k s) ∧ w.grownBy w' (some B)
theorem slb_partF {w : World} {b o n c : Nat} {l : List UInt8} {k j : Nat} (h : SlB w (some ⟨b, o, none⟩) n c l) (hj : k + j ≤ n) (h0 : 0 < j) : SlB w (some ⟨b, o + k, none⟩) j j ((l.drop k).take j) := by
  have h1 := (h.cut (k := k) (by omega) (by have := h.le; omega)).upto (k := j) (by omega)
  refine ⟨h1.len, Nat.le_refl _, by have := h1.cap; have := h1.le; omega, ?_⟩
  have h2 := h1.rd
  have e : (some (⟨b, o, none⟩ : Addr)).map (·.add k) = some ⟨b, o + k, none⟩ := by
    by_cases hk : k = 0
    · subst hk; simp [Addr.add]
    · simp [Addr.add, hk]
  rw [e] at h2; exact h2
theorem cur_store2F {t : TypeId} {w : World} {B : Nat} (A : Option Addr) (n c k : Nat) (l : List UInt8) (b b' : Bool) (s : Option (List UInt8)) (hB : Blk w B t #[.slice A n c, .int .i64 ((k : Nat) : Int), .bool b]) (hS : SlB w A n c l) (hk : k ≤ n) (hn : n ≤ 140737488355328) (hb : s.isNone = b') (hr : ∀ r, s = some r → r = l.drop k) (hD : LowB D A n) : CurAt t D (w.setCell ⟨B, 2, none⟩ (.bool b')) B s := by
  refine ⟨A, n, c, l, k, ?_, ?_, hk, hn, hr, hD⟩
  · rw [hb]; exact hB.set 2 _
  · exact slb_kept hS hB (grown_set w B 2 _)
theorem cur_move2F {t : TypeId} {w : World} {B : Nat} (A : Option Addr) (n c k j : Nat) (l : List UInt8) (r : List UInt8) (hB : Blk w B t #[.slice A n c, .int .i64 ((k : Nat) : Int), .bool false]) (hS : SlB w A n c l) (hk : j ≤ n) (hn : n ≤ 140737488355328) (hr : r = l.drop j) (z : Int) (hz : z = (j : Int)) (hD : LowB D A n) : CurAt t D (w.setCell ⟨B, 1, none⟩ (.int .i64 z)) B (some r) := by
  subst hz
  refine ⟨A, n, c, l, j, ?_, ?_, hk, hn, fun r' h => by injection h with h; rw [← h]; exact hr, hD⟩
  · exact hB.set 1 _
  · exact slb_kept hS hB (grown_set w B 1 _)
set_option maxRecDepth 100000 in
set_option maxHeartbeats 4000000 in
theorem cfixed_any (j : Nat) (h1 : 1 ≤ j) (hj : j ≤ 1000) (B : Nat) (s : Option (List UInt8)) (w : World) (h : CurAt 156 D w B s) :
    Calls Try.prog 92 #[.pointer (some ⟨B, 0, none⟩), .int .i64 (j : Int)] w (TkOutF 156 D B j s w) := by
  obtain ⟨A, n, c, l, k, hB, hS, hk, hn, hr, hD⟩ := h
  have hlen := hS.len
  have hle := hS.le
  have hcap := hS.cap
  have hc0 : w.cell? ⟨B, 0, none⟩ = some (.slice A n c) := hB.cell 0
  have hc1 : w.cell? ⟨B, 1, none⟩ = some (.int .i64 (k : Int)) := hB.cell 1
  have hc2 : w.cell? ⟨B, 2, none⟩ = some (.bool s.isNone) := hB.cell 2
  have hf1 := hB.frozen 1
  have hf2 := hB.frozen 2
  have HB := Lib.hid hB
  have HS := Lib.hid hS
  have HR := Lib.hid hr
  have k0 : (0 : Int) ≤ (k : Int) := by omega
  have j0 : ¬ (j : Int) < 0 := by omega
  have wz1 : IntKind.i64.wrap ((n : Int) - (k : Int)) = (n : Int) - (k : Int) := by rw [IntKind.wrap_i64]; omega
  have wz2 : IntKind.i64.wrap ((k : Int) + (j : Int)) = (k : Int) + (j : Int) := by rw [IntKind.wrap_i64]; omega
  clear hB hS hr
  cases s with
  | none =>
    have hc2 : w.cell? ⟨B, 2, none⟩ = some (.bool true) := hc2
    go_enter Try.func92, Try.ntmps92
    go_wp2_with fail
    go_quiet (fail)
    go_wp2_with fail
    go_ret
    exact ⟨none, 0, 0, rfl, SlB.nil _, cur_store2F A n c k l true true none (HB.out.ext (drewN_ext _ _)) (HS.out.ext (drewN_ext _ _)) hk hn rfl (fun _ h => by cases h) hD, World.grownBy.trans (grown_ext (drewN_ext _ _) _) (grown_set _ B 2 _)⟩
  | some r =>
    have hc2 : w.cell? ⟨B, 2, none⟩ = some (.bool false) := hc2
    by_cases hfit : k + j ≤ n
    · have f1 : ¬ (n : Int) - (k : Int) < (j : Int) := by omega
      have HL := Lib.hid (show ¬ r.length < j by rw [HR.out r rfl, List.length_drop, HS.out.len]; omega)
      obtain ⟨b, o, rfl, _, hbl⟩ := HS.out.at (by omega)
      have HC := Lib.hid (fun (W : World) (h : Ext w W) => (⟨(HB.out.ext h).cell 0, (HB.out.ext h).cell 1⟩ : W.cell? ⟨B, 0, none⟩ = some (.slice (some ⟨b, o, none⟩) n c) ∧ W.cell? ⟨B, 1, none⟩ = some (.int .i64 (k : Int))))
      have s1 : (k : Int) ≤ (k : Int) + (j : Int) := by omega
      have s2 : (k : Int) + (j : Int) ≤ (c : Int) := by omega
      go_enter Try.func92, Try.ntmps92
      go_wp2_with fail
      go_quiet (fail)
      have HX1 := Lib.hid (drewN_ext w nq)
      generalize w.drewN nq = W1 at HX1 ⊢
      clear hc0 hc1 hc2 hf1 hf2
      go_wp2_with fail
      refine wp_region_held_drew (S := fun W => Ext W1 W) (by kernel_rfl) ((Ext.refl W1).drew') (fun hHeld => ?_)
      (refine wpAnyH_take (i := 0) (oi := ⟨some 31, .move (.tmp 0), 127, "cursor.go:68", #[], none⟩) (v := ?_) rfl (by kernel_rfl) (by kernel_rfl) (by kernel_rfl) (fun _ _ _ h => h) (Or.inl ⟨by rfl, ?hy0⟩) hHeld ?_; case hy0 => (intro W hSW; go_simp <;> with_reducible rfl))
      try simp only [lays]
      (refine wpAnyH_take (i := 1) (oi := ⟨some 32, .nilCheck (.tmp 31), 0, "cursor.go:68", #[⟨0, .data⟩], none⟩) (v := ?_) rfl (by kernel_rfl) (by kernel_rfl) (by kernel_rfl) (fun _ _ _ h => h) (Or.inl ⟨by rfl, ?hy1⟩) hHeld ?_; case hy1 => (intro W hSW; obtain ⟨e0, e1⟩ := HC.out W (HX1.out.trans hSW); go_simp <;> with_reducible rfl))
      try simp only [lays]
      (refine wpAnyH_take (i := 2) (oi := ⟨some 33, .fieldAddr 156 (.tmp 32) 0, 0, "cursor.go:68", #[⟨1, .data⟩], none⟩) (v := ?_) rfl (by kernel_rfl) (by kernel_rfl) (by kernel_rfl) (fun _ _ _ h => h) (Or.inl ⟨by rfl, ?hy2⟩) hHeld ?_; case hy2 => (intro W hSW; go_simp <;> with_reducible rfl))
      try simp only [lays]
      (refine wpAnyH_take (i := 3) (oi := ⟨some 34, .load 33 (.tmp 33), 33, "cursor.go:68", #[⟨2, .data⟩], none⟩) (v := ?_) rfl (by kernel_rfl) (by kernel_rfl) (by kernel_rfl) (fun _ _ _ h => h) (Or.inl ⟨by rfl, ?hy3⟩) hHeld ?_; case hy3 => (intro W hSW; obtain ⟨e0, e1⟩ := HC.out W (HX1.out.trans hSW); go_simp <;> with_reducible rfl))
      try simp only [lays]
      (refine wpAnyH_take (i := 4) (oi := ⟨some 35, .move (.tmp 0), 127, "cursor.go:68", #[], none⟩) (v := ?_) rfl (by kernel_rfl) (by kernel_rfl) (by kernel_rfl) (fun _ _ _ h => h) (Or.inl ⟨by rfl, ?hy4⟩) hHeld ?_; case hy4 => (intro W hSW; go_simp <;> with_reducible rfl))
      try simp only [lays]
      (refine wpAnyH_take (i := 5) (oi := ⟨some 36, .nilCheck (.tmp 35), 0, "cursor.go:68", #[⟨4, .data⟩], none⟩) (v := ?_) rfl (by kernel_rfl) (by kernel_rfl) (by kernel_rfl) (fun _ _ _ h => h) (Or.inl ⟨by rfl, ?hy5⟩) hHeld ?_; case hy5 => (intro W hSW; obtain ⟨e0, e1⟩ := HC.out W (HX1.out.trans hSW); go_simp <;> with_reducible rfl))
      try simp only [lays]
      (refine wpAnyH_take (i := 6) (oi := ⟨some 37, .fieldAddr 156 (.tmp 36) 1, 0, "cursor.go:68", #[⟨5, .data⟩], none⟩) (v := ?_) rfl (by kernel_rfl) (by kernel_rfl) (by kernel_rfl) (fun _ _ _ h => h) (Or.inl ⟨by rfl, ?hy6⟩) hHeld ?_; case hy6 => (intro W hSW; go_simp <;> with_reducible rfl))
      try simp only [lays]
      (refine wpAnyH_take (i := 7) (oi := ⟨some 38, .load 3 (.tmp 37), 3, "cursor.go:68", #[⟨6, .data⟩], none⟩) (v := ?_) rfl (by kernel_rfl) (by kernel_rfl) (by kernel_rfl) (fun _ _ _ h => h) (Or.inl ⟨by rfl, ?hy7⟩) hHeld ?_; case hy7 => (intro W hSW; obtain ⟨e0, e1⟩ := HC.out W (HX1.out.trans hSW); go_simp <;> with_reducible rfl))
      try simp only [lays]
      (refine wpAnyH_take (i := 8) (oi := ⟨some 39, .move (.tmp 0), 127, "cursor.go:68", #[], none⟩) (v := ?_) rfl (by kernel_rfl) (by kernel_rfl) (by kernel_rfl) (fun _ _ _ h => h) (Or.inl ⟨by rfl, ?hy8⟩) hHeld ?_; case hy8 => (intro W hSW; go_simp <;> with_reducible rfl))
      try simp only [lays]
      (refine wpAnyH_take (i := 9) (oi := ⟨some 40, .nilCheck (.tmp 39), 0, "cursor.go:68", #[⟨8, .data⟩], none⟩) (v := ?_) rfl (by kernel_rfl) (by kernel_rfl) (by kernel_rfl) (fun _ _ _ h => h) (Or.inl ⟨by rfl, ?hy9⟩) hHeld ?_; case hy9 => (intro W hSW; obtain ⟨e0, e1⟩ := HC.out W (HX1.out.trans hSW); go_simp <;> with_reducible rfl))
      try simp only [lays]
      (refine wpAnyH_take (i := 10) (oi := ⟨some 41, .fieldAddr 156 (.tmp 40) 1, 0, "cursor.go:68", #[⟨9, .data⟩], none⟩) (v := ?_) rfl (by kernel_rfl) (by kernel_rfl) (by kernel_rfl) (fun _ _ _ h => h) (Or.inl ⟨by rfl, ?hy10⟩) hHeld ?_; case hy10 => (intro W hSW; go_simp <;> with_reducible rfl))
      try simp only [lays]
      (refine wpAnyH_take (i := 11) (oi := ⟨some 42, .load 3 (.tmp 41), 3, "cursor.go:68", #[⟨10, .data⟩], none⟩) (v := ?_) rfl (by kernel_rfl) (by kernel_rfl) (by kernel_rfl) (fun _ _ _ h => h) (Or.inl ⟨by rfl, ?hy11⟩) hHeld ?_; case hy11 => (intro W hSW; obtain ⟨e0, e1⟩ := HC.out W (HX1.out.trans hSW); go_simp <;> with_reducible rfl))
      try simp only [lays]
      (refine wpAnyH_take (i := 12) (oi := ⟨some 43, .move (.tmp 1), 3, "cursor.go:68", #[], none⟩) (v := ?_) rfl (by kernel_rfl) (by kernel_rfl) (by kernel_rfl) (fun _ _ _ h => h) (Or.inl ⟨by rfl, ?hy12⟩) hHeld ?_; case hy12 => (intro W hSW; go_simp <;> with_reducible rfl))
      try simp only [lays]
      (refine wpAnyH_take (i := 13) (oi := ⟨some 44, .binOp .add 3 (.tmp 42) (.tmp 43) 3, 3, "cursor.go:68", #[⟨11, .data⟩, ⟨12, .data⟩], none⟩) (v := ?_) rfl (by kernel_rfl) (by kernel_rfl) (by kernel_rfl) (fun _ _ _ h => h) (Or.inl ⟨by rfl, ?hy13⟩) hHeld ?_; case hy13 => (intro W hSW; go_simp <;> with_reducible rfl))
      try simp only [lays]
      (refine wpAnyH_take (i := 14) (oi := ⟨some 45, .slice 33 (.tmp 34) (some (.tmp 38)) (some (.tmp 44)) none, 33, "cursor.go:68", #[⟨3, .data⟩, ⟨7, .data⟩, ⟨13, .data⟩], none⟩) (v := ?_) rfl (by kernel_rfl) (by kernel_rfl) (by kernel_rfl) (fun _ _ _ h => h) (Or.inl ⟨by rfl, ?hy14⟩) hHeld ?_; case hy14 => (intro W hSW; obtain ⟨e0, e1⟩ := HC.out W (HX1.out.trans hSW); go_simp <;> with_reducible rfl))
      try simp only [lays]
      refine wpAnyH_ready (rs := [15]) (by kernel_rfl) (by simp) ?_
      refine AllReadyH.cons (o := ⟨some 46, .call { callee := .builtin .append, args := #[.const (.slice none 0 0), .tmp 45], argTypes := #[33, 33] }, 33, "cursor.go:68", #[⟨14, .data⟩], none⟩) rfl (fun K hK => ?_) AllReadyH.nil
      refine step_appB bytesE rfl (.const (.slice none 0 0)) (.tmp 45) rfl W1.heap.size none 0 0 [] rfl (OwnB.nil _ _ _) (some ⟨b, o + k, none⟩) j (c - k) ((l.drop k).take j) ?hx ?hr ?hb (Nat.le_refl _) W1 (Ext.refl W1).drew' ?_
      case hx => (show Value.slice (if c = k then _ else _) _ _ = _; rw [if_neg (by omega)]; congr 1; omega)
      case hr => (have h1' := slb_partF (HS.out.ext (Ext.trans HX1.out (Ext.refl W1).drew')) hfit h1; exact ⟨h1'.len, by omega, by omega, h1'.rd⟩)
      case hb => omega
      intro A1 c1 w1 ho1 hw1 hs1
      refine hK.out _ _ (hw1) (fun hHeld => ?_)
      clear hK K
      try simp only [lays]
      (refine wpAnyH_take (i := 16) (oi := ⟨some 5, .assign (.tmp 46), 33, "cursor.go:68", #[⟨15, .data⟩, ⟨15, .chain⟩, ⟨0, .phase⟩, ⟨1, .phase⟩, ⟨2, .phase⟩, ⟨3, .phase⟩, ⟨4, .phase⟩, ⟨5, .phase⟩, ⟨6, .phase⟩, ⟨7, .phase⟩, ⟨8, .phase⟩, ⟨9, .phase⟩, ⟨10, .phase⟩, ⟨11, .phase⟩, ⟨12, .phase⟩, ⟨13, .phase⟩, ⟨14, .phase⟩, ⟨15, .phase⟩], none⟩) (v := ?_) rfl (by kernel_rfl) (by kernel_rfl) (by kernel_rfl) (fun _ _ _ h => h) (Or.inl ⟨by rfl, ?hy16⟩) hHeld ?_; case hy16 => (intro W hSW; go_simp <;> with_reducible rfl))
      try simp only [lays]
      refine wpAnyH_done (by kernel_rfl) ?_ _
      have HX2 := Lib.hid (Ext.trans HX1.out (Below.mono hw1 (Nat.le_refl _) : Ext W1 w1))
      have HO := Lib.hid ho1.sl
      have hc1 : w1.cell? ⟨B, 1, none⟩ = some (.int .i64 (k : Int)) := (HC.out w1 HX2.out).2
      have hf1 : w1.frozen? ⟨B, 1, none⟩ = false := (HB.out.ext HX2.out).frozen 1
      clear ho1 hw1 hs1
      go_wp2_with fail
      go_ret
      have HN := Lib.hid (show rTkF j (some r) = (l.drop k).take j ∧ rRest j (some r) = some (r.drop j) by
        have := HL.out
        simp only [rTkF, rRest, if_neg this]
        rw [HR.out r rfl]; exact ⟨rfl, trivial⟩)
      have hox : SlB w1 A1 j c1 ((l.drop k).take j) := by have := HO.out; rwa [Nat.zero_add, List.nil_append] at this
      refine ⟨A1, j, c1, by first | rfl | simp, ?_, ?_, World.grownBy.trans (grown_ext HX2.out _) (grown_set _ B 1 _)⟩
      · rw [HN.out.1]
        exact slb_kept hox (HB.out.ext HX2.out) (grown_set _ B 1 _)
      · rw [HN.out.2]
        exact cur_move2F (some ⟨b, o, none⟩) n c k (k + j) l _ (HB.out.ext HX2.out) (HS.out.ext HX2.out) hfit hn (by rw [HR.out r rfl, List.drop_drop]) _ (by omega) hD
    · have f1 : (n : Int) - (k : Int) < (j : Int) := by omega
      go_enter Try.func92, Try.ntmps92
      go_wp2_with fail
      go_quiet (fail)
      go_wp2_with fail
      go_ret
      have HN := Lib.hid (show rTkF j (some r) = [] ∧ rRest j (some r) = none by
        have : r.length < j := by rw [HR.out r rfl, List.length_drop, HS.out.len]; omega
        simp [rTkF, rRest, this])
      refine ⟨none, 0, 0, rfl, ?_, ?_, World.grownBy.trans (grown_ext (drewN_ext _ _) _) (grown_set _ B 2 _)⟩
      · rw [HN.out.1]; exact SlB.nil _
      · rw [HN.out.2]
        exact cur_store2F A n c k l false true none (HB.out.ext (drewN_ext _ _)) (HS.out.ext (drewN_ext _ _)) hk hn rfl (fun _ h => by cases h) hD
end Go.Proofs.Ytjlnmpjffogpdaa

/- The stable sort of signed votes (slices' stableCmpFunc, SortStableFunc). -/
namespace Go.Proofs.Ytjlnmpjffogpdaa
open Go.RowKit
set_option linter.unusedVariables false
set_option linter.unusedSimpArgs false
attribute [local go_sem ↓] Go.wp_at_zero Go.wp_at_succ

set_option maxRecDepth 100000 in
set_option maxHeartbeats 8000000 in
theorem stable_any (w0 w : World) (base : Nat) (A : Option Addr) (n c : Nat) (d : Array SgR) (h : RowV w0 w base A n c d) (hn : n ≤ 1000000000) (hc : c ≤ 9223372036854775807) :
    Calls Try.prog 98 #[.slice A n c, .int .i64 n, .func (.func 68) #[] #[]] w (fun e w' => e = .returned (.tuple #[]) ∧ ∃ d', RowV w0 w' base A n c d' ∧ Sort.PermIn 0 n d d' ∧ Sort.SortedIn ltSg 0 n d') := by
  have HD := Lib.hid h
  have HSZ := Lib.hid (show n ≤ d.size by rw [RowS.size h]; exact Nat.le_refl _)
  have HI0 := Lib.hid (InsA.start (lt := ltSg) n d)
  clear h
  go_enter Try.func98, Try.ntmps98
  go_wp2_with fail
  go_loopw [7, 8] (fun va vb wr => ∃ (a b : Nat) (dk : Array SgR), va = .int .i64 (a : Int) ∧ vb = .int .i64 (b : Int) ∧ Hid (b = a + 20) ∧ a ≤ n ∧ Hid (InsA ltSg a n d dk) ∧ Hid (RowV w0 wr base A n c dk)) (fun a _ _ => n - (intOf a).toNat)
  case atStart => exact ⟨0, 20, d, rfl, rfl, Lib.hid rfl, Nat.zero_le _, HI0, HD⟩
  case round =>
    clear HD HI0
    obtain ⟨a, b, dk, rfl, rfl, HAB, han, HI, HD⟩ := hrel
    have bl : a ≤ b ∧ b ≤ n + 20 := by have := HAB.out; omega
    by_cases hlt : b ≤ n
    · have i1 : (b : Int) ≤ (n : Int) := by omega
      have HC := Lib.hid (insSort_any w0 wr base A n c dk HD.out a b (by omega) hlt hn hc)
      go_wp2_with fail
      refine HC.out.mono ?_
      rintro e w2 ⟨rfl, d2, h2, p2, s2⟩
      have HD2 := Lib.hid h2
      have HI2 := Lib.hid (show InsA ltSg b n d d2 from by rw [HAB.out] at p2 s2 ⊢; exact HI.out.step (by have := HAB.out; omega) HSZ.out p2 s2)
      clear h2 p2 s2 HC HD HI
      go_wp2_with fail
      go_roundw
      case rel => exact ⟨b, b + 20, d2, rfl, by go_num, Lib.hid rfl, hlt, HI2, HD2⟩
      case measure => simp [intOf]; have := HAB.out; omega
    · have i1 : ¬ (b : Int) ≤ (n : Int) := by omega
      have HC := Lib.hid (insSort_any w0 wr base A n c dk HD.out a n han (Nat.le_refl _) hn hc)
      go_wp2_with fail
      refine HC.out.mono ?_
      rintro e w2 ⟨rfl, d2, h2, p2, s2⟩
      have HD2 := Lib.hid h2
      have HR2 := Lib.hid (HI.out.last han (by have := HAB.out; omega) HSZ.out p2 s2)
      clear h2 p2 s2 HC HD HI i1
      go_wp2_with fail
      go_loopw [6] (fun vs wr => ∃ (s : Nat) (dk : Array SgR), vs = .int .i64 (s : Int) ∧ 0 < s ∧ s ≤ 2 * n + 20 ∧ Hid (Runs ltSg s n d dk) ∧ Hid (RowV w0 wr base A n c dk)) (fun s _ => n - (intOf s).toNat)
      case atStart => exact ⟨20, d2, rfl, by omega, by omega, HR2, HD2⟩
      case round =>
        clear HD2 HR2
        obtain ⟨s, dk, rfl, hs, hsl, HR, HD⟩ := hrel
        by_cases hsn : s < n
        · have i1 : (s : Int) < (n : Int) := by omega
          obtain ⟨s2, hs2⟩ : ∃ s2, s2 = 2 * s := ⟨_, rfl⟩
          have m1 : (2 : Int) * (s : Int) = (s2 : Int) := by omega
          have m2 : (s : Int) * (2 : Int) = (s2 : Int) := by omega
          have hs2l : s2 ≤ 2 * n := by omega
          have HS2 := Lib.hid hs2
          clear hs2
          have HM0 := Lib.hid (MerA.start HR.out)
          clear HR
          go_wp2_with fail
          go_loopw [7, 8] (fun va vb wr => ∃ (a b : Nat) (dk : Array SgR), va = .int .i64 (a : Int) ∧ vb = .int .i64 (b : Int) ∧ Hid (b = a + s2) ∧ a ≤ n ∧ Hid (MerA ltSg s a n d dk) ∧ Hid (RowV w0 wr base A n c dk)) (fun a _ _ => n - (intOf a).toNat)
          case atStart => exact ⟨0, s2, dk, rfl, rfl, Lib.hid (Nat.zero_add _).symm, Nat.zero_le _, HM0, HD⟩
          case round =>
            clear HD HM0
            obtain ⟨a, b, dk, rfl, rfl, HAB, han, HM, HD⟩ := hrel
            obtain ⟨m, hm⟩ : ∃ m, m = a + s := ⟨_, rfl⟩
            have m0 : (a : Int) + (s : Int) = (m : Int) := by omega
            have HMM := Lib.hid hm
            have bl : a ≤ b ∧ b ≤ 3 * n ∧ m ≤ b := by have := HAB.out; have := HS2.out; omega
            have ml : a < m := by omega
            have mb : m < b := by have := HAB.out; have := HS2.out; omega
            clear hm
            by_cases hlt : b ≤ n
            · have i2 : (b : Int) ≤ (n : Int) := by omega
              have HC := Lib.hid (symMerge_any (b - a) w0 wr base A n c dk HD.out a m b (Nat.le_refl _) ml mb hlt hn hc (by rw [HMM.out]; exact HM.out.left (by have := HMM.out; omega)) (by have := HM.out.right; rw [← HMM.out, ← HS2.out, ← HAB.out, Nat.min_eq_left hlt] at this; exact this))
              go_wp2_with fail
              refine HC.out.mono ?_
              rintro e w2 ⟨rfl, d2, h2, p2, q2⟩
              have HD2 := Lib.hid h2
              have HM2 := Lib.hid (show MerA ltSg s b n d d2 from by
                have hb2 : b = a + 2 * s := by have := HAB.out; have := HS2.out; omega
                rw [hb2] at p2 q2 ⊢; exact HM.out.step (by omega) HSZ.out p2 q2)
              clear h2 p2 q2 HC HD HM
              go_wp2_with fail
              go_roundw
              case rel => exact ⟨b, b + s2, d2, rfl, by go_num, Lib.hid rfl, hlt, HM2, HD2⟩
              case measure => simp [intOf]; omega
            · have i2 : ¬ (b : Int) ≤ (n : Int) := by omega
              by_cases hmn : m < n
              · have i3 : (m : Int) < (n : Int) := by omega
                have HC := Lib.hid (symMerge_any (n - a) w0 wr base A n c dk HD.out a m n (Nat.le_refl _) ml hmn (Nat.le_refl _) hn hc (by rw [HMM.out]; exact HM.out.left (by have := HMM.out; omega)) (by have := HM.out.right; rw [← HMM.out, Nat.min_eq_right (by have := HAB.out; have := HS2.out; omega)] at this; exact this))
                go_wp2_with fail
                refine HC.out.mono ?_
                rintro e w2 ⟨rfl, d2, h2, p2, q2⟩
                have HD2 := Lib.hid h2
                have HR2 := Lib.hid (show Runs ltSg s2 n d d2 from by rw [HS2.out]; exact HM.out.last han (by have := HAB.out; have := HS2.out; omega) HSZ.out p2 q2)
                clear h2 p2 q2 HC HD HM
                go_wp2_with fail
                go_roundw
                case rel => exact ⟨s2, d2, by go_num, by have := HS2.out; omega, by omega, HR2, HD2⟩
                case measure => simp [intOf]; have := HS2.out; omega
              · have i3 : ¬ (m : Int) < (n : Int) := by omega
                have HR2 := Lib.hid (show Runs ltSg s2 n d dk from by rw [HS2.out]; exact HM.out.rest (by have := HMM.out; omega) han HSZ.out)
                clear HM
                go_wp2_with fail
                go_roundw
                case rel => exact ⟨s2, dk, by go_num, by have := HS2.out; omega, by omega, HR2, HD⟩
                case measure => simp [intOf]; have := HS2.out; omega
        · have i1 : ¬ (s : Int) < (n : Int) := by omega
          go_wp2_with fail
          go_end0
          exact ⟨rfl, dk, HD.out, HR.out.perm, HR.out.whole (by omega)⟩
theorem sortStable_any (w0 w : World) (base : Nat) (A : Option Addr) (n c : Nat) (d : Array SgR) (h : RowV w0 w base A n c d) (hn : n ≤ 1000000000) (hc : c ≤ 9223372036854775807) :
    Calls Try.prog 67 #[.slice A n c, .func (.func 68) #[] #[]] w (fun e w' => e = .returned (.tuple #[]) ∧ ∃ d', RowV w0 w' base A n c d' ∧ Sort.PermIn 0 n d d' ∧ Sort.SortedIn ltSg 0 n d') := by
  have HC := Lib.hid (stable_any w0 w base A n c d h hn hc)
  clear h
  go_enter Try.func67, Try.ntmps67
  go_wp2_with fail
  refine HC.out.mono ?_
  rintro e w2 ⟨rfl, h2⟩
  go_wp2_with fail
  go_end0
  exact ⟨rfl, h2⟩
end Go.Proofs.Ytjlnmpjffogpdaa
