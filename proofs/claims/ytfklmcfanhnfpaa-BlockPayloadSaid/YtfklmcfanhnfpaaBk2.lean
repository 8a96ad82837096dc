/- block.open: a cursor behind the kind of a text, or one that has failed. DecodePayload at a text of another kind. -/
import Derived.Test.YtfklmcfanhnfpaaCur2
import Derived.Test.YtfklmcfanhnfpaaAu
namespace Go.Proofs.Ytfklmcfanhnfpaa
open Go.RowKit
set_option linter.unusedVariables false
set_option linter.unusedSimpArgs false
attribute [local go_sem ↓] Go.wp_at_zero Go.wp_at_succ

variable {D : Nat}
/-- what is left of a text behind its kind -/
def openU (l : List UInt8) (kind : Int) : Option (List UInt8) := if kindU l = kind then some (l.drop 1) else none
theorem kindU_pos {l : List UInt8} {kind : Int} (h : kindU l = kind) (hk : 1 ≤ kind) : 0 < l.length := by
  cases l with
  | nil => simp [kindU] at h; omega
  | cons c r => simp
theorem ext_grown {w w1 w2 : World} {B : Nat} (h : Ext w w1) (hg : w1.grownBy w2 (some B)) (hB : w.heap.size ≤ B) : Ext w w2 :=
  Below.grown h hg h.size (fun k hk => by injection hk with hk; omega)
/-- two results: a struct in a variable, and a slot -/
theorem retCV {fn : Func} {p q : Tmp} {ty : TypeId} (hres : fn.results = #[.cell p ty, .tmp q]) (tmps : Array Value) (w1 : World) (g : Nat) (cs : Array Value) (v : Value) (hp : tmps.getD p undef = .pointer (some ⟨g, 0, none⟩)) (hq : tmps.getD q undef = v) (hl : (loadVar ty ⟨g, 0, none⟩).run Try.prog w1 = .ok (.agg cs) w1) :
    (results fn tmps).run Try.prog w1 = .ok (.tuple #[.agg cs, v]) w1 := by
  have hp' : tmps[p]?.getD undef = .pointer (some ⟨g, 0, none⟩) := by simpa using hp
  have hq' : tmps[q]?.getD undef = v := by simpa using hq
  simp [results, hres, hp', hq', asAddr, hl]
def OpenOut (D : Nat) (w : World) (s : Option (List UInt8)) (e : Ending) (w' : World) : Prop := ∃ B, e = .returned (.pointer (some ⟨B, 0, none⟩)) ∧ CurAt 127 D w' B s ∧ w.heap.size ≤ B ∧ Ext w w'
set_option maxHeartbeats 1000000 in
theorem open_no (A : Option Addr) (n c : Nat) (l : List UInt8) (kind : Int) (w : World) (h : SlB w A n c l) (hne : kindU l ≠ kind) :
    Calls Try.prog 53 #[.slice A n c, .int .i64 kind] w (OpenOut D w none) := by
  have HK := Lib.hid (kind_any A n c l w h)
  have d1 : (kindU l == kind) = false := beq_eq_false_iff_ne.2 hne
  have d2 : (kindU l != kind) = true := by simp [bne, d1]
  have d3 : decide (kindU l = kind) = false := decide_eq_false hne
  generalize kindU l = x at *
  have HC := Lib.hid (fun (W : World) => cnew_any (D := D) none 0 0 [] W (SlB.nil W) (by omega) (.inl rfl))
  clear h hne
  go_enter Try.func53, Try.ntmps53
  go_wp2_with fail
  refine HK.out.mono ?_
  rintro e w1 ⟨rfl, rfl⟩
  go_wp2_with fail
  refine (HC.out _).mono ?_
  rintro e w2 ⟨B, rfl, hC, hB, hE⟩
  have HC2 := Lib.hid hC
  have HB := Lib.hid hB
  have HE := Lib.hid hE
  clear hC hB hE
  go_wp2_with fail
  refine (cuint_any 1 (by omega) (by omega) B _ _ HC2.out).mono ?_
  rintro e w3 ⟨rfl, hC3, hg3⟩
  go_wp2_with fail
  go_ret
  exact ⟨B, rfl, hC3, HB.out, ext_grown HE.out hg3 HB.out⟩
set_option maxHeartbeats 1000000 in
theorem open_yes (A : Option Addr) (n c : Nat) (l : List UInt8) (kind : Int) (hk1 : 1 ≤ kind) (w : World) (h : SlB w A n c l) (hn : n ≤ 140737488355328) (hD : LowB D A n) (he : kindU l = kind) :
    Calls Try.prog 53 #[.slice A n c, .int .i64 kind] w (OpenOut D w (some (l.drop 1))) := by
  have HK := Lib.hid (kind_any A n c l w h)
  rw [he] at HK
  have hp := kindU_pos he hk1
  have hlen := h.len
  have hle := h.le
  have hcap := h.cap
  obtain ⟨b, o, rfl, hra, hbl⟩ := h.at (by omega)
  have hD' : LowB D (some ⟨b, o + 1, none⟩) (n - 1) := by
    rcases hD with h0 | ⟨b', o', e, hb'⟩
    · omega
    · injection e with e; injection e with e1 e2; subst e1; exact .inr ⟨_, _, rfl, hb'⟩
  by_cases hc : c = 1
  · subst hc
    obtain rfl : n = 1 := by omega
    have HC := Lib.hid (cnew_any (some ⟨b, o, none⟩) 0 0 [] w (SlB.empty w _ 0 (by omega)) (by omega) (D := D) (.inl rfl))
    have HD := Lib.hid (show l.drop 1 = [] from List.drop_eq_nil_of_le (by omega))
    clear h he hp hlen hra hbl
    go_enter Try.func53, Try.ntmps53
    go_wp2_with fail
    refine HK.out.mono ?_
    rintro e w1 ⟨rfl, rfl⟩
    go_wp2_with fail
    refine HC.out.mono ?_
    rintro e w2 ⟨B, rfl, hC, hB, hE⟩
    go_wp2_with fail
    go_ret
    exact ⟨B, rfl, by rw [HD.out]; exact hC, hB, hE⟩
  · have hs := h.cut (k := 1) (by omega) (by omega)
    have HC := Lib.hid (cnew_any (some ⟨b, o + 1, none⟩) (n - 1) (c - 1) (l.drop 1) w (by simpa [Addr.add_mid] using hs) (by omega) (D := D) hD')
    have n1 : (1 : Int) ≤ (n : Int) := by omega
    have n2 : (n : Int) ≤ (c : Int) := by omega
    clear h he hp hlen hra hbl hs
    go_enter Try.func53, Try.ntmps53
    go_wp2_with fail
    refine HK.out.mono ?_
    rintro e w1 ⟨rfl, rfl⟩
    go_wp2_with fail
    refine HC.out.mono ?_
    rintro e w2 ⟨B, rfl, hC, hB, hE⟩
    go_wp2_with fail
    go_ret
    exact ⟨B, rfl, hC, hB, hE⟩
theorem open_any (A : Option Addr) (n c : Nat) (l : List UInt8) (kind : Int) (hk1 : 1 ≤ kind) (w : World) (h : SlB w A n c l) (hn : n ≤ 140737488355328) (hD : LowB D A n) :
    Calls Try.prog 53 #[.slice A n c, .int .i64 kind] w (OpenOut D w (openU l kind)) := by
  by_cases he : kindU l = kind
  · rw [show openU l kind = some (l.drop 1) from if_pos he]; exact open_yes A n c l kind hk1 w h hn hD he
  · rw [show openU l kind = none from if_neg he]; exact open_no A n c l kind w h he
set_option maxRecDepth 100000 in
set_option maxHeartbeats 1000000 in
/-- a text of another kind is no payload -/
theorem decPayload_other (A : Option Addr) (n c : Nat) (l : List UInt8) (w : World) (h : SlB w A n c l) (hne : kindU l ≠ 2) :
    Calls Try.prog 20 #[.slice A n c] w fun e w' => e = .returned (.tuple #[.agg #[.slice none 0 0], .int .i64 4]) ∧ Ext w w' := by
  have HO := Lib.hid (open_no (D := 0) A n c l 2 _ (h.ext ((Ext.refl w).alloc' (.cells #[.slice none 0 0] 31))) hne)
  have HE0 := Lib.hid ((Ext.refl w).alloc' (.cells #[.slice none 0 0] 31))
  have HB0 := Lib.hid (Blk.new w 31 #[.slice none 0 0])
  clear h hne
  go_enter Try.func20, Try.ntmps20
  go_wp2_with fail
  refine HO.out.mono ?_
  rintro e w1 ⟨B, rfl, hC, hB, hE⟩
  have HC := Lib.hid hC
  have HB := Lib.hid hB
  have HE := Lib.hid hE
  clear hC hB hE
  go_wp2_with fail
  refine (cuint_any 1 (by omega) (by omega) B none _ HC.out).mono ?_
  rintro e w2 ⟨rfl, hC2, hg2⟩
  have hE2 := ext_grown HE.out hg2 HB.out
  have HC2 := Lib.hid (hC2.ext ((Ext.refl w2).alloc' (.cells #[.slice none 0 0] 31)))
  have HE2 := Lib.hid (hE2.alloc' (.cells #[.slice none 0 0] 31))
  clear hC2 hg2 hE2
  rw [show rNum 1 none = 0 from rfl]
  go_wp2_with fail
  go_loopw [17] (fun i wr => i = .int .i64 0 ∧ wr = w2.alloc (.cells #[.slice none 0 0] 31)) (fun i _ => 0)
  case atStart => exact ⟨rfl, rfl⟩
  case round =>
    obtain ⟨rfl, rfl⟩ := hrel
    go_wp2_with fail
    refine (cdone_any B none _ HC2.out).mono ?_
    rintro e w3 ⟨rfl, q, rfl⟩
    have hb0 := HB0.out.ext (HE2.out.trans (drewN_ext _ q))
    have c0 : ((w2.alloc (.cells #[.slice none 0 0] 31)).drewN q).cell? ⟨w.heap.size, 0, none⟩ = some (.slice none 0 0) := hb0.cell 0
    have f0 := hb0.frozen 0
    have hb1 := hb0.set 0 (.slice none 0 0)
    have HE3 := Lib.hid (HE0.out.trans (HE2.out.trans (drewN_ext _ q)))
    go_wp2_with fail
    exact bodyPost_ret (v := .tuple #[.agg #[.slice none 0 0], .int .i64 4]) (retCV rfl _ _ w.heap.size _ _ rfl rfl (run_loadVar_row _ _ _ _ _ (0, 0) _ hb1 Try.underlying31 rfl (by kernel_rfl))) rfl ⟨rfl, HE3.out.setCell (p := ⟨w.heap.size, 0, none⟩) (Nat.le_refl _) _⟩
end Go.Proofs.Ytfklmcfanhnfpaa
