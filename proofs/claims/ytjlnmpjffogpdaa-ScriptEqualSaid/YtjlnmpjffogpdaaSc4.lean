/- DecodeConfig (the program's). -/
import Derived.Test.YtjlnmpjffogpdaaSc3
import Derived.Test.YtjlnmpjffogpdaaTd1
import Derived.Test.YtjlnmpjffogpdaaTx15
namespace Go.Proofs.Ytjlnmpjffogpdaa
open Go.RowKit
set_option linter.unusedVariables false
set_option linter.unusedSimpArgs false
attribute [local go_sem ↓] Go.wp_at_zero Go.wp_at_succ

/-- the configuration that is read, and what is left -/
def cfOf (s0 : Option (List UInt8)) : Cf :=
  ⟨rI 1 s0, rI 1 (rRest 1 s0), rI 1 (rRest 1 (rRest 1 s0)), rI 8 (rRest 1 (rRest 1 (rRest 1 s0))), rI 8 (rRest 8 (rRest 1 (rRest 1 (rRest 1 s0)))), rI 2 (rRest 8 (rRest 8 (rRest 1 (rRest 1 (rRest 1 s0))))), rI 2 (rRest 2 (rRest 8 (rRest 8 (rRest 1 (rRest 1 (rRest 1 s0)))))), rName (rRest 2 (rRest 2 (rRest 8 (rRest 8 (rRest 1 (rRest 1 (rRest 1 s0)))))))⟩
def cfEnd (s0 : Option (List UInt8)) : Option (List UInt8) := rRest 8 (rRest 2 (rRest 2 (rRest 8 (rRest 8 (rRest 1 (rRest 1 (rRest 1 s0)))))))
def decCf (l : List UInt8) : Option Cf := if l.length = 31 ∧ eCf (cfOf (some l)) = true then some (cfOf (some l)) else none
theorem rRest_drop (k j : Nat) (l : List UInt8) : rRest k (if j ≤ l.length then some (l.drop j) else none) = if j + k ≤ l.length then some (l.drop (j + k)) else none := by
  by_cases h : j ≤ l.length
  · rw [if_pos h]
    simp only [rRest, List.length_drop, List.drop_drop]
    by_cases h2 : j + k ≤ l.length
    · rw [if_neg (by omega), if_pos h2]
    · rw [if_pos (by omega), if_neg h2]
  · rw [if_neg h, if_neg (by omega)]; rfl
theorem cfEnd_eq (l : List UInt8) : cfEnd (some l) = if 31 ≤ l.length then some (l.drop 31) else none := by
  have h0 : (some l : Option (List UInt8)) = if 0 ≤ l.length then some (l.drop 0) else none := by rw [if_pos (Nat.zero_le _)]; rfl
  unfold cfEnd
  rw [h0, rRest_drop, rRest_drop, rRest_drop, rRest_drop, rRest_drop, rRest_drop, rRest_drop, rRest_drop]
theorem cfEnd_nil (l : List UInt8) : cfEnd (some l) = some [] ↔ l.length = 31 := by
  rw [cfEnd_eq]
  by_cases h : 31 ≤ l.length
  · rw [if_pos h]
    constructor
    · intro e
      injection e with e
      have := congrArg List.length e
      rw [List.length_drop, List.length_nil] at this
      omega
    · intro e
      rw [List.drop_of_length_le (by omega)]
  · rw [if_neg h]
    constructor
    · intro e; cases e
    · intro e; omega
theorem beI_wrap (k : Nat) (z : Int) : beI k (IntKind.i64.wrap z) = beI k z := by
  unfold beI
  have e : IntKind.i64.wrap z % 18446744073709551616 = z % 18446744073709551616 := by rw [IntKind.wrap_i64]; omega
  rw [e]
theorem rI_one (s : Option (List UInt8)) : rI 1 s = rNum 1 s := by
  have b := rNum_bd 1 s
  have b2 : rNum 1 s < 256 := by have := b.2; simpa using this
  unfold rI
  rw [IntKind.wrap_i64]
  omega
/-- it is encoded as it was read -/
theorem encCf_of (l : List UInt8) (h : l.length = 31) : encCf (cfOf (some l)) = l := by
  have h8 := (cfEnd_nil l).2 h
  unfold cfEnd at h8
  have a8 := nm_back h8
  have a7 := be_back (by omega) a8
  have a6 := be_back (by omega) a7
  have a5 := be_back (by omega) a6
  have a4 := be_back (by omega) a5
  have a3 := one_back a4
  have a2 := one_back a3
  have a1 := one_back a2
  injection a1 with a1
  unfold encCf cfOf
  simp only [rI_one]
  unfold rI
  simp only [beI_wrap]
  conv => rhs; rw [a1]
  simp [List.append_assoc]
variable {D : Nat}

abbrev zero15 : Array Value := #[.int .i64 0, .int .i64 0, .int .i64 0, .int .i64 0, .int .i64 0, .int .i64 0, .int .i64 0, .int .u8 0, .int .u8 0, .int .u8 0, .int .u8 0, .int .u8 0, .int .u8 0, .int .u8 0, .int .u8 0]
abbrev cfZ (m v a st ba tw li : Int) : Array Value := #[.int .i64 m, .int .i64 v, .int .i64 a, .int .i64 st, .int .i64 ba, .int .i64 tw, .int .i64 li, .int .u8 0, .int .u8 0, .int .u8 0, .int .u8 0, .int .u8 0, .int .u8 0, .int .u8 0, .int .u8 0]
theorem cfZ_eq (m v a st ba tw li : Int) : cfZ m v a st ba tw li = cfA ⟨m, v, a, st, ba, tw, li, 0⟩ := by
  unfold cfA; simp only [nb8_nil 0 (by omega), nb8_nil 1 (by omega), nb8_nil 2 (by omega), nb8_nil 3 (by omega), nb8_nil 4 (by omega), nb8_nil 5 (by omega), nb8_nil 6 (by omega), nb8_nil 7 (by omega)]
theorem cfA_all (c : Cf) : (cfA c).all (·.oneCell') = true := by simp [cfA, Value.oneCell']
theorem cfZ_all (m v a st ba tw li : Int) : (cfZ m v a st ba tw li).all (·.oneCell') = true := by simp [cfZ, Value.oneCell']
theorem cf_splice (m v a st ba tw li : Int) (n : UInt64) : splice (cfZ m v a st ba tw li).toList 7 (bcs (nmb n)) = (cfA ⟨m, v, a, st, ba, tw, li, n⟩).toList := by
  have e : bcs (nmb n) = (nmc n).toList := by unfold nmc; rfl
  rw [e, ← nmc_nb8 n]
  simp [splice]
theorem cell_add {w : World} {b o j : Nat} {v : Value} (h : w.cell? ⟨b, o + j, none⟩ = some v) : w.cell? (Addr.add ⟨b, o, none⟩ j) = some v := by
  by_cases hj : j = 0
  · subst hj; simpa [Addr.add] using h
  · simpa [Addr.add, hj] using h
/-- what DecodeConfig returns -/
def CfdOut (w : World) (r : Option Cf) (e : Ending) (w' : World) : Prop :=
  Ext w w' ∧ ((r = none ∧ e = .returned (.tuple #[.agg zero15, .int .i64 4])) ∨ ∃ c, r = some c ∧ e = .returned (.tuple #[.agg (cfA c), .int .i64 0]))
theorem rName_tk {s : Option (List UInt8)} (h : (rTk 8 s).length = 8) : nmb (rName s) = rTk 8 s := by
  cases s with
  | none => simp [rTk] at h
  | some r =>
    by_cases hl : r.length < 8
    · simp [rTk, hl] at h
    · simp only [rTk, if_neg hl] at h ⊢
      simp only [rName, if_neg hl]
      exact nmb_ofNm _ h
/-- the state of DecodeConfig: the reader in B, the result's variable ahead of it -/
structure CdS (t R : TypeId) (w0 w : World) (B : Nat) (s : Option (List UInt8)) : Prop where
  cur : CurAt R w0.heap.size w B s
  res : Blk w w0.heap.size t zero15
  low : Ext w0 w
  hB : w0.heap.size < B
theorem CdS.read {t R : TypeId} {w0 w w' : World} {B : Nat} {s s' : Option (List UInt8)} (h : CdS t R w0 w B s) (hc : CurAt R w0.heap.size w' B s') (hg : w.grownBy w' (some B)) : CdS t R w0 w' B s' :=
  ⟨hc, h.res.grown hg (fun e => by injection e with e; have := h.hB; omega), ext_grown h.low hg (Nat.le_of_lt h.hB), h.hB⟩
theorem CdS.ext {t R : TypeId} {w0 w w' : World} {B : Nat} {s : Option (List UInt8)} (h : CdS t R w0 w B s) (he : Ext w w') : CdS t R w0 w' B s :=
  ⟨h.cur.ext he, h.res.ext he, h.low.trans he, h.hB⟩
theorem CdS.start (t R : TypeId) (A : Option Addr) (n c : Nat) (l : List UInt8) (w : World) (h : SlB w A n c l) (hn : n ≤ 140737488355328) : CdS t R w ((w.alloc (.cells zero15 t)).alloc (.cells #[.slice A n c, .int .i64 0, .bool false] R)) (w.heap.size + 1) (some l) := by
  have hD : LowB w.heap.size A n := by
    rcases Nat.eq_zero_or_pos n with h0 | h0
    · exact .inl h0
    · obtain ⟨b, o, e, _, hb⟩ := h.at h0
      exact .inr ⟨b, o, e, hb⟩
  have E2 := ((Ext.refl w).alloc' (.cells zero15 t)).alloc' (.cells #[.slice A n c, .int .i64 0, .bool false] R)
  exact ⟨⟨A, n, c, l, 0, Blk.newAt _ _ _ _ (by simp), h.ext E2, Nat.zero_le _, hn, (fun r h => by injection h with h; rw [← h]; rfl), hD⟩, (Blk.new w t zero15).alloc _, E2, Nat.lt_succ_self _⟩
theorem rd1 (B : Nat) (s : Option (List UInt8)) (w : World) (h : CurAt 91 D w B s) : Calls Try.prog 55 #[.pointer (some ⟨B, 0, none⟩), .int .i64 1] w fun e w' => e = .returned (.int .i64 (rI 1 s)) ∧ CurAt 91 D w' B (rRest 1 s) ∧ w.grownBy w' (some B) := rdNumber_any 1 (by omega) (by omega) B s w h
theorem rd2 (B : Nat) (s : Option (List UInt8)) (w : World) (h : CurAt 91 D w B s) : Calls Try.prog 55 #[.pointer (some ⟨B, 0, none⟩), .int .i64 2] w fun e w' => e = .returned (.int .i64 (rI 2 s)) ∧ CurAt 91 D w' B (rRest 2 s) ∧ w.grownBy w' (some B) := rdNumber_any 2 (by omega) (by omega) B s w h
theorem rd8 (B : Nat) (s : Option (List UInt8)) (w : World) (h : CurAt 91 D w B s) : Calls Try.prog 55 #[.pointer (some ⟨B, 0, none⟩), .int .i64 8] w fun e w' => e = .returned (.int .i64 (rI 8 s)) ∧ CurAt 91 D w' B (rRest 8 s) ∧ w.grownBy w' (some B) := rdNumber_any 8 (by omega) (by omega) B s w h
theorem tk8 (B : Nat) (s : Option (List UInt8)) (w : World) (h : CurAt 91 D w B s) : Calls Try.prog 54 #[.pointer (some ⟨B, 0, none⟩), .int .i64 8] w (TkOut 91 D B 8 s w) := take_any 8 (by omega) (by omega) B s w h
section
variable {o : Oper} {a : Act} {w : World} {ops : Array Oper} {rest : List Oper} {Q : Exit → Act → World → Prop}
theorem wpList_storeCf (hgd : o.guard = none) (x y : Operand) (ho : o.op = .store 64 x y) (g : Nat) (cs : Array Value) (hx : a.eval x = .pointer (some ⟨g, 0, none⟩)) (hy : a.eval y = .agg cs) (ht : w.there g 0 15) (hs : cs.size = 15) (h1 : cs.all (·.oneCell') = true)
    (h : wpList Try.prog ops Q rest (a.put o.dst undef) (w.setCells g 0 cs.toList)) : wpList Try.prog ops Q (o :: rest) a w :=
  wpList_store_mid hgd 64 x y ho g 0 cs hx hy (by rw [hs]; exact ht) (by rw [hs]; kernel_rfl) h1 h
theorem wpList_newCf (hgd : o.guard = none) (x y : Operand) (ho : o.op = .store 64 x y) (cs : Array Value) (hcs : cs.size = 15) (ds : Array Value) (hds : ds.size = 15) (h1 : ds.all (·.oneCell') = true) (hx : a.eval x = .pointer (some ⟨w.heap.size, 0, none⟩)) (hy : a.eval y = .agg ds)
    (h : wpList Try.prog ops Q rest (a.put o.dst undef) (w.alloc (.cells ds 64))) : wpList Try.prog ops Q (o :: rest) a (w.alloc (.cells cs 64)) := by
  have ht := there_of_blk (Blk.new w 64 cs)
  rw [hcs] at ht
  refine wpList_store_mid hgd 64 x y ho w.heap.size 0 ds hx hy (by rw [hds]; exact ht) (by rw [hds]; kernel_rfl) h1 ?_
  rw [setCells_whole w 64 cs ds (by rw [hcs, hds])]
  exact h
end
set_option maxRecDepth 100000 in
set_option maxHeartbeats 4000000 in
theorem scriptDecCfg_any (A : Option Addr) (n c : Nat) (l : List UInt8) (w : World) (h : SlB w A n c l) : Calls Try.prog 53 #[.slice A n c] w (CfdOut w (decCf l)) := by
  have hlen := h.len
  have HR0 := Lib.hid (Blk.new w 64 zero15)
  have HE0 := Lib.hid ((Ext.refl w).alloc' (.cells zero15 64))
  by_cases h31 : n = 31
  · subst h31
    have HS0 := Lib.hid (CdS.start 64 91 A 31 c l w h (by omega))
    have HSL := Lib.hid (fun (W : World) (hw : Ext w W) => h.ext hw)
    have henc := encCf_of l hlen
    have hend := (cfEnd_nil l).2 hlen
    have hdc : decCf l = if eCf (cfOf (some l)) = true then some (cfOf (some l)) else none := by
      unfold decCf
      by_cases he : eCf (cfOf (some l)) = true
      · rw [if_pos ⟨hlen, he⟩, if_pos he]
      · rw [if_neg (fun hh => he hh.2), if_neg he]
    obtain ⟨out, hout⟩ : ∃ out, decCf l = out := ⟨_, rfl⟩
    rw [hout] at hdc ⊢
    unfold cfEnd at hend
    obtain ⟨s0, hs0⟩ : ∃ s0, some l = s0 := ⟨_, rfl⟩
    have hC : cfOf s0 = cfOf s0 := rfl
    conv at hC => rhs; unfold cfOf
    rw [hs0] at HS0 henc hend hdc
    obtain ⟨s1, hs1⟩ : ∃ x, rRest 1 s0 = x := ⟨_, rfl⟩
    obtain ⟨m, hm⟩ : ∃ x, rI 1 s0 = x := ⟨_, rfl⟩
    rw [hs1, hm] at hC; rw [hs1] at hend
    obtain ⟨s2, hs2⟩ : ∃ x, rRest 1 s1 = x := ⟨_, rfl⟩
    obtain ⟨v, hv⟩ : ∃ x, rI 1 s1 = x := ⟨_, rfl⟩
    rw [hs2, hv] at hC; rw [hs2] at hend
    obtain ⟨s3, hs3⟩ : ∃ x, rRest 1 s2 = x := ⟨_, rfl⟩
    obtain ⟨a, ha⟩ : ∃ x, rI 1 s2 = x := ⟨_, rfl⟩
    rw [hs3, ha] at hC; rw [hs3] at hend
    obtain ⟨s4, hs4⟩ : ∃ x, rRest 8 s3 = x := ⟨_, rfl⟩
    obtain ⟨st, hst⟩ : ∃ x, rI 8 s3 = x := ⟨_, rfl⟩
    rw [hs4, hst] at hC; rw [hs4] at hend
    obtain ⟨s5, hs5⟩ : ∃ x, rRest 8 s4 = x := ⟨_, rfl⟩
    obtain ⟨ba, hba⟩ : ∃ x, rI 8 s4 = x := ⟨_, rfl⟩
    rw [hs5, hba] at hC; rw [hs5] at hend
    obtain ⟨s6, hs6⟩ : ∃ x, rRest 2 s5 = x := ⟨_, rfl⟩
    obtain ⟨tw, htw⟩ : ∃ x, rI 2 s5 = x := ⟨_, rfl⟩
    rw [hs6, htw] at hC; rw [hs6] at hend
    obtain ⟨s7, hs7⟩ : ∃ x, rRest 2 s6 = x := ⟨_, rfl⟩
    obtain ⟨li, hli⟩ : ∃ x, rI 2 s6 = x := ⟨_, rfl⟩
    rw [hs7, hli] at hC; rw [hs7] at hend
    have htk : (rTk 8 s7).length = 8 := by
      rcases rTk_cases 8 s7 with ⟨_, _, h3⟩ | ⟨h3, _⟩
      · rw [h3] at hend; cases hend
      · exact h3
    have hnm := rName_tk htk
    obtain ⟨sd, hsd⟩ : ∃ x, rName s7 = x := ⟨_, rfl⟩
    rw [hsd] at hC hnm
    rw [hC] at henc hdc
    have HRD1 := Lib.hid (fun (W : World) (hw : CurAt 91 w.heap.size W (w.heap.size + 1) s0) => show Calls Try.prog 55 #[.pointer (some ⟨w.heap.size + 1, 0, none⟩), .int .i64 1] W (fun e w' => e = .returned (.int .i64 m) ∧ CurAt 91 w.heap.size w' (w.heap.size + 1) s1 ∧ W.grownBy w' (some (w.heap.size + 1))) from by rw [← hm, ← hs1]; exact rd1 _ s0 W hw)
    have HRD2 := Lib.hid (fun (W : World) (hw : CurAt 91 w.heap.size W (w.heap.size + 1) s1) => show Calls Try.prog 55 #[.pointer (some ⟨w.heap.size + 1, 0, none⟩), .int .i64 1] W (fun e w' => e = .returned (.int .i64 v) ∧ CurAt 91 w.heap.size w' (w.heap.size + 1) s2 ∧ W.grownBy w' (some (w.heap.size + 1))) from by rw [← hv, ← hs2]; exact rd1 _ s1 W hw)
    have HRD3 := Lib.hid (fun (W : World) (hw : CurAt 91 w.heap.size W (w.heap.size + 1) s2) => show Calls Try.prog 55 #[.pointer (some ⟨w.heap.size + 1, 0, none⟩), .int .i64 1] W (fun e w' => e = .returned (.int .i64 a) ∧ CurAt 91 w.heap.size w' (w.heap.size + 1) s3 ∧ W.grownBy w' (some (w.heap.size + 1))) from by rw [← ha, ← hs3]; exact rd1 _ s2 W hw)
    have HRD4 := Lib.hid (fun (W : World) (hw : CurAt 91 w.heap.size W (w.heap.size + 1) s3) => show Calls Try.prog 55 #[.pointer (some ⟨w.heap.size + 1, 0, none⟩), .int .i64 8] W (fun e w' => e = .returned (.int .i64 st) ∧ CurAt 91 w.heap.size w' (w.heap.size + 1) s4 ∧ W.grownBy w' (some (w.heap.size + 1))) from by rw [← hst, ← hs4]; exact rd8 _ s3 W hw)
    have HRD5 := Lib.hid (fun (W : World) (hw : CurAt 91 w.heap.size W (w.heap.size + 1) s4) => show Calls Try.prog 55 #[.pointer (some ⟨w.heap.size + 1, 0, none⟩), .int .i64 8] W (fun e w' => e = .returned (.int .i64 ba) ∧ CurAt 91 w.heap.size w' (w.heap.size + 1) s5 ∧ W.grownBy w' (some (w.heap.size + 1))) from by rw [← hba, ← hs5]; exact rd8 _ s4 W hw)
    have HRD6 := Lib.hid (fun (W : World) (hw : CurAt 91 w.heap.size W (w.heap.size + 1) s5) => show Calls Try.prog 55 #[.pointer (some ⟨w.heap.size + 1, 0, none⟩), .int .i64 2] W (fun e w' => e = .returned (.int .i64 tw) ∧ CurAt 91 w.heap.size w' (w.heap.size + 1) s6 ∧ W.grownBy w' (some (w.heap.size + 1))) from by rw [← htw, ← hs6]; exact rd2 _ s5 W hw)
    have HRD7 := Lib.hid (fun (W : World) (hw : CurAt 91 w.heap.size W (w.heap.size + 1) s6) => show Calls Try.prog 55 #[.pointer (some ⟨w.heap.size + 1, 0, none⟩), .int .i64 2] W (fun e w' => e = .returned (.int .i64 li) ∧ CurAt 91 w.heap.size w' (w.heap.size + 1) s7 ∧ W.grownBy w' (some (w.heap.size + 1))) from by rw [← hli, ← hs7]; exact rd2 _ s6 W hw)
    have HNM := Lib.hid hnm
    have HTL := Lib.hid htk
    have HENC := Lib.hid henc
    have HDC := Lib.hid hdc
    clear hs0 hs1 hs2 hs3 hs4 hs5 hs6 hs7 hm hv ha hst hba htw hli hsd hC hend htk hnm henc hdc hout h HR0
    go_enter Try.func53, Try.ntmps53
    go_wp2_with fail
    refine (HRD1.out _ HS0.out.cur).mono ?_
    rintro e w1 ⟨rfl, hc1, hg1⟩
    have HS1 := Lib.hid (HS0.out.read hc1 hg1)
    clear hc1 hg1 HRD1
    go_wp2_with fail
    refine (HRD2.out _ HS1.out.cur).mono ?_
    rintro e w2 ⟨rfl, hc2, hg2⟩
    have HS2 := Lib.hid (HS1.out.read hc2 hg2)
    clear hc2 hg2 HRD2
    go_wp2_with fail
    refine (HRD3.out _ HS2.out.cur).mono ?_
    rintro e w3 ⟨rfl, hc3, hg3⟩
    have HS3 := Lib.hid (HS2.out.read hc3 hg3)
    clear hc3 hg3 HRD3
    go_wp2_with fail
    refine (HRD4.out _ HS3.out.cur).mono ?_
    rintro e w4 ⟨rfl, hc4, hg4⟩
    have HS4 := Lib.hid (HS3.out.read hc4 hg4)
    clear hc4 hg4 HRD4
    go_wp2_with fail
    refine (HRD5.out _ HS4.out.cur).mono ?_
    rintro e w5 ⟨rfl, hc5, hg5⟩
    have HS5 := Lib.hid (HS4.out.read hc5 hg5)
    clear hc5 hg5 HRD5
    go_wp2_with fail
    refine (HRD6.out _ HS5.out.cur).mono ?_
    rintro e w6 ⟨rfl, hc6, hg6⟩
    have HS6 := Lib.hid (HS5.out.read hc6 hg6)
    clear hc6 hg6 HRD6
    go_wp2_with fail
    refine (HRD7.out _ HS6.out.cur).mono ?_
    rintro e w7 ⟨rfl, hc7, hg7⟩
    have HS7 := Lib.hid (HS6.out.read hc7 hg7)
    clear hc7 hg7 HRD7
    clear HS0 HS1 HS2 HS3 HS4 HS5 HS6
    go_wp2_with (first | (with_reducible refine wpList_newCf rfl (.tmp 5) (.tmp 29) rfl _ rfl (cfZ m v a st ba tw li) rfl (cfZ_all _ _ _ _ _ _ _) rfl rfl ?_))
    have HX8 := Lib.hid (HS7.out.ext ((Ext.refl w7).alloc' (.cells (cfZ m v a st ba tw li) 64)))
    have HBX := Lib.hid (Blk.new w7 64 (cfZ m v a st ba tw li))
    have hX := (Ext.refl (w7.alloc (.cells (cfZ m v a st ba tw li) 64))).drew'
    obtain ⟨X, hXe⟩ : ∃ X, w7.heap.size = X := ⟨_, rfl⟩
    rw [hXe] at HBX ⊢
    have hX0 : w.heap.size + 1 < X := by rw [← hXe]; exact HS7.out.cur.lt
    generalize w7.alloc (.cells (cfZ m v a st ba tw li) 64) = W8 at *
    have HXX := Lib.hid hX0
    clear hXe hX0
    have hfz := fun (k : Nat) => HBX.out.frozen k
    have HSZ := Lib.hid (show X < W8.heap.size from HBX.out.lt)
    go_region_law (first | (go_simp; go_at_call 54; refine (tk8 (w.heap.size + 1) s7 _ (HX8.out.cur.ext hX)).mono ?_; rintro e w9 ⟨A9, m9, c9, rfl, hs9, hc9, hg9⟩; obtain rfl : m9 = 8 := (by rw [← hs9.len]; exact HTL.out); obtain ⟨b9, o9, rfl, hr9, _⟩ := hs9.at (by omega); have HX9 := Lib.hid ((HX8.out.ext hX).read hc9 hg9); have HB9 := Lib.hid ((HBX.out.ext hX).grown hg9 (fun e => by injection e with e; have := HXX.out; omega)); have HR9 := Lib.hid hr9; clear hs9 hc9 hg9 hr9) | (refine step_copy_splice rfl (.tmp 31) (.tmp 33) _ _ rfl 5 Try.underlying33 (by kernel_rfl) (some ⟨X, 7, none⟩) (some ⟨b9, o9, none⟩) 8 8 8 c9 (by rfl) (by rfl) X 7 (cfZ m v a st ba tw li).toList 64 HB9.out (bcs (rTk 8 s7)) (by rw [bcs_length, HTL.out]; rfl) (fun _ => ⟨rfl, _, rfl, fun j u hj => cell_add (HR9.out j u hj)⟩) (by rw [bcs_length, HTL.out]; exact Nat.le_of_ble_eq_true rfl) (bcs_one _) X _ (Below.refl _ _) (Nat.le_refl _) ?_; intro w10 hb10 he10) | fail "ARM")
    all_goals (
      have HBC := Lib.hid (show Blk w10 X 64 (cfA ⟨m, v, a, st, ba, tw, li, sd⟩) from by
        have := hb10.out
        rw [← HNM.out, cf_splice, Array.toArray_toList] at this
        exact this)
      have HE10 := Lib.hid (show Ext w w10 from Below.trans HX9.out.low (Below.mono he10 (Nat.le_of_lt (Nat.lt_of_lt_of_le (Nat.lt_succ_self _) (Nat.le_of_lt HXX.out)))))
      have HR10 := Lib.hid (HX9.out.res.below he10 (Nat.lt_of_lt_of_le (Nat.lt_succ_self _) (Nat.le_of_lt HXX.out)))
      have hr := range_cf HBC.out
      clear hb10 he10 hX hfz HX9 HB9 HR9
      cases hv : eCf ⟨m, v, a, st, ba, tw, li, sd⟩ with
      | false =>
        have HOUT := Lib.hid (show out = none by rw [HDC.out, if_neg (by rw [hv]; decide)])
        go_wp2_with (first | (with_reducible refine wpList_loadCf_script rfl (.tmp 5) rfl X rfl ⟨m, v, a, st, ba, tw, li, sd⟩ hr ?_))
        refine (scriptEncCfg_no ⟨m, v, a, st, ba, tw, li, sd⟩ hv w10).mono ?_
        rintro e w11 ⟨rfl, he11⟩
        have HE11 := Lib.hid (HE10.out.trans he11)
        have HR11 := Lib.hid (HR10.out.ext he11)
        have htz : w11.there w.heap.size 0 15 := there_of_blk HR11.out
        have hst := blk_whole (ds := zero15) HR11.out rfl
        clear he11 hr hv
        go_wp2_with (first | (with_reducible refine wpList_storeCf rfl (.tmp 2) (.tmp 48) rfl w.heap.size zero15 rfl rfl htz rfl (cfZ_all _ _ _ _ _ _ _) ?_))
        exact bodyPost_ret (v := .tuple #[.agg zero15, .int .i64 4]) (retCV rfl _ _ w.heap.size _ _ rfl rfl (run_loadVar_row _ _ _ _ _ (0, 0) _ hst Try.underlying64 rfl (by kernel_rfl))) rfl ⟨Below.setCells' HE11.out (Nat.le_refl _) _ _, .inl ⟨HOUT.out, rfl⟩⟩
      | true =>
        have HOUT := Lib.hid (show out = some ⟨m, v, a, st, ba, tw, li, sd⟩ by rw [HDC.out, if_pos hv])
        go_wp2_with (first | (with_reducible refine wpList_loadCf_script rfl (.tmp 5) rfl X rfl ⟨m, v, a, st, ba, tw, li, sd⟩ hr ?_))
        refine (scriptEncCfg_yes ⟨m, v, a, st, ba, tw, li, sd⟩ hv w10).mono ?_
        rintro e w11 ⟨A11, c11, rfl, hO11, he11⟩
        have HE11 := Lib.hid (HE10.out.trans he11)
        have HR11 := Lib.hid (HR10.out.ext he11)
        have HC11 := Lib.hid (HBC.out.ext he11)
        have HEQ := Lib.hid (show Calls Try.prog 18 #[.slice A11 31 c11, .slice A 31 c] w11 (fun e w' => e = .returned (.bool true) ∧ w11 = w') from by
          have := bytesEqual_any A11 31 c11 _ A 31 c l w11 hO11.sl (HSL.out _ HE11.out)
          rw [HENC.out, decide_eq_true rfl] at this
          exact this)
        clear he11 hr hv hO11
        go_wp2_with fail
        refine HEQ.out.mono ?_
        rintro e w12 ⟨rfl, rfl⟩
        have htz : w11.there w.heap.size 0 15 := there_of_blk HR11.out
        have hst := blk_whole (ds := cfA ⟨m, v, a, st, ba, tw, li, sd⟩) HR11.out rfl
        have hr := range_cf HC11.out
        go_wp2_with (first | (with_reducible refine wpList_loadCf_script rfl (.tmp 5) rfl X rfl ⟨m, v, a, st, ba, tw, li, sd⟩ hr ?_) | (with_reducible refine wpList_storeCf rfl (.tmp 2) (.tmp 49) rfl w.heap.size (cfA ⟨m, v, a, st, ba, tw, li, sd⟩) rfl rfl htz rfl (cfA_all _) ?_))
        exact bodyPost_ret (v := .tuple #[.agg (cfA ⟨m, v, a, st, ba, tw, li, sd⟩), .int .i64 0]) (retCV rfl _ _ w.heap.size _ _ rfl rfl (run_loadVar_row _ _ _ _ _ (0, 0) _ hst Try.underlying64 rfl (by kernel_rfl))) rfl ⟨Below.setCells' HE11.out (Nat.le_refl _) _ _, .inr ⟨_, HOUT.out, rfl⟩⟩)
  · have HOUT := Lib.hid (show decCf l = none by unfold decCf; rw [if_neg (fun hh => h31 (by rw [← hlen]; exact hh.1))])
    have d1 : ((n : Int) != 31) = true := by simp; omega
    have d2 : ((n : Int) == 31) = false := by simp; omega
    have d3 : decide ((n : Int) = 31) = false := by simp; omega
    have htz : (w.alloc (.cells zero15 64)).there w.heap.size 0 15 := there_of_blk HR0.out
    have hst := blk_whole (ds := zero15) HR0.out rfl
    clear h hlen h31
    go_enter Try.func53, Try.ntmps53
    go_wp2_with (first | (with_reducible refine wpList_storeCf rfl (.tmp 2) (.tmp 11) rfl w.heap.size zero15 rfl rfl htz rfl (cfZ_all _ _ _ _ _ _ _) ?_))
    exact bodyPost_ret (v := .tuple #[.agg zero15, .int .i64 4]) (retCV rfl _ _ w.heap.size _ _ rfl rfl (run_loadVar_row _ _ _ _ _ (0, 0) _ hst Try.underlying64 rfl (by kernel_rfl))) rfl ⟨Below.setCells' HE0.out (Nat.le_refl _) _ _, .inl ⟨HOUT.out, rfl⟩⟩
end Go.Proofs.Ytjlnmpjffogpdaa
