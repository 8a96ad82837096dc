/- script.Equal. -/
import Derived.Test.YtjlnmpjffogpdaaSt1
namespace Go.Proofs.Ytjlnmpjffogpdaa
open Go.RowKit
set_option linter.unusedVariables false
set_option linter.unusedSimpArgs false
attribute [local go_sem ↓] Go.wp_at_zero Go.wp_at_succ

def intAt (S : StR) (i : Nat) : Int := if i = 0 then S.k else if i = 1 then S.pr else if i = 2 then S.to else if i = 3 then S.at_ else if i = 4 then S.gr else if i = 5 then S.ac else if i = 6 then S.sq else if i = 7 then S.par else S.val
def eqI (S T : StR) : Bool := (List.range 9).all fun i => decide (intAt S i = intAt T i)
theorem eqI_no {S T : StR} {i : Nat} (hi : i < 9) (h : intAt S i ≠ intAt T i) : eqI S T = false := by
  cases he : eqI S T with
  | false => rfl
  | true => exact absurd (of_decide_eq_true (List.all_eq_true.1 he i (List.mem_range.2 hi))) h
theorem eqI_yes {S T : StR} (h : ∀ i, i < 9 → intAt S i = intAt T i) : eqI S T = true := List.all_eq_true.2 (fun i hi => decide_eq_true (h i (List.mem_range.1 hi)))
def eqInt (x y : Int) : Bool := decide (x = y)
def eqSt (S T : StR) : Bool := eqI S T && (eqG eqInt S.pk T.pk && (decide (S.v = T.v) && (decide (S.da = T.da) && (eqVw S.vs S.xs T.vs T.xs && eqG eqOp S.ops T.ops))))
theorem eqSt_refl (S : StR) : eqSt S S = true := by
  unfold eqSt
  rw [eqI_yes (fun _ _ => rfl), eqG_refl (fun x => by unfold eqInt; simp), eqVw_refl, eqG_refl eqOp_refl]
  simp
theorem eqSt_comm (S T : StR) : eqSt S T = eqSt T S := by
  unfold eqSt
  rw [eqG_comm (f := eqInt) (fun x y => by unfold eqInt; exact dec_comm x y), dec_comm S.v, dec_comm S.da, eqVw_comm, eqG_comm (f := eqOp) eqOp_comm]
  congr 1
  unfold eqI
  exact congrArg _ (funext fun i => dec_comm _ _)
theorem ints1_any (b : Nat) (w : World) : Calls Try.prog 38 #[.pointer (some ⟨b, 0, none⟩)] w fun e w' => e = .returned (.pointer (some ⟨b, 0, none⟩)) ∧ w = w' := by
  go_enter Try.func38, Try.ntmps38
  go_wp2_with fail
  go_ret
  exact ⟨rfl, rfl⟩
theorem ints2_any (b : Nat) (w : World) : Calls Try.prog 39 #[.pointer (some ⟨b, 0, none⟩)] w fun e w' => e = .returned (.pointer (some ⟨b, 1, none⟩)) ∧ w = w' := by
  go_enter Try.func39, Try.ntmps39
  go_wp2_with fail
  go_ret
  exact ⟨rfl, rfl⟩
theorem ints3_any (b : Nat) (w : World) : Calls Try.prog 40 #[.pointer (some ⟨b, 0, none⟩)] w fun e w' => e = .returned (.pointer (some ⟨b, 2, none⟩)) ∧ w = w' := by
  go_enter Try.func40, Try.ntmps40
  go_wp2_with fail
  go_ret
  exact ⟨rfl, rfl⟩
theorem ints4_any (b : Nat) (w : World) : Calls Try.prog 41 #[.pointer (some ⟨b, 0, none⟩)] w fun e w' => e = .returned (.pointer (some ⟨b, 3, none⟩)) ∧ w = w' := by
  go_enter Try.func41, Try.ntmps41
  go_wp2_with fail
  go_ret
  exact ⟨rfl, rfl⟩
theorem ints5_any (b : Nat) (w : World) : Calls Try.prog 42 #[.pointer (some ⟨b, 0, none⟩)] w fun e w' => e = .returned (.pointer (some ⟨b, 4, none⟩)) ∧ w = w' := by
  go_enter Try.func42, Try.ntmps42
  go_wp2_with fail
  go_ret
  exact ⟨rfl, rfl⟩
theorem ints6_any (b : Nat) (w : World) : Calls Try.prog 43 #[.pointer (some ⟨b, 0, none⟩)] w fun e w' => e = .returned (.pointer (some ⟨b, 6, none⟩)) ∧ w = w' := by
  go_enter Try.func43, Try.ntmps43
  go_wp2_with fail
  go_ret
  exact ⟨rfl, rfl⟩
theorem ints7_any (b : Nat) (w : World) : Calls Try.prog 44 #[.pointer (some ⟨b, 0, none⟩)] w fun e w' => e = .returned (.pointer (some ⟨b, 7, none⟩)) ∧ w = w' := by
  go_enter Try.func44, Try.ntmps44
  go_wp2_with fail
  go_ret
  exact ⟨rfl, rfl⟩
theorem ints8_any (b : Nat) (w : World) : Calls Try.prog 45 #[.pointer (some ⟨b, 0, none⟩)] w fun e w' => e = .returned (.pointer (some ⟨b, 31, none⟩)) ∧ w = w' := by
  go_enter Try.func45, Try.ntmps45
  go_wp2_with fail
  go_ret
  exact ⟨rfl, rfl⟩
theorem ints9_any (b : Nat) (w : World) : Calls Try.prog 46 #[.pointer (some ⟨b, 0, none⟩)] w fun e w' => e = .returned (.pointer (some ⟨b, 32, none⟩)) ∧ w = w' := by
  go_enter Try.func46, Try.ntmps46
  go_wp2_with fail
  go_ret
  exact ⟨rfl, rfl⟩
abbrev intsA : Array Value := #[.func (.func 38) #[] #[], .func (.func 39) #[] #[], .func (.func 40) #[] #[], .func (.func 41) #[] #[], .func (.func 42) #[] #[], .func (.func 43) #[] #[], .func (.func 44) #[] #[], .func (.func 45) #[] #[], .func (.func 46) #[] #[]]
theorem intsA_all : intsA.all (·.oneCell') = true := by kernel_rfl
theorem wpList_newFA {o : Oper} {a : Act} {w : World} {ops : Array Oper} {rest : List Oper} {Q : Exit → Act → World → Prop} (hgd : o.guard = none) (x y : Operand) (ho : o.op = .store 50 x y) (cs : Array Value) (hcs : cs.size = 9) (hx : a.eval x = .pointer (some ⟨w.heap.size, 0, none⟩)) (hy : a.eval y = .agg intsA)
    (h : wpList Try.prog ops Q rest (a.put o.dst undef) (w.alloc (.cells intsA 50))) : wpList Try.prog ops Q (o :: rest) a (w.alloc (.cells cs 50)) := by
  have ht := there_of_blk (Blk.new w 50 cs)
  rw [hcs] at ht
  refine wpList_store_mid hgd 50 x y ho w.heap.size 0 intsA hx hy ht (by kernel_rfl) intsA_all ?_
  rw [setCells_whole w 50 cs intsA (by rw [hcs]; rfl)]
  exact h
set_option maxRecDepth 100000 in
set_option maxHeartbeats 1000000 in
theorem ints_any (w : World) : Calls Try.prog 16 #[] w fun e w' => e = .returned (.agg intsA) ∧ Ext w w' := by
  have hE := Lib.hid ((Ext.refl w).alloc' (.cells intsA 50))
  go_enter Try.func16, Try.ntmps16
  go_wp2_with (first | (with_reducible refine wpList_newFA rfl (.tmp 0) (.tmp 10) rfl _ rfl rfl rfl ?_))
  exact bodyPost_ret (v := .agg intsA) (retC rfl _ _ w.heap.size _ rfl (run_loadVar_row _ _ _ _ _ (0, 0) _ (Blk.new w _ intsA) Try.underlying50 rfl (by kernel_rfl))) rfl ⟨rfl, hE.out⟩
set_option maxRecDepth 100000 in
set_option maxHeartbeats 4000000 in
theorem slEqInt_any (A : Option Addr) (n c : Nat) (L : List Int) (A' : Option Addr) (n' c' : Nat) (M : List Int) (w : World) (hS : SlG w A n c L) (hS' : SlG w A' n' c' M) :
    Calls Try.prog 17 #[.slice A n c, .slice A' n' c'] w fun e w' => e = .returned (.bool (eqG eqInt L M)) ∧ Ext w w' := by
  have hle := hS.le
  have hcap := hS.cap
  have hle' := hS'.le
  have hcap' := hS'.cap
  have HL := Lib.hid hS.len
  have HM := Lib.hid hS'.len
  by_cases hn : n = n'
  · subst hn
    have HS := Lib.hid hS
    have HS' := Lib.hid hS'
    have HCA := Lib.hid (show n = 0 ∨ ((∃ b o, A = some ⟨b, o, none⟩ ∧ w.rangeAt b o (gcs L) ∧ b < w.heap.size) ∧ ∃ b o, A' = some ⟨b, o, none⟩ ∧ w.rangeAt b o (gcs M) ∧ b < w.heap.size) from by
      rcases Nat.eq_zero_or_pos n with h0 | h0
      · exact .inl h0
      · exact .inr ⟨HS.out.at h0, HS'.out.at h0⟩)
    clear hS hS'
    go_enter Try.func17, Try.ntmps17
    go_wp2_with fail
    go_loopw [13] (fun i wr => ∃ k : Nat, k ≤ n ∧ i = .int .i64 (k : Int) ∧ Hid (∀ j, j < k → eqInt (nthG L j) (nthG M j) = true) ∧ Ext w wr) (fun i _ => n - (intOf i).toNat)
    case atStart => exact ⟨0, Nat.zero_le _, rfl, Lib.hid (fun j hj => by omega), Ext.refl _⟩
    case round =>
      obtain ⟨k, hk, rfl, HP, hX⟩ := hrel
      have HX := Lib.hid hX
      clear hX
      by_cases hlt : k < n
      · rcases HCA.out with h0 | ⟨⟨b, of, rfl, hr, hb⟩, b', of', rfl, hr', hb'⟩
        · omega
        have hr1 : wr.cell? ⟨b, of + k, none⟩ = some (.int .i64 (nthG L k)) := intG_at (rangeAt_keep hr (HX.out.block b hb)) (by rw [HL.out]; exact hlt)
        have hr2 : wr.cell? ⟨b', of' + k, none⟩ = some (.int .i64 (nthG M k)) := intG_at (rangeAt_keep hr' (HX.out.block b' hb')) (by rw [HM.out]; exact hlt)
        clear hr hr' hb hb' HCA
        have HQ := Lib.hid (fun (hx : eqInt (nthG L k) (nthG M k) = true) => show ∀ j, j < k + 1 → eqInt (nthG L j) (nthG M j) = true from fun j hj => by
          rcases Nat.lt_or_ge j k with h | h
          · exact HP.out j h
          · obtain rfl : j = k := by omega
            exact hx)
        have HN := Lib.hid (fun (hx : eqInt (nthG L k) (nthG M k) = false) => show eqG eqInt L M = false from eqG_at (by rw [HL.out]; exact hlt) hx)
        have i0 : (0 : Int) ≤ (k : Int) := by omega
        have i1 : (k : Int) < (n : Int) := by omega
        obtain ⟨R, hR⟩ : ∃ R, nthG L k = R := ⟨_, rfl⟩
        obtain ⟨Q, hQ⟩ : ∃ Q, nthG M k = Q := ⟨_, rfl⟩
        rw [hR, hQ] at HQ HN
        rw [hR] at hr1
        rw [hQ] at hr2
        clear hR hQ
        have HC := Lib.hid (fun (W : World) (h : Ext wr W) => (⟨(Below.cell h (block_lt_of_cell hr1)).trans hr1, (Below.cell h (block_lt_of_cell hr2)).trans hr2⟩ : W.cell? ⟨b, of + k, none⟩ = some (.int .i64 R) ∧ W.cell? ⟨b', of' + k, none⟩ = some (.int .i64 Q)))
        clear hr1 hr2
        go_wp2_with fail
        refine wp_region_plan (S := fun W => Ext wr W) (by kernel_rfl) (by kernel_rfl) ((Ext.refl wr).drew') ?_
        (refine plan_take (i := 0) (oi := { dst := some 16, op := Op.move (Operand.tmp 0), type := 22, pos := "slices.go:25", after := #[], guard := none }) (v := ?_) rfl (by kernel_rfl) (by kernel_rfl) (fx_read (Or.inl ⟨by rfl, ?hy0⟩)) ?_; case hy0 => (intro W hSW; obtain ⟨s1, s2⟩ := HC.out W hSW; go_simp <;> with_reducible rfl))
        try simp only [Act.put, List.setIfInBounds_toArray, List.set_cons_zero, List.set_cons_succ]
        (refine plan_take (i := 1) (oi := { dst := some 17, op := Op.move (Operand.tmp 5), type := 3, pos := "slices.go:25", after := #[], guard := none }) (v := ?_) rfl (by kernel_rfl) (by kernel_rfl) (fx_read (Or.inl ⟨by rfl, ?hy1⟩)) ?_; case hy1 => (intro W hSW; obtain ⟨s1, s2⟩ := HC.out W hSW; go_simp <;> with_reducible rfl))
        try simp only [Act.put, List.setIfInBounds_toArray, List.set_cons_zero, List.set_cons_succ]
        (refine plan_take (i := 2) (oi := { dst := some 18, op := Op.indexAddr 22 (Operand.tmp 16) (Operand.tmp 17), type := 0, pos := "slices.go:25", after := #[{ on := 0, ground := Ground.data }, { on := 1, ground := Ground.data }], guard := none }) (v := ?_) rfl (by kernel_rfl) (by kernel_rfl) (fx_read (Or.inl ⟨by rfl, ?hy2⟩)) ?_; case hy2 => (intro W hSW; obtain ⟨s1, s2⟩ := HC.out W hSW; go_simp <;> with_reducible rfl))
        try simp only [Act.put, List.setIfInBounds_toArray, List.set_cons_zero, List.set_cons_succ]
        (refine plan_take (i := 3) (oi := { dst := some 19, op := Op.load 3 (Operand.tmp 18), type := 3, pos := "slices.go:25", after := #[{ on := 2, ground := Ground.data }], guard := none }) (v := ?_) rfl (by kernel_rfl) (by kernel_rfl) (fx_read (Or.inl ⟨by rfl, ?hy3⟩)) ?_; case hy3 => (intro W hSW; obtain ⟨s1, s2⟩ := HC.out W hSW; go_simp <;> with_reducible rfl))
        try simp only [Act.put, List.setIfInBounds_toArray, List.set_cons_zero, List.set_cons_succ]
        (refine plan_take (i := 4) (oi := { dst := some 20, op := Op.move (Operand.tmp 1), type := 22, pos := "slices.go:25", after := #[], guard := none }) (v := ?_) rfl (by kernel_rfl) (by kernel_rfl) (fx_read (Or.inl ⟨by rfl, ?hy4⟩)) ?_; case hy4 => (intro W hSW; obtain ⟨s1, s2⟩ := HC.out W hSW; go_simp <;> with_reducible rfl))
        try simp only [Act.put, List.setIfInBounds_toArray, List.set_cons_zero, List.set_cons_succ]
        (refine plan_take (i := 5) (oi := { dst := some 21, op := Op.move (Operand.tmp 5), type := 3, pos := "slices.go:25", after := #[], guard := none }) (v := ?_) rfl (by kernel_rfl) (by kernel_rfl) (fx_read (Or.inl ⟨by rfl, ?hy5⟩)) ?_; case hy5 => (intro W hSW; obtain ⟨s1, s2⟩ := HC.out W hSW; go_simp <;> with_reducible rfl))
        try simp only [Act.put, List.setIfInBounds_toArray, List.set_cons_zero, List.set_cons_succ]
        (refine plan_take (i := 6) (oi := { dst := some 22, op := Op.indexAddr 22 (Operand.tmp 20) (Operand.tmp 21), type := 0, pos := "slices.go:25", after := #[{ on := 4, ground := Ground.data }, { on := 5, ground := Ground.data }], guard := none }) (v := ?_) rfl (by kernel_rfl) (by kernel_rfl) (fx_read (Or.inl ⟨by rfl, ?hy6⟩)) ?_; case hy6 => (intro W hSW; obtain ⟨s1, s2⟩ := HC.out W hSW; go_simp <;> with_reducible rfl))
        try simp only [Act.put, List.setIfInBounds_toArray, List.set_cons_zero, List.set_cons_succ]
        (refine plan_take (i := 7) (oi := { dst := some 23, op := Op.load 3 (Operand.tmp 22), type := 3, pos := "slices.go:25", after := #[{ on := 6, ground := Ground.data }], guard := none }) (v := ?_) rfl (by kernel_rfl) (by kernel_rfl) (fx_read (Or.inl ⟨by rfl, ?hy7⟩)) ?_; case hy7 => (intro W hSW; obtain ⟨s1, s2⟩ := HC.out W hSW; go_simp <;> with_reducible rfl))
        try simp only [Act.put, List.setIfInBounds_toArray, List.set_cons_zero, List.set_cons_succ]
        (refine plan_take (i := 8) (oi := { dst := some 24, op := Op.binOp BinOp.neq 3 (Operand.tmp 19) (Operand.tmp 23) 3, type := 4, pos := "slices.go:25", after := #[{ on := 3, ground := Ground.data }, { on := 7, ground := Ground.data }], guard := none }) (v := ?_) rfl (by kernel_rfl) (by kernel_rfl) (fx_read (Or.inl ⟨by rfl, ?hy8⟩)) ?_; case hy8 => (intro W hSW; obtain ⟨s1, s2⟩ := HC.out W hSW; go_simp <;> with_reducible rfl))
        try simp only [Act.put, List.setIfInBounds_toArray, List.set_cons_zero, List.set_cons_succ]
        refine Plan.done (by kernel_rfl) (fun W hSW => ?_)
        have HX1 := Lib.hid (HX.out.trans hSW)
        clear hSW
        by_cases hv : R = Q
        · have HQ' := Lib.hid (HQ.out (decide_eq_true hv))
          subst hv
          go_wp2_with fail
          go_roundw
          case rel => exact ⟨k + 1, by omega, by go_num, HQ', HX1.out⟩
          case measure => simp [intOf]; omega
        · have HN' := Lib.hid (HN.out (decide_eq_false hv))
          have x1 : (R == Q) = false := by simpa using hv
          have x2 : (R != Q) = true := by simpa using hv
          have x3 : decide (R = Q) = false := decide_eq_false hv
          clear hv
          go_wp2_with fail
          go_ret
          exact ⟨by rw [HN'.out]; rfl, HX1.out⟩
      · obtain rfl : k = n := by omega
        have HV := Lib.hid (show eqG eqInt L M = true from eqG_yes (by rw [HL.out, HM.out]) (fun j hj => HP.out j (by rw [HL.out] at hj; exact hj)))
        go_wp2_with fail
        go_ret
        exact ⟨by rw [HV.out]; rfl, HX.out⟩
  · have HV := Lib.hid (show eqG eqInt L M = false from eqG_len (by rw [HL.out, HM.out]; exact hn))
    have d1 : ((n : Int) == (n' : Int)) = false := by simp; omega
    have d2 : decide ((n : Int) = (n' : Int)) = false := decide_eq_false (by omega)
    clear hS hS' hn
    go_enter Try.func17, Try.ntmps17
    go_wp2_with fail
    go_ret
    exact ⟨by rw [HV.out]; rfl, Ext.refl _⟩
set_option maxRecDepth 100000 in
set_option maxHeartbeats 4000000 in
theorem sameIntsG_any (A : Option Addr) (n c : Nat) (L : List Int) (A' : Option Addr) (n' c' : Nat) (M : List Int) (w : World) (hS : SlG w A n c L) (hS' : SlG w A' n' c' M) :
    Calls Try.prog 23 #[.slice A n c, .slice A' n' c'] w fun e w' => e = .returned (.bool (eqG eqInt L M)) ∧ Ext w w' := by
  have hle := hS.le
  have hcap := hS.cap
  have hle' := hS'.le
  have hcap' := hS'.cap
  have HL := Lib.hid hS.len
  have HM := Lib.hid hS'.len
  by_cases hn : n = n'
  · subst hn
    have HS := Lib.hid hS
    have HS' := Lib.hid hS'
    have HCA := Lib.hid (show n = 0 ∨ ((∃ b o, A = some ⟨b, o, none⟩ ∧ w.rangeAt b o (gcs L) ∧ b < w.heap.size) ∧ ∃ b o, A' = some ⟨b, o, none⟩ ∧ w.rangeAt b o (gcs M) ∧ b < w.heap.size) from by
      rcases Nat.eq_zero_or_pos n with h0 | h0
      · exact .inl h0
      · exact .inr ⟨HS.out.at h0, HS'.out.at h0⟩)
    clear hS hS'
    go_enter Try.func23, Try.ntmps23
    go_wp2_with fail
    go_loopw [5] (fun i wr => ∃ k : Nat, k ≤ n ∧ i = .int .i64 (k : Int) ∧ Hid (∀ j, j < k → eqInt (nthG L j) (nthG M j) = true) ∧ Ext w wr) (fun i _ => n - (intOf i).toNat)
    case atStart => exact ⟨0, Nat.zero_le _, rfl, Lib.hid (fun j hj => by omega), Ext.refl _⟩
    case round =>
      obtain ⟨k, hk, rfl, HP, hX⟩ := hrel
      have HX := Lib.hid hX
      clear hX
      by_cases hlt : k < n
      · rcases HCA.out with h0 | ⟨⟨b, of, rfl, hr, hb⟩, b', of', rfl, hr', hb'⟩
        · omega
        have hr1 : wr.cell? ⟨b, of + k, none⟩ = some (.int .i64 (nthG L k)) := intG_at (rangeAt_keep hr (HX.out.block b hb)) (by rw [HL.out]; exact hlt)
        have hr2 : wr.cell? ⟨b', of' + k, none⟩ = some (.int .i64 (nthG M k)) := intG_at (rangeAt_keep hr' (HX.out.block b' hb')) (by rw [HM.out]; exact hlt)
        clear hr hr' hb hb' HCA
        have HQ := Lib.hid (fun (hx : eqInt (nthG L k) (nthG M k) = true) => show ∀ j, j < k + 1 → eqInt (nthG L j) (nthG M j) = true from fun j hj => by
          rcases Nat.lt_or_ge j k with h | h
          · exact HP.out j h
          · obtain rfl : j = k := by omega
            exact hx)
        have HN := Lib.hid (fun (hx : eqInt (nthG L k) (nthG M k) = false) => show eqG eqInt L M = false from eqG_at (by rw [HL.out]; exact hlt) hx)
        have i0 : (0 : Int) ≤ (k : Int) := by omega
        have i1 : (k : Int) < (n : Int) := by omega
        obtain ⟨R, hR⟩ : ∃ R, nthG L k = R := ⟨_, rfl⟩
        obtain ⟨Q, hQ⟩ : ∃ Q, nthG M k = Q := ⟨_, rfl⟩
        rw [hR, hQ] at HQ HN
        rw [hR] at hr1
        rw [hQ] at hr2
        clear hR hQ
        have HC := Lib.hid (fun (W : World) (h : Ext wr W) => (⟨(Below.cell h (block_lt_of_cell hr1)).trans hr1, (Below.cell h (block_lt_of_cell hr2)).trans hr2⟩ : W.cell? ⟨b, of + k, none⟩ = some (.int .i64 R) ∧ W.cell? ⟨b', of' + k, none⟩ = some (.int .i64 Q)))
        clear hr1 hr2
        go_wp2_with fail
        refine wp_region_plan (S := fun W => Ext wr W) (by kernel_rfl) (by kernel_rfl) ((Ext.refl wr).drew') ?_
        (refine plan_take (i := 0) (oi := { dst := some 17, op := Op.move (Operand.tmp 0), type := 22, pos := "state.go:159", after := #[], guard := none }) (v := ?_) rfl (by kernel_rfl) (by kernel_rfl) (fx_read (Or.inl ⟨by rfl, ?hy0⟩)) ?_; case hy0 => (intro W hSW; obtain ⟨s1, s2⟩ := HC.out W hSW; go_simp <;> with_reducible rfl))
        try simp only [Act.put, List.setIfInBounds_toArray, List.set_cons_zero, List.set_cons_succ]
        (refine plan_take (i := 1) (oi := { dst := some 18, op := Op.move (Operand.tmp 5), type := 3, pos := "state.go:159", after := #[], guard := none }) (v := ?_) rfl (by kernel_rfl) (by kernel_rfl) (fx_read (Or.inl ⟨by rfl, ?hy1⟩)) ?_; case hy1 => (intro W hSW; obtain ⟨s1, s2⟩ := HC.out W hSW; go_simp <;> with_reducible rfl))
        try simp only [Act.put, List.setIfInBounds_toArray, List.set_cons_zero, List.set_cons_succ]
        (refine plan_take (i := 2) (oi := { dst := some 19, op := Op.indexAddr 22 (Operand.tmp 17) (Operand.tmp 18), type := 0, pos := "state.go:159", after := #[{ on := 0, ground := Ground.data }, { on := 1, ground := Ground.data }], guard := none }) (v := ?_) rfl (by kernel_rfl) (by kernel_rfl) (fx_read (Or.inl ⟨by rfl, ?hy2⟩)) ?_; case hy2 => (intro W hSW; obtain ⟨s1, s2⟩ := HC.out W hSW; go_simp <;> with_reducible rfl))
        try simp only [Act.put, List.setIfInBounds_toArray, List.set_cons_zero, List.set_cons_succ]
        (refine plan_take (i := 3) (oi := { dst := some 20, op := Op.load 3 (Operand.tmp 19), type := 3, pos := "state.go:159", after := #[{ on := 2, ground := Ground.data }], guard := none }) (v := ?_) rfl (by kernel_rfl) (by kernel_rfl) (fx_read (Or.inl ⟨by rfl, ?hy3⟩)) ?_; case hy3 => (intro W hSW; obtain ⟨s1, s2⟩ := HC.out W hSW; go_simp <;> with_reducible rfl))
        try simp only [Act.put, List.setIfInBounds_toArray, List.set_cons_zero, List.set_cons_succ]
        (refine plan_take (i := 4) (oi := { dst := some 21, op := Op.move (Operand.tmp 1), type := 22, pos := "state.go:159", after := #[], guard := none }) (v := ?_) rfl (by kernel_rfl) (by kernel_rfl) (fx_read (Or.inl ⟨by rfl, ?hy4⟩)) ?_; case hy4 => (intro W hSW; obtain ⟨s1, s2⟩ := HC.out W hSW; go_simp <;> with_reducible rfl))
        try simp only [Act.put, List.setIfInBounds_toArray, List.set_cons_zero, List.set_cons_succ]
        (refine plan_take (i := 5) (oi := { dst := some 22, op := Op.move (Operand.tmp 5), type := 3, pos := "state.go:159", after := #[], guard := none }) (v := ?_) rfl (by kernel_rfl) (by kernel_rfl) (fx_read (Or.inl ⟨by rfl, ?hy5⟩)) ?_; case hy5 => (intro W hSW; obtain ⟨s1, s2⟩ := HC.out W hSW; go_simp <;> with_reducible rfl))
        try simp only [Act.put, List.setIfInBounds_toArray, List.set_cons_zero, List.set_cons_succ]
        (refine plan_take (i := 6) (oi := { dst := some 23, op := Op.indexAddr 22 (Operand.tmp 21) (Operand.tmp 22), type := 0, pos := "state.go:159", after := #[{ on := 4, ground := Ground.data }, { on := 5, ground := Ground.data }], guard := none }) (v := ?_) rfl (by kernel_rfl) (by kernel_rfl) (fx_read (Or.inl ⟨by rfl, ?hy6⟩)) ?_; case hy6 => (intro W hSW; obtain ⟨s1, s2⟩ := HC.out W hSW; go_simp <;> with_reducible rfl))
        try simp only [Act.put, List.setIfInBounds_toArray, List.set_cons_zero, List.set_cons_succ]
        (refine plan_take (i := 7) (oi := { dst := some 24, op := Op.load 3 (Operand.tmp 23), type := 3, pos := "state.go:159", after := #[{ on := 6, ground := Ground.data }], guard := none }) (v := ?_) rfl (by kernel_rfl) (by kernel_rfl) (fx_read (Or.inl ⟨by rfl, ?hy7⟩)) ?_; case hy7 => (intro W hSW; obtain ⟨s1, s2⟩ := HC.out W hSW; go_simp <;> with_reducible rfl))
        try simp only [Act.put, List.setIfInBounds_toArray, List.set_cons_zero, List.set_cons_succ]
        (refine plan_take (i := 8) (oi := { dst := some 25, op := Op.binOp BinOp.neq 3 (Operand.tmp 20) (Operand.tmp 24) 3, type := 4, pos := "state.go:159", after := #[{ on := 3, ground := Ground.data }, { on := 7, ground := Ground.data }], guard := none }) (v := ?_) rfl (by kernel_rfl) (by kernel_rfl) (fx_read (Or.inl ⟨by rfl, ?hy8⟩)) ?_; case hy8 => (intro W hSW; obtain ⟨s1, s2⟩ := HC.out W hSW; go_simp <;> with_reducible rfl))
        try simp only [Act.put, List.setIfInBounds_toArray, List.set_cons_zero, List.set_cons_succ]
        refine Plan.done (by kernel_rfl) (fun W hSW => ?_)
        have HX1 := Lib.hid (HX.out.trans hSW)
        clear hSW
        by_cases hv : R = Q
        · have HQ' := Lib.hid (HQ.out (decide_eq_true hv))
          subst hv
          go_wp2_with fail
          go_roundw
          case rel => exact ⟨k + 1, by omega, by go_num, HQ', HX1.out⟩
          case measure => simp [intOf]; omega
        · have HN' := Lib.hid (HN.out (decide_eq_false hv))
          have x1 : (R == Q) = false := by simpa using hv
          have x2 : (R != Q) = true := by simpa using hv
          have x3 : decide (R = Q) = false := decide_eq_false hv
          clear hv
          go_wp2_with fail
          go_ret
          exact ⟨by rw [HN'.out]; rfl, HX1.out⟩
      · obtain rfl : k = n := by omega
        have HV := Lib.hid (show eqG eqInt L M = true from eqG_yes (by rw [HL.out, HM.out]) (fun j hj => HP.out j (by rw [HL.out] at hj; exact hj)))
        go_wp2_with fail
        go_ret
        exact ⟨by rw [HV.out]; rfl, HX.out⟩
  · have HV := Lib.hid (show eqG eqInt L M = false from eqG_len (by rw [HL.out, HM.out]; exact hn))
    have d1 : ((n : Int) == (n' : Int)) = false := by simp; omega
    have d2 : decide ((n : Int) = (n' : Int)) = false := decide_eq_false (by omega)
    clear hS hS' hn
    go_enter Try.func23, Try.ntmps23
    go_wp2_with fail
    go_ret
    exact ⟨by rw [HV.out]; rfl, Ext.refl _⟩
end Go.Proofs.Ytjlnmpjffogpdaa
