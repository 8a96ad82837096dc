/- The order of bytes; bytes.Compare; the order of signed votes (the program's). -/
import Derived.Test.YtjlnmpjffogpdaaK17
import Derived.Test.YtjlnmpjffogpdaaK15
import Derived.Lib.BytesEntry
import Derived.Test.YtjlnmpjffogpdaaLay
namespace Go.Proofs.Ytjlnmpjffogpdaa
open Go.RowKit
set_option linter.unusedVariables false
set_option linter.unusedSimpArgs false
attribute [local go_sem ↓] Go.wp_at_zero Go.wp_at_succ

/-- bytes, one behind the other -/
def lexB : List UInt8 → List UInt8 → Bool
  | _, [] => false
  | [], _ :: _ => true
  | x :: r, y :: s => if x < y then true else if y < x then false else lexB r s
theorem u8_eq {x y : UInt8} (h1 : ¬ x < y) (h2 : ¬ y < x) : x = y := UInt8.le_antisymm (UInt8.not_lt.1 h2) (UInt8.not_lt.1 h1)
theorem cmp_lex : ∀ (a b : List UInt8), (Lib.compareBytes a b < 0) = (lexB a b = true) ∧ (Lib.compareBytes a b = 0 ↔ a = b) ∧ -1 ≤ Lib.compareBytes a b ∧ Lib.compareBytes a b ≤ 1
  | [], [] => by simp [Lib.compareBytes, lexB]
  | [], _ :: _ => by simp [Lib.compareBytes, lexB]
  | _ :: _, [] => by simp [Lib.compareBytes, lexB]
  | x :: r, y :: s => by
    have ih := cmp_lex r s
    unfold Lib.compareBytes lexB
    by_cases h1 : x < y
    · have : x ≠ y := fun e => by subst e; exact UInt8.lt_irrefl _ h1
      simp [h1, this]
    · by_cases h2 : y < x
      · have : x ≠ y := fun e => by subst e; exact UInt8.lt_irrefl _ h2
        simp [h1, h2, this]
      · obtain rfl := u8_eq h1 h2
        simpa [h1] using ih
theorem bytesLess_lex : ∀ (a b : List UInt8), Op.bytesLess a b = lexB a b
  | [], [] => rfl
  | _ :: _, [] => rfl
  | [], _ :: _ => rfl
  | x :: r, y :: s => by
    have ih := bytesLess_lex r s
    unfold Op.bytesLess lexB
    rw [ih]
    by_cases h1 : x < y
    · simp [h1]
    · by_cases h2 : y < x
      · have : x ≠ y := fun e => by subst e; exact UInt8.lt_irrefl _ h2
        simp [h1, h2, this]
      · obtain rfl := u8_eq h1 h2
        simp [h1]
theorem lexB_irrefl (a : List UInt8) : lexB a a = false := by
  induction a with
  | nil => rfl
  | cons x r ih => unfold lexB; simp [UInt8.lt_irrefl, ih]
theorem lexB_trans : ∀ (a b c : List UInt8), lexB a b = true → lexB b c = true → lexB a c = true
  | _, [], _, h, _ => by simp [lexB] at h
  | _, _ :: _, [], _, h => by simp [lexB] at h
  | [], _ :: _, _ :: _, _, _ => rfl
  | x :: r, y :: s, z :: t, h1, h2 => by
    have ih := lexB_trans r s t
    unfold lexB at h1 h2 ⊢
    by_cases a1 : x < y
    · by_cases a2 : y < z
      · rw [if_pos (UInt8.lt_trans a1 a2)]
      · rw [if_neg a2] at h2
        by_cases a3 : z < y
        · rw [if_pos a3] at h2; cases h2
        · obtain rfl := u8_eq a2 a3; rw [if_pos a1]
    · rw [if_neg a1] at h1
      by_cases a2 : y < x
      · rw [if_pos a2] at h1; cases h1
      · obtain rfl := u8_eq a1 a2
        rw [if_neg a2] at h1
        by_cases a3 : x < z
        · rw [if_pos a3]
        · rw [if_neg a3] at h2 ⊢
          by_cases a4 : z < x
          · rw [if_pos a4] at h2; cases h2
          · rw [if_neg a4] at h2 ⊢; exact ih h1 h2
theorem lexB_total : ∀ (a b : List UInt8), lexB a b = false → lexB b a = false → a = b
  | [], [], _, _ => rfl
  | [], _ :: _, h, _ => by simp [lexB] at h
  | _ :: _, [], _, h => by simp [lexB] at h
  | x :: r, y :: s, h1, h2 => by
    have ih := lexB_total r s
    unfold lexB at h1 h2
    by_cases a1 : x < y
    · rw [if_pos a1] at h1; cases h1
    · by_cases a2 : y < x
      · rw [if_pos a2] at h2; cases h2
      · obtain rfl := u8_eq a1 a2
        rw [if_neg a1, if_neg a1] at h1 h2
        rw [ih h1 h2]
theorem lexB_sto : STO lexB := ⟨lexB_irrefl, lexB_trans, lexB_total⟩
theorem ltVt_sto : STO ltVt := ⟨fun x => lexI_irrefl _, fun x y z => lexI_trans _ _ _, fun x y h1 h2 => vtKey_inj (lexI_total _ _ rfl h1 h2)⟩
/-- a vote with its signature, as a plain value -/
abbrev SgV := VtR × List UInt8
def ltSv (a b : SgV) : Bool := if a.1 = b.1 then lexB a.2 b.2 else ltVt a.1 b.1
theorem ltSv_sto : STO ltSv where
  irrefl x := by unfold ltSv; rw [if_pos rfl]; exact lexB_irrefl _
  trans x y z h1 h2 := by
    unfold ltSv at *
    by_cases e1 : x.1 = y.1
    · rw [if_pos e1] at h1
      by_cases e2 : y.1 = z.1
      · rw [if_pos e2] at h2; rw [if_pos (e1.trans e2)]; exact lexB_trans _ _ _ h1 h2
      · rw [if_neg e2] at h2; rw [if_neg (fun e => e2 (e1.symm.trans e)), e1]; exact h2
    · rw [if_neg e1] at h1
      by_cases e2 : y.1 = z.1
      · rw [if_neg (fun e => e1 (e.trans e2.symm)), ← e2]; exact h1
      · rw [if_neg e2] at h2
        have h3 := ltVt_sto.trans _ _ _ h1 h2
        rw [if_neg (fun e => by rw [e, ltVt_sto.irrefl] at h3; cases h3)]; exact h3
  total x y h1 h2 := by
    unfold ltSv at *
    by_cases e1 : x.1 = y.1
    · rw [if_pos e1] at h1; rw [if_pos e1.symm] at h2
      exact Prod.ext e1 (lexB_total _ _ h1 h2)
    · rw [if_neg e1] at h1; rw [if_neg (fun e => e1 e.symm)] at h2
      exact absurd (ltVt_sto.total _ _ h1 h2) e1
def SgR.V (S : SgR) : SgV := (S.v, S.sig)
def ltSg (S T : SgR) : Bool := ltSv S.V T.V
theorem ltSg_v {S T : SgR} (h : S.v ≠ T.v) : ltSg S T = ltVt S.v T.v := by unfold ltSg ltSv SgR.V; rw [if_neg h]
theorem ltSg_s {S T : SgR} (h : S.v = T.v) : ltSg S T = decide (Lib.compareBytes S.sig T.sig < 0) := by
  unfold ltSg ltSv SgR.V; rw [if_pos h]
  cases hh : lexB S.sig T.sig with
  | true => exact (decide_eq_true ((cmp_lex _ _).1.symm ▸ hh)).symm
  | false => exact (decide_eq_false (fun e => by rw [(cmp_lex _ _).1, hh] at e; cases e)).symm
/-! bytes.Compare -/
theorem run_bytesOfB {w : World} {A : Option Addr} {n c : Nat} {l : List UInt8} (h : SlB w A n c l) : (Extern.Bytes.bytesOf (.slice A n c)).run Try.prog w = .ok (strV l) w := by
  have hl := h.len
  by_cases hn : n = 0
  · subst hn
    obtain rfl : l = [] := List.length_eq_zero_iff.1 hl
    rcases A with _ | ad
    · rfl
    · rfl
  · obtain ⟨b, o, rfl, hr, _⟩ := h.at (by omega)
    have hx := Lib.run_loadBytesX (P := Try.prog) w (l.map fun c => (c.toNat : Int)) ⟨b, o, none⟩ .empty (fun j x hj => by
      rw [List.getElem?_map] at hj
      cases hh : l[j]? with
      | none => rw [hh] at hj; cases hj
      | some u =>
        rw [hh] at hj
        obtain rfl := Option.some.inj hj
        rw [Addr.add_mid]
        exact hr j _ (by unfold bcs; rw [List.getElem?_map, hh]; rfl))
    rw [List.length_map, hl] at hx
    have e1 : Lib.bytesOf (l.map fun c => (c.toNat : Int)) = l := by
      unfold Lib.bytesOf
      rw [List.map_map]
      conv => rhs; rw [← List.map_id l]
      apply List.map_congr_left
      intro u _
      simp
    rw [e1] at hx
    have he : (⟨ByteArray.empty.data ++ l.toArray⟩ : ByteArray) = strV l := by
      apply ByteArray.ext
      show (#[] : Array UInt8) ++ l.toArray = l.toArray
      simp
    rw [he] at hx
    exact hx
theorem run_compareB {w : World} {A B : Option Addr} {n c m d : Nat} {p q : List UInt8} (h : SlB w A n c p) (k : SlB w B m d q) : (Extern.BytealgCompare.compare #[.slice A n c, .slice B m d]).run Try.prog w = .ok (.int .i64 (Lib.compareBytes p q)) w := by
  change Sem.run Try.prog (do pure (goInt (Extern.BytealgCompare.cmp (← Extern.Bytes.bytesOf (.slice A n c)) (← Extern.Bytes.bytesOf (.slice B m d))))) w = _
  simp only [Sem.run_bind, Sem.run_pure, run_bytesOfB h, run_bytesOfB k, Result.andThen]
  rw [Lib.cmp_eq]
  rfl
set_option maxRecDepth 100000 in
theorem bCompare_any (A : Option Addr) (n c : Nat) (p : List UInt8) (B : Option Addr) (m d : Nat) (q : List UInt8) (w : World) (h : SlB w A n c p) (k : SlB w B m d q) :
    Calls Try.prog 70 #[.slice A n c, .slice B m d] w fun e w' => e = .returned (.int .i64 (Lib.compareBytes p q)) ∧ w = w' := by
  have hr := run_compareB h k
  clear h k
  go_enter Try.func70, Try.ntmps70
  go_wp2
  rw [run_callFunc_extern Try.func102 (by kernel_rfl) (by kernel_rfl) (by kernel_rfl) (e := Extern.BytealgCompare.compare) (by kernel_rfl), hr]
  simp only [Result.andThen]
  rw [Oper.upon_value]
  go_wp2
  go_ret
  exact ⟨rfl, rfl⟩
/-! the order of signed votes -/
theorem sg_vote {w : World} {g : Nat} {t : TypeId} {S : SgR} (h : Blk w g t (sgA S)) : w.rangeAt g 0 (vtL S.v) := rangeAt_take (k := 22) (rangeAt_of_blk h)
set_option maxRecDepth 100000 in
set_option maxHeartbeats 8000000 in
theorem sgLess_any (S T : SgR) (w : World) (hS : S.ok w) (hT : T.ok w) : Calls Try.prog 99 #[.agg (sgA S), .agg (sgA T)] w fun e w' => e = .returned (.bool (ltSg S T)) ∧ Ext w w' := by
  have hE := ((Ext.refl w).alloc' (.cells (sgA S) 45)).alloc' (.cells (sgA T) 45)
  have HB1 := Lib.hid ((Blk.new w 45 (sgA S)).alloc (.cells (sgA T) 45))
  have HB2 := Lib.hid (show Blk ((w.alloc (.cells (sgA S) 45)).alloc (.cells (sgA T) 45)) (w.heap.size + 1) 45 (sgA T) from Blk.newAt _ _ _ _ (by simp))
  have HE := Lib.hid hE
  have HS := Lib.hid (hS.ext hE)
  have HT := Lib.hid (hT.ext hE)
  obtain ⟨W0, hW0⟩ : ∃ W0, (w.alloc (.cells (sgA S) 45)).alloc (.cells (sgA T) 45) = W0 := ⟨_, rfl⟩
  rw [hW0] at HB1 HB2 HE HS HT
  have r1 := sg_vote HB1.out
  have r2 := sg_vote HB2.out
  have hq : ∀ W, (binOp .neq 28 (.agg (vtA S.v)) (.agg (vtA T.v))).run Try.prog W = .ok (.bool (!decide (S.v = T.v))) W := fun W => by
    rw [run_neq_struct, eqIn_Vt S.v T.v HS.out.v HT.out.v W]; rfl
  have hqi := fun W => eqIn_Vt S.v T.v HS.out.v HT.out.v W
  have HL := Lib.hid (fun (W : World) => vtLess_any S.v T.v W)
  clear hE hS hT
  by_cases hv : S.v = T.v
  · have HV := Lib.hid (ltSg_s hv)
    rw [decide_eq_true hv] at hq hqi
    rw [Bool.not_true] at hq
    have c1 : W0.cell? ⟨w.heap.size, 22, none⟩ = some (.slice S.A S.n S.c) := HB1.out.cell 22
    have c2 : W0.cell? ⟨w.heap.size + 1, 22, none⟩ = some (.slice T.A T.n T.c) := HB2.out.cell 22
    clear hv
    go_enter Try.func99, Try.ntmps99
    go_wp2_with (first | (with_reducible refine wpList_loadVt rfl (.tmp 5) rfl w.heap.size 0 rfl S.v r1 ?_) | (with_reducible refine wpList_loadVt rfl (.tmp 7) rfl (w.heap.size + 1) 0 rfl T.v r2 ?_))
    refine (bCompare_any _ _ _ _ _ _ _ _ W0 HS.out.sig HT.out.sig).mono ?_
    rintro e w1 ⟨rfl, rfl⟩
    go_wp2_with fail
    go_ret
    exact ⟨by rw [HV.out]; rfl, HE.out⟩
  · have HV := Lib.hid (ltSg_v hv)
    rw [decide_eq_false hv] at hq hqi
    rw [Bool.not_false] at hq
    clear hv
    go_enter Try.func99, Try.ntmps99
    go_wp2_with (first | (with_reducible refine wpList_loadVt rfl (.tmp 5) rfl w.heap.size 0 rfl S.v r1 ?_) | (with_reducible refine wpList_loadVt rfl (.tmp 7) rfl (w.heap.size + 1) 0 rfl T.v r2 ?_) | (with_reducible refine wpList_loadVt rfl (.tmp 10) rfl w.heap.size 0 rfl S.v r1 ?_) | (with_reducible refine wpList_loadVt rfl (.tmp 12) rfl (w.heap.size + 1) 0 rfl T.v r2 ?_))
    refine (HL.out W0).mono ?_
    rintro e w1 ⟨rfl, he1⟩
    have HX1 := Lib.hid (HE.out.trans he1)
    clear he1
    go_wp2_with fail
    go_ret
    exact ⟨by rw [HV.out]; rfl, HX1.out⟩
end Go.Proofs.Ytjlnmpjffogpdaa

/- The reference's order of names and votes. -/
namespace Go.Proofs.Ytjlnmpjffogpdaa
open Go.RowKit
set_option linter.unusedVariables false
set_option linter.unusedSimpArgs false
attribute [local go_sem ↓] Go.wp_at_zero Go.wp_at_succ
set_option maxRecDepth 100000 in
set_option maxHeartbeats 8000000 in
theorem rNumber_any (x : UInt64) (w : World) : Calls Try.prog 127 #[.agg (nmc x)] w fun e w' => e = .returned (.int .u64 (un x)) ∧ Ext w w' := by
  have hl := nmb_length x
  obtain ⟨W0, hW0⟩ : ∃ W0, w.alloc (.cells (nmc x) 26) = W0 := ⟨_, rfl⟩
  have HB := Lib.hid (show Blk W0 w.heap.size 26 (nmc x) from by rw [← hW0]; exact Blk.new _ _ _)
  have HE := Lib.hid (show Ext w W0 from by rw [← hW0]; exact (Ext.refl w).alloc' _)
  go_enter Try.func127, Try.ntmps127
  go_wp2_with fail
  clear hW0
  go_loopw [3, 4] (fun v i wr => ∃ k : Nat, k ≤ 8 ∧ i = .int .i64 (k : Int) ∧ v = .int .u64 (beNat ((nmb x).take k)) ∧ W0 = wr) (fun _ i _ => 8 - (intOf i).toNat)
  case atStart => exact ⟨0, by omega, rfl, rfl, rfl⟩
  case round =>
    obtain ⟨k, hk, rfl, rfl, rfl⟩ := hrel
    by_cases hlt : k < 8
    · have hix : W0.cell? ⟨w.heap.size, k, none⟩ = some (.int .u8 (((nmb x).getD k 0).toNat : Int)) := by
        rw [HB.out.cell k]
        have hl := nmb_length x
        simp [nmc, bcs, bv, hl, hlt]
      have i1 : (k : Int) < 8 := by omega
      have hb := beNat_lt ((nmb x).take k)
      rw [List.length_take, hl, Nat.min_eq_left (by omega)] at hb
      have hb7 : beNat ((nmb x).take k) < 72057594037927936 := Nat.lt_of_lt_of_le hb (Nat.pow_le_pow_right (n := 256) (j := 7) (by omega) (by omega))
      have hor := or_byte _ ((nmb x).getD k 0) hb7
      have HS := Lib.hid (show beNat ((nmb x).take (k + 1)) = beNat ((nmb x).take k) * 256 + ((nmb x).getD k 0).toNat by rw [take_get _ _ (by omega), beNat_snoc])
      clear hb hb7 hl
      generalize beNat ((nmb x).take k) = a at *
      generalize (nmb x).getD k 0 = c at *
      go_wp2_with fail
      go_roundw
      case rel => exact ⟨k + 1, by omega, by go_num, by rw [HS.out]; go_num, by first | rfl | trivial⟩
      case measure => simp [intOf]; omega
    · have HS := Lib.hid (show (beNat ((nmb x).take k) : Int) = un x by rw [List.take_of_length_le (by omega), beNat_nmb]; rfl)
      have i1 : ¬ (k : Int) < 8 := by omega
      clear hl
      generalize beNat ((nmb x).take k) = a at *
      go_wp2_with fail
      go_ret
      exact ⟨by rw [← HS.out]; rfl, HE.out⟩
set_option maxRecDepth 100000 in
set_option maxHeartbeats 8000000 in
theorem rLess_any (x y : UInt64) (w : World) : Calls Try.prog 103 #[.agg (nmc x), .agg (nmc y)] w fun e w' => e = .returned (.bool (decide (un x < un y))) ∧ Ext w w' := by
  have hE := ((Ext.refl w).alloc' (.cells (nmc x) 26)).alloc' (.cells (nmc y) 26)
  have HB1 := Lib.hid ((Blk.new w 26 (nmc x)).alloc (.cells (nmc y) 26))
  have HB2 := Lib.hid (show Blk ((w.alloc (.cells (nmc x) 26)).alloc (.cells (nmc y) 26)) (w.heap.size + 1) 26 (nmc y) from Blk.newAt _ _ _ _ (by simp))
  have HE := Lib.hid hE
  obtain ⟨W0, hW0⟩ : ∃ W0, (w.alloc (.cells (nmc x) 26)).alloc (.cells (nmc y) 26) = W0 := ⟨_, rfl⟩
  rw [hW0] at HB1 HB2 HE
  have HC := Lib.hid (fun (W : World) (h : Ext W0 W) => And.intro (cells8 (HB1.out.ext h)) (cells8 (HB2.out.ext h)))
  clear hE
  go_enter Try.func103, Try.ntmps103
  go_wp2_with fail
  refine wp_region_plan (S := fun W => Ext W0 W) (by kernel_rfl) (by kernel_rfl) ((Ext.refl W0).drew') ?_
  (refine plan_take (i := 0) (oi := ⟨some 5, .load 26 (.tmp 2), 26, "ref.go:30", #[], none⟩) (v := ?_) rfl (by kernel_rfl) (by kernel_rfl) (fx_read (Or.inl ⟨by rfl, ?hy1_0⟩)) ?_; case hy1_0 => (intro W hSW; obtain ⟨c1, c2⟩ := HC.out W hSW; go_simp <;> with_reducible rfl))
  try simp only [lays]
  (refine plan_take (i := 1) (oi := ⟨some 6, .call { callee := .value (.func 127), args := #[.tmp 5], argTypes := #[26] }, 87, "ref.go:30", #[⟨0, .data⟩], none⟩) (v := ?_) rfl (by kernel_rfl) (by kernel_rfl) (fx_call (by rfl) (fun W hSW K hK => ?hy1_1)) ?_; case hy1_1 => (go_simp; go_at_call 127; (with_reducible refine (rNumber_any x W).mono ?_); rintro e w1 ⟨rfl, he1⟩; exact hK.out _ (hSW.trans he1)))
  try simp only [lays]
  (refine plan_take (i := 2) (oi := ⟨some 7, .load 26 (.tmp 3), 26, "ref.go:30", #[], none⟩) (v := ?_) rfl (by kernel_rfl) (by kernel_rfl) (fx_read (Or.inl ⟨by rfl, ?hy1_2⟩)) ?_; case hy1_2 => (intro W hSW; obtain ⟨c1, c2⟩ := HC.out W hSW; go_simp <;> with_reducible rfl))
  try simp only [lays]
  (refine plan_take (i := 3) (oi := ⟨some 8, .call { callee := .value (.func 127), args := #[.tmp 7], argTypes := #[26] }, 87, "ref.go:30", #[⟨2, .data⟩, ⟨1, .chain⟩], none⟩) (v := ?_) rfl (by kernel_rfl) (by kernel_rfl) (fx_call (by rfl) (fun W hSW K hK => ?hy1_3)) ?_; case hy1_3 => (go_simp; go_at_call 127; (with_reducible refine (rNumber_any y W).mono ?_); rintro e w1 ⟨rfl, he1⟩; exact hK.out _ (hSW.trans he1)))
  try simp only [lays]
  (refine plan_take (i := 4) (oi := ⟨some 9, .binOp .lss 87 (.tmp 6) (.tmp 8) 87, 4, "ref.go:30", #[⟨1, .data⟩, ⟨3, .data⟩], none⟩) (v := ?_) rfl (by kernel_rfl) (by kernel_rfl) (fx_read (Or.inl ⟨by rfl, ?hy1_4⟩)) ?_; case hy1_4 => (intro W hSW; go_simp <;> with_reducible rfl))
  try simp only [lays]
  (refine plan_take (i := 5) (oi := ⟨some 4, .assign (.tmp 9), 4, "ref.go:30", #[⟨4, .data⟩, ⟨3, .chain⟩, ⟨0, .phase⟩, ⟨1, .phase⟩, ⟨2, .phase⟩, ⟨3, .phase⟩, ⟨4, .phase⟩], none⟩) (v := ?_) rfl (by kernel_rfl) (by kernel_rfl) (fx_read (Or.inl ⟨by rfl, ?hy1_5⟩)) ?_; case hy1_5 => (intro W hSW; go_simp <;> with_reducible rfl))
  try simp only [lays]
  refine Plan.done (by kernel_rfl) (fun W hSW => ?_)
  have HX := Lib.hid (HE.out.trans hSW)
  clear hSW
  go_wp2_with fail
  go_ret
  exact ⟨rfl, HX.out⟩
set_option maxRecDepth 100000 in
set_option maxHeartbeats 8000000 in
theorem rVtLess_any (a b : VtR) (w : World) : Calls Try.prog 75 #[.agg (vtA a), .agg (vtA b)] w fun e w' => e = .returned (.bool (ltVt a b)) ∧ Ext w w' := by
  have hE := ((Ext.refl w).alloc' (.cells (vtA a) 28)).alloc' (.cells (vtA b) 28)
  have HB1 := Lib.hid ((Blk.new w 28 (vtA a)).alloc (.cells (vtA b) 28))
  have HB2 := Lib.hid (show Blk ((w.alloc (.cells (vtA a) 28)).alloc (.cells (vtA b) 28)) (w.heap.size + 1) 28 (vtA b) from Blk.newAt _ _ _ _ (by simp))
  have HE := Lib.hid hE
  obtain ⟨W0, hW0⟩ : ∃ W0, (w.alloc (.cells (vtA a) 28)).alloc (.cells (vtA b) 28) = W0 := ⟨_, rfl⟩
  rw [hW0] at HB1 HB2 HE
  have hsz : W0.heap.size = w.heap.size + 2 := by rw [← hW0]; simp
  have HSZ := Lib.hid hsz
  have g1 : w.heap.size < W0.heap.size := by omega
  have g2 : w.heap.size + 1 < W0.heap.size := by omega
  obtain ⟨a0, a1, a2, a3, a4, a5, a6, a7⟩ := vt_facts HB1.out
  obtain ⟨b0, b1, b2, b3, b4, b5, b6, b7⟩ := vt_facts HB2.out
  have p1 := vt_pa HB1.out
  have p2 := vt_pa HB2.out
  have hq := fun W => run_neqN a.pa b.pa W
  have hqi := fun W => eqIn_N a.pa b.pa W
  clear hE a6 a7 b6 b7 hsz
  by_cases hpa : a.pa = b.pa
  · rw [decide_eq_true hpa] at hq hqi
    rw [Bool.not_true] at hq
    have HPA := Lib.hid hpa
    clear hpa
    go_enter Try.func75, Try.ntmps75
    go_wp2_with (first | (with_reducible refine wpList_loadN rfl (.tmp 8) rfl w.heap.size 6 rfl a.pa p1 ?_) | (with_reducible refine wpList_loadN rfl (.tmp 10) rfl (w.heap.size + 1) 6 rfl b.pa p2 ?_) | (with_reducible refine wpList_newX5 rfl (.tmp 5) (.tmp 28) rfl _ rfl a rfl rfl ?_) | (with_reducible refine wpList_newX5 rfl (.tmp 6) (.tmp 39) rfl _ rfl b rfl rfl ?_))
    have HX := Lib.hid (((Blk.new W0 140 (x5A a))).alloc (.cells (x5A b) 140))
    have HY := Lib.hid (show Blk ((W0.alloc (.cells (x5A a) 140)).alloc (.cells (x5A b) 140)) (W0.heap.size + 1) 140 (x5A b) from Blk.newAt _ _ _ _ (by simp))
    have HE1 := Lib.hid (((Ext.refl W0).alloc' (.cells (x5A a) 140)).alloc' (.cells (x5A b) 140))
    clear p1 p2 hq hqi a0 a1 a2 a3 a4 a5 b0 b1 b2 b3 b4 b5 g1 g2
    generalize (W0.alloc (.cells (x5A a) 140)).alloc (.cells (x5A b) 140) = W1 at HX HY HE1 ⊢
    go_loopw [7] (fun i wr => ∃ k : Nat, k ≤ 5 ∧ i = .int .i64 (k : Int) ∧ Hid (∀ j, j < k → x5n a j = x5n b j) ∧ Hid (Ext W1 wr)) (fun i _ => 5 - (intOf i).toNat)
    case atStart => exact ⟨0, by omega, rfl, Lib.hid (fun j hj => by omega), Lib.hid (Ext.refl _)⟩
    case round =>
      obtain ⟨k, hk, rfl, HP, HZ⟩ := hrel
      by_cases hlt : k < 5
      · have hx := x5_at (HX.out.ext HZ.out) hlt
        have hy := x5_at (HY.out.ext HZ.out) hlt
        have i0 : (0 : Int) ≤ (k : Int) := by omega
        have i1 : (k : Int) < 5 := by omega
        by_cases hne : x5n a k = x5n b k
        · have HP' := Lib.hid (show ∀ j, j < k + 1 → x5n a j = x5n b j from fun j hj => by
            rcases Nat.lt_or_ge j k with h | h
            · exact HP.out j h
            · obtain rfl : j = k := by omega
              exact hne)
          obtain ⟨z, hz⟩ : ∃ z, x5n a k = z := ⟨_, rfl⟩
          rw [hz] at hx hne
          rw [← hne] at hy
          clear hz hne
          have hz : (z != z) = false := by simp
          go_wp2_with fail
          go_quiet ((fail))
          go_wp2_with fail
          go_roundw
          case rel => exact ⟨k + 1, by omega, by go_num, HP', Lib.hid (below_drewN HZ.out _)⟩
          case measure => simp [intOf]; omega
        · have HV := Lib.hid (ltVt_x5 HPA.out hlt HP.out hne)
          obtain ⟨z, hz⟩ : ∃ z, x5n a k = z := ⟨_, rfl⟩
          obtain ⟨y, hyy⟩ : ∃ y, x5n b k = y := ⟨_, rfl⟩
          rw [hz, hyy] at HV hne
          rw [hz] at hx
          rw [hyy] at hy
          have hzy : (z != y) = true := bne_iff_ne.2 hne
          have HZZ := Lib.hid hz
          have HYY := Lib.hid hyy
          clear hz hyy
          go_wp2_with fail
          go_quiet ((fail))
          have HZ2 := Lib.hid (below_drewN HZ.out nq)
          clear hx hy HZ
          generalize wr.drewN nq = W2 at HZ2 ⊢
          have hx := x5_at (HX.out.ext HZ2.out) hlt
          have hy := x5_at (HY.out.ext HZ2.out) hlt
          rw [HZZ.out] at hx
          rw [HYY.out] at hy
          go_wp2_with fail
          go_quiet ((fail))
          go_wp2_with fail
          go_ret
          exact ⟨by rw [HV.out]; rfl, HE.out.trans (HE1.out.trans (below_drewN HZ2.out _))⟩
      · obtain rfl : k = 5 := by omega
        have HE2 := Lib.hid (HE1.out.trans HZ.out)
        have HW := Lib.hid (HE.out.trans HE2.out)
        have p1 := vt_va (HB1.out.ext HE2.out)
        have p2 := vt_va (HB2.out.ext HE2.out)
        obtain ⟨a0, a1, a2, a3, a4, a5, a6, a7⟩ := vt_facts (HB1.out.ext HE2.out)
        obtain ⟨b0, b1, b2, b3, b4, b5, b6, b7⟩ := vt_facts (HB2.out.ext HE2.out)
        clear a0 a1 a2 a3 a4 a6 a7 b0 b1 b2 b3 b4 b6 b7
        have hq := fun W => run_neqN a.va b.va W
        have hqi := fun W => eqIn_N a.va b.va W
        by_cases hva : a.va = b.va
        · have HV := Lib.hid (ltVt_su HPA.out HP.out hva)
          rw [decide_eq_true hva] at hq hqi
          rw [Bool.not_true] at hq
          clear hva
          go_wp2_with (first | (with_reducible refine wpList_loadN rfl (.tmp 58) rfl w.heap.size 14 rfl a.va p1 ?_) | (with_reducible refine wpList_loadN rfl (.tmp 60) rfl (w.heap.size + 1) 14 rfl b.va p2 ?_))
          go_ret
          exact ⟨by rw [HV.out]; rfl, HW.out⟩
        · have HV := Lib.hid (ltVt_va HPA.out HP.out hva)
          rw [decide_eq_false hva] at hq hqi
          rw [Bool.not_false] at hq
          clear hva
          go_wp2_with (first | (with_reducible refine wpList_loadN rfl (.tmp 58) rfl w.heap.size 14 rfl a.va p1 ?_) | (with_reducible refine wpList_loadN rfl (.tmp 60) rfl (w.heap.size + 1) 14 rfl b.va p2 ?_) | (with_reducible refine wpList_loadN rfl (.tmp 63) rfl w.heap.size 14 rfl a.va p1 ?_) | (with_reducible refine wpList_loadN rfl (.tmp 65) rfl (w.heap.size + 1) 14 rfl b.va p2 ?_))
          refine (rLess_any a.va b.va wr).mono ?_
          rintro e w1 ⟨rfl, he1⟩
          have HX1 := Lib.hid (HW.out.trans he1)
          clear he1
          go_wp2_with fail
          go_ret
          exact ⟨by rw [HV.out]; rfl, HX1.out⟩
  · have HV := Lib.hid (ltVt_pa hpa)
    rw [decide_eq_false hpa] at hq hqi
    rw [Bool.not_false] at hq
    clear hpa
    go_enter Try.func75, Try.ntmps75
    go_wp2_with (first | (with_reducible refine wpList_loadN rfl (.tmp 8) rfl w.heap.size 6 rfl a.pa p1 ?_) | (with_reducible refine wpList_loadN rfl (.tmp 10) rfl (w.heap.size + 1) 6 rfl b.pa p2 ?_) | (with_reducible refine wpList_loadN rfl (.tmp 13) rfl w.heap.size 6 rfl a.pa p1 ?_) | (with_reducible refine wpList_loadN rfl (.tmp 15) rfl (w.heap.size + 1) 6 rfl b.pa p2 ?_))
    refine (rLess_any a.pa b.pa W0).mono ?_
    rintro e w1 ⟨rfl, he1⟩
    have HX := Lib.hid (HE.out.trans he1)
    clear he1
    go_wp2_with fail
    go_ret
    exact ⟨by rw [HV.out]; rfl, HX.out⟩
end Go.Proofs.Ytjlnmpjffogpdaa
