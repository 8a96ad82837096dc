/- The order of names (the program's). -/
import Derived.Test.YtjlnmpjffogpdaaK13
import Derived.Test.YtjlnmpjffogpdaaK01
import Derived.Test.YtjlnmpjffogpdaaK15
import Derived.Test.YtjlnmpjffogpdaaK09
import Derived.Test.YtjlnmpjffogpdaaK16
import Derived.Test.YtjlnmpjffogpdaaLay
namespace Go.Proofs.Ytjlnmpjffogpdaa
open Go.RowKit
set_option linter.unusedVariables false
set_option linter.unusedSimpArgs false
attribute [local go_sem ↓] Go.wp_at_zero Go.wp_at_succ
set_option maxRecDepth 100000 in
set_option maxHeartbeats 8000000 in
theorem hLess_any (x y : UInt64) (w : World) : Calls Try.prog 136 #[.agg (nmc x), .agg (nmc y)] w fun e w' => e = .returned (.bool (decide (un x < un y))) ∧ Ext w w' := by
  have hE := ((Ext.refl w).alloc' (.cells (nmc x) 26)).alloc' (.cells (nmc y) 26)
  have HB1 := Lib.hid ((Blk.new w 26 (nmc x)).alloc (.cells (nmc y) 26))
  have HB2 := Lib.hid (show Blk ((w.alloc (.cells (nmc x) 26)).alloc (.cells (nmc y) 26)) (w.heap.size + 1) 26 (nmc y) from Blk.newAt _ _ _ _ (by simp))
  have HE := Lib.hid hE
  obtain ⟨W0, hW0⟩ : ∃ W0, (w.alloc (.cells (nmc x) 26)).alloc (.cells (nmc y) 26) = W0 := ⟨_, rfl⟩
  rw [hW0] at HB1 HB2 HE
  have HC := Lib.hid (fun (W : World) (h : Ext W0 W) => And.intro (cells8 (HB1.out.ext h)) (cells8 (HB2.out.ext h)))
  clear hE
  have hq := fun W => run_eqN x y W
  obtain ⟨c1, c2⟩ := HC.out W0 (Ext.refl _)
  by_cases hxy : x = y
  · have HV := Lib.hid (show decide (un x < un y) = false by rw [hxy]; simp)
    rw [decide_eq_true hxy] at hq
    clear hxy
    go_enter Try.func136, Try.ntmps136
    go_wp2_with fail
    go_ret
    exact ⟨by rw [HV.out]; rfl, HE.out⟩
  · rw [decide_eq_false hxy] at hq
    clear hxy
    go_enter Try.func136, Try.ntmps136
    go_wp2_with fail
    clear c1 c2 hq
    refine wp_region_plan (S := fun W => Ext W0 W) (by kernel_rfl) (by kernel_rfl) ((Ext.refl W0).drew') ?_
    (refine plan_take (i := 0) (oi := ⟨some 8, .load 26 (.tmp 2), 26, "hash.go:47", #[], none⟩) (v := ?_) rfl (by kernel_rfl) (by kernel_rfl) (fx_read (Or.inl ⟨by rfl, ?hy0⟩)) ?_; case hy0 => (intro W hSW; obtain ⟨c1, c2⟩ := HC.out W hSW; go_simp <;> with_reducible rfl))
    try simp only [lays]
    (refine plan_take (i := 1) (oi := ⟨some 9, .call { callee := .value (.func 133), args := #[.tmp 8], argTypes := #[26] }, 87, "hash.go:47", #[⟨0, .data⟩], none⟩) (v := ?_) rfl (by kernel_rfl) (by kernel_rfl) (fx_call (by rfl) (fun W hSW K hK => ?hy1)) ?_; case hy1 => (go_simp; go_at_call 133; (with_reducible refine (number_any x W).mono ?_); rintro e w1 ⟨rfl, he1⟩; exact hK.out _ (hSW.trans he1)))
    try simp only [lays]
    (refine plan_take (i := 2) (oi := ⟨some 10, .load 26 (.tmp 3), 26, "hash.go:47", #[], none⟩) (v := ?_) rfl (by kernel_rfl) (by kernel_rfl) (fx_read (Or.inl ⟨by rfl, ?hy2⟩)) ?_; case hy2 => (intro W hSW; obtain ⟨c1, c2⟩ := HC.out W hSW; go_simp <;> with_reducible rfl))
    try simp only [lays]
    (refine plan_take (i := 3) (oi := ⟨some 11, .call { callee := .value (.func 133), args := #[.tmp 10], argTypes := #[26] }, 87, "hash.go:47", #[⟨2, .data⟩, ⟨1, .chain⟩], none⟩) (v := ?_) rfl (by kernel_rfl) (by kernel_rfl) (fx_call (by rfl) (fun W hSW K hK => ?hy3)) ?_; case hy3 => (go_simp; go_at_call 133; (with_reducible refine (number_any y W).mono ?_); rintro e w1 ⟨rfl, he1⟩; exact hK.out _ (hSW.trans he1)))
    try simp only [lays]
    (refine plan_take (i := 4) (oi := ⟨some 12, .binOp .lss 87 (.tmp 9) (.tmp 11) 87, 4, "hash.go:47", #[⟨1, .data⟩, ⟨3, .data⟩], none⟩) (v := ?_) rfl (by kernel_rfl) (by kernel_rfl) (fx_read (Or.inl ⟨by rfl, ?hy4⟩)) ?_; case hy4 => (intro W hSW; go_simp <;> with_reducible rfl))
    try simp only [lays]
    (refine plan_take (i := 5) (oi := ⟨some 4, .assign (.tmp 12), 4, "hash.go:47", #[⟨4, .data⟩, ⟨3, .chain⟩, ⟨0, .phase⟩, ⟨1, .phase⟩, ⟨2, .phase⟩, ⟨3, .phase⟩, ⟨4, .phase⟩], none⟩) (v := ?_) rfl (by kernel_rfl) (by kernel_rfl) (fx_read (Or.inl ⟨by rfl, ?hy5⟩)) ?_; case hy5 => (intro W hSW; go_simp <;> with_reducible rfl))
    try simp only [lays]
    refine Plan.done (by kernel_rfl) (fun W hSW => ?_)
    have HX := Lib.hid (HE.out.trans hSW)
    clear hSW
    go_wp2_with fail
    go_ret
    exact ⟨rfl, HX.out⟩
end Go.Proofs.Ytjlnmpjffogpdaa

/- Votes, signed votes, texts and views that came in. -/
namespace Go.Proofs.Ytjlnmpjffogpdaa
open Go.ChangeShapes Go.WideShapes Go.ChangeAt Go.RowKit Go.Deep
set_option linter.unusedVariables false
set_option linter.unusedSimpArgs false

theorem cellsMk1 : Try.prog.cellsOf 24 = 1 := by kernel_rfl
theorem cellsVt22 : Try.prog.cellsOf 28 = 22 := by kernel_rfl
theorem cellsSg23 : Try.prog.cellsOf 45 = 23 := by kernel_rfl
theorem cellsSSg1 : Try.prog.cellsOf 29 = 1 := by kernel_rfl
theorem cellsSTe1 : Try.prog.cellsOf 30 = 1 := by kernel_rfl
theorem cellsVw2 : Try.prog.cellsOf 32 = 2 := by kernel_rfl
theorem listOf8 {α : Type} {l : List α} (h : l.length = 8) : ∃ x0 x1 x2 x3 x4 x5 x6 x7, l = [x0, x1, x2, x3, x4, x5, x6, x7] := by
  match l, h with
  | [x0, x1, x2, x3, x4, x5, x6, x7], _ => exact ⟨x0, x1, x2, x3, x4, x5, x6, x7, rfl⟩
section
variable {H : Type} {enc : TypeId × Value → H} {w : World} {base fuel : Nat} {held : Bool} {cs : List Value} {x : DataW H × List MemPlace}
theorem spot_slice {a : Addr} {A : Option Addr} {n c : Nat} (h : w.cell? a = some (.slice A n c)) : a.spot = none := by
  unfold World.cell? at h
  cases hs : a.spot with
  | none => rfl
  | some p => rw [hs] at h; split at h <;> simp at h
set_option maxRecDepth 100000 in
/-- the cells of a vote that came in -/
theorem open_vtc (h : DataW.trod enc Try.prog w base (fun _ => true) held fuel 28 cs = some x) : ∃ v : VtR, cs = vtL v ∧ v.wf := by
  obtain ⟨xs, m, _, _, hl, hxl, hg⟩ := DataW.trod_struct Try.underlying28 h
  rw [cellsVt22] at hl
  obtain ⟨x0, x1, x2, x3, x4, x5, x6, x7, rfl⟩ := listOf8 (show xs.length = 8 from hxl)
  have h0 : DataW.trod enc Try.prog w base (fun _ => true) held m 3 ((cs.drop 0).take (Try.prog.cellsOf 3)) = some x0 := hg 0 _ rfl
  rw [cellsI1] at h0
  have h1 : DataW.trod enc Try.prog w base (fun _ => true) held m 3 ((cs.drop 1).take (Try.prog.cellsOf 3)) = some x1 := hg 1 _ rfl
  rw [cellsI1] at h1
  have h2 : DataW.trod enc Try.prog w base (fun _ => true) held m 3 ((cs.drop 2).take (Try.prog.cellsOf 3)) = some x2 := hg 2 _ rfl
  rw [cellsI1] at h2
  have h3 : DataW.trod enc Try.prog w base (fun _ => true) held m 3 ((cs.drop 3).take (Try.prog.cellsOf 3)) = some x3 := hg 3 _ rfl
  rw [cellsI1] at h3
  have h4 : DataW.trod enc Try.prog w base (fun _ => true) held m 3 ((cs.drop 4).take (Try.prog.cellsOf 3)) = some x4 := hg 4 _ rfl
  rw [cellsI1] at h4
  have h5 : DataW.trod enc Try.prog w base (fun _ => true) held m 24 ((cs.drop 5).take (Try.prog.cellsOf 24)) = some x5 := hg 5 _ rfl
  rw [cellsMk1] at h5
  have h6 : DataW.trod enc Try.prog w base (fun _ => true) held m 26 ((cs.drop 6).take (Try.prog.cellsOf 26)) = some x6 := hg 6 _ rfl
  rw [cellsNm] at h6
  have h7 : DataW.trod enc Try.prog w base (fun _ => true) held m 26 ((cs.drop 14).take (Try.prog.cellsOf 26)) = some x7 := hg 7 _ rfl
  rw [cellsNm] at h7
  obtain ⟨k, e0, _, w0⟩ := DataW.trod_int Try.underlying3 h0
  obtain ⟨sl, e1, _, w1⟩ := DataW.trod_int Try.underlying3 h1
  obtain ⟨ro, e2, _, w2⟩ := DataW.trod_int Try.underlying3 h2
  obtain ⟨ch, e3, _, w3⟩ := DataW.trod_int Try.underlying3 h3
  obtain ⟨si, e4, _, w4⟩ := DataW.trod_int Try.underlying3 h4
  obtain ⟨su, e5, _, w5⟩ := DataW.trod_int Try.underlying24 h5
  obtain ⟨pa, e6⟩ := open_nmc h6
  rw [nmc_toList, bcs_nb8] at e6
  obtain ⟨va, e7⟩ := open_nmc h7
  rw [nmc_toList, bcs_nb8] at e7
  refine ⟨⟨k, sl, ro, ch, si, su, pa, va⟩, ?_, ⟨w0, w1, w2, w3, w4, w5⟩⟩
  have e : cs = cs.drop 0 := rfl
  rw [e, cut_at cs (0) 1, e0, cut_at cs (0 + 1) 1, e1, cut_at cs (0 + 1 + 1) 1, e2, cut_at cs (0 + 1 + 1 + 1) 1, e3, cut_at cs (0 + 1 + 1 + 1 + 1) 1, e4, cut_at cs (0 + 1 + 1 + 1 + 1 + 1) 1, e5, cut_at cs (0 + 1 + 1 + 1 + 1 + 1 + 1) 8, e6, cut_at cs (0 + 1 + 1 + 1 + 1 + 1 + 1 + 8) 8, e7, List.drop_of_length_le (by omega)]
  rfl
set_option maxRecDepth 100000 in
/-- the cells of a signed vote that came in -/
theorem open_sgc (h : DataW.trod enc Try.prog w base (fun _ => true) held fuel 45 cs = some x) : ∃ S : SgR, cs = sgL S ∧ S.ok w := by
  obtain ⟨xs, m, _, _, hl, hxl, hg⟩ := DataW.trod_struct Try.underlying45 h
  rw [cellsSg23] at hl
  obtain ⟨x0, x1, rfl⟩ := list2 (show xs.length = 2 from hxl)
  have h0 : DataW.trod enc Try.prog w base (fun _ => true) held m 28 ((cs.drop 0).take (Try.prog.cellsOf 28)) = some x0 := hg 0 _ rfl
  rw [cellsVt22] at h0
  have h1 : DataW.trod enc Try.prog w base (fun _ => true) held m 33 ((cs.drop 22).take (Try.prog.cellsOf 33)) = some x1 := hg 1 _ rfl
  rw [cellsSB] at h1
  obtain ⟨v, e0, w0⟩ := open_vtc h0
  obtain ⟨A, n, c, sig, e1, w1⟩ := open_rowB h1
  refine ⟨⟨v, A, n, c, sig⟩, ?_, ⟨w0, w1⟩⟩
  have e : cs = cs.drop 0 := rfl
  rw [e, cut_at cs (0) 22, e0, cut_at cs (0 + 22) 1, e1, List.drop_of_length_le (by omega)]
  rfl
end
end Go.Proofs.Ytjlnmpjffogpdaa

/- An element put where it belongs, by its place (plain). -/
namespace Go.Proofs.Ytjlnmpjffogpdaa
set_option linter.unusedVariables false
set_option linter.unusedSimpArgs false
section
variable {β : Type} [DecidableEq β] {lt : β → β → Bool}
theorem insO_at (x : β) : ∀ (L : List β) (k : Nat), k ≤ L.length → (∀ j (h : j < k) (hl : j < L.length), lt L[j] x = true) → (∀ (h : k < L.length), lt L[k] x = false ∧ L[k] ≠ x) → insO lt x L = L.take k ++ x :: L.drop k
  | [], 0, _, _, _ => rfl
  | y :: r, 0, _, _, h2 => by
    obtain ⟨h3, h4⟩ := h2 (by simp)
    simp only [List.getElem_cons_zero] at h3 h4
    unfold insO
    rw [if_neg (by rw [h3]; simp), if_neg h4]; rfl
  | y :: r, k + 1, hk, h1, h2 => by
    have h0 := h1 0 (by omega) (by simp)
    simp only [List.getElem_cons_zero] at h0
    have ih := insO_at x r k (by simpa using hk) (fun j hj hl => h1 (j + 1) (by omega) (by simpa using hl)) (fun h => h2 (by simpa using h))
    unfold insO
    rw [if_pos h0, ih]; rfl
theorem insO_eq (x : β) : ∀ (L : List β) (k : Nat) (hk : k < L.length), (∀ j (h : j < k) (hl : j < L.length), lt L[j] x = true) → lt L[k] x = false → L[k] = x → insO lt x L = L
  | [], _, hk, _, _, _ => by simp at hk
  | y :: r, 0, _, _, h2, h3 => by
    simp only [List.getElem_cons_zero] at h2 h3
    unfold insO
    rw [if_neg (by rw [h2]; simp), if_pos h3]
  | y :: r, k + 1, hk, h1, h2, h3 => by
    have h0 := h1 0 (by omega) (by simp)
    simp only [List.getElem_cons_zero] at h0
    have ih := insO_eq x r k (by simpa using hk) (fun j hj hl => h1 (j + 1) (by omega) (by simpa using hl)) h2 h3
    unfold insO
    rw [if_pos h0, ih]
theorem canonO_snoc (L : List β) (x : β) : canonO lt (L ++ [x]) = insO lt x (canonO lt L) := by unfold canonO insAll; rw [List.foldl_append]; rfl
end
end Go.Proofs.Ytjlnmpjffogpdaa

/- The order of votes (the program's). -/
namespace Go.Proofs.Ytjlnmpjffogpdaa
open Go.RowKit
set_option linter.unusedVariables false
set_option linter.unusedSimpArgs false
attribute [local go_sem ↓] Go.wp_at_zero Go.wp_at_succ

theorem eqIn_N (a b : UInt64) (w : World) : (Op.equalIn 10000 26 (.agg (nmc a)) (.agg (nmc b))).run Try.prog w = .ok (decide (a = b)) w := by
  have := run_eqN a b w
  rw [run_eql_struct] at this
  cases h : (Op.equalIn 10000 26 (.agg (nmc a)) (.agg (nmc b))).run Try.prog w with
  | ok r w' => rw [h] at this; simp at this; obtain ⟨h1, h2⟩ := this; subst h1; subst h2; rfl
  | _ => rw [h] at this; simp at this
theorem run_neqN (a b : UInt64) (w : World) : (binOp .neq 26 (.agg (nmc a)) (.agg (nmc b))).run Try.prog w = .ok (.bool (!decide (a = b))) w := by
  rw [run_neq_struct, eqIn_N a b w]
  rfl
def x5 (v : VtR) : List Int := [v.sl, v.ro, v.k, v.si, v.ch]
abbrev x5A (v : VtR) : Array Value := #[.int .i64 v.sl, .int .i64 v.ro, .int .i64 v.k, .int .i64 v.si, .int .i64 v.ch]
def x5n (v : VtR) (i : Nat) : Int := (x5 v).getD i 0
theorem ltVt_pa {a b : VtR} (h : a.pa ≠ b.pa) : ltVt a b = decide (un a.pa < un b.pa) := by
  unfold ltVt vtKey lexI
  rw [if_neg (fun e => h (un_inj e))]
theorem ltVt_x5 {a b : VtR} (h : a.pa = b.pa) {k : Nat} (hk : k < 5) (he : ∀ j, j < k → x5n a j = x5n b j) (hn : x5n a k ≠ x5n b k) : ltVt a b = decide (x5n a k < x5n b k) := by
  have e0 : 0 < k → a.sl = b.sl := fun h => he 0 h
  have e1 : 1 < k → a.ro = b.ro := fun h => he 1 h
  have e2 : 2 < k → a.k = b.k := fun h => he 2 h
  have e3 : 3 < k → a.si = b.si := fun h => he 3 h
  unfold ltVt vtKey
  rcases (by omega : k = 0 ∨ k = 1 ∨ k = 2 ∨ k = 3 ∨ k = 4) with rfl | rfl | rfl | rfl | rfl
  · have hn' : a.sl ≠ b.sl := hn
    simp only [lexI, h, if_true, if_neg hn']; rfl
  · have hn' : a.ro ≠ b.ro := hn
    simp only [lexI, h, e0 (by omega), if_true, if_neg hn']; rfl
  · have hn' : a.k ≠ b.k := hn
    simp only [lexI, h, e0 (by omega), e1 (by omega), if_true, if_neg hn']; rfl
  · have hn' : a.si ≠ b.si := hn
    simp only [lexI, h, e0 (by omega), e1 (by omega), e2 (by omega), if_true, if_neg hn']; rfl
  · have hn' : a.ch ≠ b.ch := hn
    simp only [lexI, h, e0 (by omega), e1 (by omega), e2 (by omega), e3 (by omega), if_true, if_neg hn']; rfl
theorem ltVt_va {a b : VtR} (h : a.pa = b.pa) (he : ∀ j, j < 5 → x5n a j = x5n b j) (hn : a.va ≠ b.va) : ltVt a b = decide (un a.va < un b.va) := by
  have e0 : a.sl = b.sl := he 0 (by omega)
  have e1 : a.ro = b.ro := he 1 (by omega)
  have e2 : a.k = b.k := he 2 (by omega)
  have e3 : a.si = b.si := he 3 (by omega)
  have e4 : a.ch = b.ch := he 4 (by omega)
  unfold ltVt vtKey
  simp only [lexI, h, e0, e1, e2, e3, e4, if_true, if_neg (fun e => hn (un_inj e) : ¬ un a.va = un b.va)]
theorem ltVt_su {a b : VtR} (h : a.pa = b.pa) (he : ∀ j, j < 5 → x5n a j = x5n b j) (hn : a.va = b.va) : ltVt a b = decide (a.su < b.su) := by
  have e0 : a.sl = b.sl := he 0 (by omega)
  have e1 : a.ro = b.ro := he 1 (by omega)
  have e2 : a.k = b.k := he 2 (by omega)
  have e3 : a.si = b.si := he 3 (by omega)
  have e4 : a.ch = b.ch := he 4 (by omega)
  unfold ltVt vtKey
  simp only [lexI, h, e0, e1, e2, e3, e4, hn, if_true]
  split
  · rename_i e; rw [e]; simp
  · rfl
theorem vt_pa {w : World} {g : Nat} {t : TypeId} {v : VtR} (h : Blk w g t (vtA v)) : w.rangeAt g 6 (bcs (nmb v.pa)) := by
  have h1 := rangeAt_take (k := 8) (rangeAt_drop (k := 6) (rangeAt_of_blk h))
  rw [bcs_nb8, ← Nat.zero_add 6]
  exact h1
theorem vt_va {w : World} {g : Nat} {t : TypeId} {v : VtR} (h : Blk w g t (vtA v)) : w.rangeAt g 14 (bcs (nmb v.va)) := by
  have h1 := rangeAt_take (k := 8) (rangeAt_drop (k := 14) (rangeAt_of_blk h))
  rw [bcs_nb8, ← Nat.zero_add 14]
  exact h1
def x5L (v : VtR) : List Value := (x5A v).toList
theorem x5L_one (v : VtR) : ∀ u ∈ x5L v, u.oneCell' = true := by
  intro u hu
  simp only [x5L, List.mem_cons, List.not_mem_nil, or_false] at hu
  rcases hu with rfl | rfl | rfl | rfl | rfl <;> rfl
theorem x5A_all (v : VtR) : (x5A v).all (·.oneCell') = true := all_oneCell_toArray (x5L_one v)
theorem wpList_newX5 {o : Oper} {a : Act} {w : World} {ops : Array Oper} {rest : List Oper} {Q : Exit → Act → World → Prop} (hgd : o.guard = none) (x y : Operand) (ho : o.op = .store 140 x y) (cs : Array Value) (hcs : cs.size = 5) (R : VtR) (hx : a.eval x = .pointer (some ⟨w.heap.size, 0, none⟩)) (hy : a.eval y = .agg (x5A R))
    (h : wpList Try.prog ops Q rest (a.put o.dst undef) (w.alloc (.cells (x5A R) 140))) : wpList Try.prog ops Q (o :: rest) a (w.alloc (.cells cs 140)) := by
  have ht := there_of_blk (Blk.new w 140 cs)
  rw [hcs] at ht
  refine wpList_store_mid hgd 140 x y ho w.heap.size 0 (x5A R) hx hy ht (by kernel_rfl) (x5A_all R) ?_
  rw [setCells_whole w 140 cs (x5A R) (by rw [hcs]; rfl)]
  exact h
theorem x5_at {w : World} {g : Nat} {t : TypeId} {v : VtR} (h : Blk w g t (x5A v)) {k : Nat} (hk : k < 5) : w.cell? ⟨g, k, none⟩ = some (.int .i64 (x5n v k)) := by
  rcases (by omega : k = 0 ∨ k = 1 ∨ k = 2 ∨ k = 3 ∨ k = 4) with rfl | rfl | rfl | rfl | rfl <;> exact h.cell _
set_option maxRecDepth 100000 in
set_option maxHeartbeats 8000000 in
theorem vtLess_any (a b : VtR) (w : World) : Calls Try.prog 116 #[.agg (vtA a), .agg (vtA b)] w fun e w' => e = .returned (.bool (ltVt a b)) ∧ Ext w w' := by
  have hE := ((Ext.refl w).alloc' (.cells (vtA a) 28)).alloc' (.cells (vtA b) 28)
  have HB1 := Lib.hid ((Blk.new w 28 (vtA a)).alloc (.cells (vtA b) 28))
  have HB2 := Lib.hid (show Blk ((w.alloc (.cells (vtA a) 28)).alloc (.cells (vtA b) 28)) (w.heap.size + 1) 28 (vtA b) from Blk.newAt _ _ _ _ (by simp))
  have HE := Lib.hid hE
  obtain ⟨W0, hW0⟩ : ∃ W0, (w.alloc (.cells (vtA a) 28)).alloc (.cells (vtA b) 28) = W0 := ⟨_, rfl⟩
  rw [hW0] at HB1 HB2 HE
  have hsz : W0.heap.size = w.heap.size + 2 := by rw [← hW0]; simp
  have HSZ := Lib.hid hsz
  have g1 : w.heap.size < W0.heap.size := by omega
  have g2 : w.heap.size + 1 < W0.heap.size := by omega
  obtain ⟨a0, a1, a2, a3, a4, a5, a6, a7⟩ := vt_facts HB1.out
  obtain ⟨b0, b1, b2, b3, b4, b5, b6, b7⟩ := vt_facts HB2.out
  have p1 := vt_pa HB1.out
  have p2 := vt_pa HB2.out
  have hq := fun W => run_neqN a.pa b.pa W
  have hqi := fun W => eqIn_N a.pa b.pa W
  clear hE a6 a7 b6 b7 hsz
  by_cases hpa : a.pa = b.pa
  · rw [decide_eq_true hpa] at hq hqi
    rw [Bool.not_true] at hq
    have HPA := Lib.hid hpa
    clear hpa
    go_enter Try.func116, Try.ntmps116
    go_wp2_with (first | (with_reducible refine wpList_loadN rfl (.tmp 8) rfl w.heap.size 6 rfl a.pa p1 ?_) | (with_reducible refine wpList_loadN rfl (.tmp 10) rfl (w.heap.size + 1) 6 rfl b.pa p2 ?_) | (with_reducible refine wpList_newX5 rfl (.tmp 5) (.tmp 28) rfl _ rfl a rfl rfl ?_) | (with_reducible refine wpList_newX5 rfl (.tmp 6) (.tmp 39) rfl _ rfl b rfl rfl ?_))
    have HX := Lib.hid (((Blk.new W0 140 (x5A a))).alloc (.cells (x5A b) 140))
    have HY := Lib.hid (show Blk ((W0.alloc (.cells (x5A a) 140)).alloc (.cells (x5A b) 140)) (W0.heap.size + 1) 140 (x5A b) from Blk.newAt _ _ _ _ (by simp))
    have HE1 := Lib.hid (((Ext.refl W0).alloc' (.cells (x5A a) 140)).alloc' (.cells (x5A b) 140))
    clear p1 p2 hq hqi a0 a1 a2 a3 a4 a5 b0 b1 b2 b3 b4 b5 g1 g2
    generalize (W0.alloc (.cells (x5A a) 140)).alloc (.cells (x5A b) 140) = W1 at HX HY HE1 ⊢
    go_loopw [40, 7] (fun i _ wr => ∃ k : Nat, k ≤ 5 ∧ i = .int .i64 (k : Int) ∧ Hid (∀ j, j < k → x5n a j = x5n b j) ∧ Hid (Ext W1 wr)) (fun i _ _ => 5 - (intOf i).toNat)
    case atStart => exact ⟨0, by omega, rfl, Lib.hid (fun j hj => by omega), Lib.hid (Ext.refl _)⟩
    case round =>
      obtain ⟨k, hk, rfl, HP, HZ⟩ := hrel
      by_cases hlt : k < 5
      · have hx := x5_at (HX.out.ext HZ.out) hlt
        have hy := x5_at (HY.out.ext HZ.out) hlt
        have i0 : (0 : Int) ≤ (k : Int) := by omega
        have i1 : (k : Int) < 5 := by omega
        by_cases hne : x5n a k = x5n b k
        · have HP' := Lib.hid (show ∀ j, j < k + 1 → x5n a j = x5n b j from fun j hj => by
            rcases Nat.lt_or_ge j k with h | h
            · exact HP.out j h
            · obtain rfl : j = k := by omega
              exact hne)
          obtain ⟨z, hz⟩ : ∃ z, x5n a k = z := ⟨_, rfl⟩
          rw [hz] at hx hne
          rw [← hne] at hy
          clear hz hne
          have hz : (z != z) = false := by simp
          go_wp2_with fail
          go_quiet ((fail))
          go_wp2_with fail
          go_roundw
          case rel => exact ⟨k + 1, by omega, by go_num, HP', Lib.hid (below_drewN HZ.out _)⟩
          case measure => simp [intOf]; omega
        · have HV := Lib.hid (ltVt_x5 HPA.out hlt HP.out hne)
          obtain ⟨z, hz⟩ : ∃ z, x5n a k = z := ⟨_, rfl⟩
          obtain ⟨y, hyy⟩ : ∃ y, x5n b k = y := ⟨_, rfl⟩
          rw [hz, hyy] at HV hne
          rw [hz] at hx
          rw [hyy] at hy
          have hzy : (z != y) = true := bne_iff_ne.2 hne
          have HZZ := Lib.hid hz
          have HYY := Lib.hid hyy
          clear hz hyy
          go_wp2_with fail
          go_quiet ((fail))
          have HZ2 := Lib.hid (below_drewN HZ.out nq)
          clear hx hy HZ
          generalize wr.drewN nq = W2 at HZ2 ⊢
          have hx := x5_at (HX.out.ext HZ2.out) hlt
          have hy := x5_at (HY.out.ext HZ2.out) hlt
          rw [HZZ.out] at hx
          rw [HYY.out] at hy
          go_wp2_with fail
          go_quiet ((fail))
          go_wp2_with fail
          go_ret
          exact ⟨by rw [HV.out]; rfl, HE.out.trans (HE1.out.trans (below_drewN HZ2.out _))⟩
      · obtain rfl : k = 5 := by omega
        have HE2 := Lib.hid (HE1.out.trans HZ.out)
        have HW := Lib.hid (HE.out.trans HE2.out)
        have p1 := vt_va (HB1.out.ext HE2.out)
        have p2 := vt_va (HB2.out.ext HE2.out)
        obtain ⟨a0, a1, a2, a3, a4, a5, a6, a7⟩ := vt_facts (HB1.out.ext HE2.out)
        obtain ⟨b0, b1, b2, b3, b4, b5, b6, b7⟩ := vt_facts (HB2.out.ext HE2.out)
        clear a0 a1 a2 a3 a4 a6 a7 b0 b1 b2 b3 b4 b6 b7
        have hq := fun W => run_neqN a.va b.va W
        have hqi := fun W => eqIn_N a.va b.va W
        by_cases hva : a.va = b.va
        · have HV := Lib.hid (ltVt_su HPA.out HP.out hva)
          rw [decide_eq_true hva] at hq hqi
          rw [Bool.not_true] at hq
          clear hva
          go_wp2_with (first | (with_reducible refine wpList_loadN rfl (.tmp 58) rfl w.heap.size 14 rfl a.va p1 ?_) | (with_reducible refine wpList_loadN rfl (.tmp 60) rfl (w.heap.size + 1) 14 rfl b.va p2 ?_))
          go_ret
          exact ⟨by rw [HV.out]; rfl, HW.out⟩
        · have HV := Lib.hid (ltVt_va HPA.out HP.out hva)
          rw [decide_eq_false hva] at hq hqi
          rw [Bool.not_false] at hq
          clear hva
          go_wp2_with (first | (with_reducible refine wpList_loadN rfl (.tmp 58) rfl w.heap.size 14 rfl a.va p1 ?_) | (with_reducible refine wpList_loadN rfl (.tmp 60) rfl (w.heap.size + 1) 14 rfl b.va p2 ?_) | (with_reducible refine wpList_loadN rfl (.tmp 63) rfl w.heap.size 14 rfl a.va p1 ?_) | (with_reducible refine wpList_loadN rfl (.tmp 65) rfl (w.heap.size + 1) 14 rfl b.va p2 ?_))
          refine (hLess_any a.va b.va wr).mono ?_
          rintro e w1 ⟨rfl, he1⟩
          have HX1 := Lib.hid (HW.out.trans he1)
          clear he1
          go_wp2_with fail
          go_ret
          exact ⟨by rw [HV.out]; rfl, HX1.out⟩
  · have HV := Lib.hid (ltVt_pa hpa)
    rw [decide_eq_false hpa] at hq hqi
    rw [Bool.not_false] at hq
    clear hpa
    go_enter Try.func116, Try.ntmps116
    go_wp2_with (first | (with_reducible refine wpList_loadN rfl (.tmp 8) rfl w.heap.size 6 rfl a.pa p1 ?_) | (with_reducible refine wpList_loadN rfl (.tmp 10) rfl (w.heap.size + 1) 6 rfl b.pa p2 ?_) | (with_reducible refine wpList_loadN rfl (.tmp 13) rfl w.heap.size 6 rfl a.pa p1 ?_) | (with_reducible refine wpList_loadN rfl (.tmp 15) rfl (w.heap.size + 1) 6 rfl b.pa p2 ?_))
    refine (hLess_any a.pa b.pa W0).mono ?_
    rintro e w1 ⟨rfl, he1⟩
    have HX := Lib.hid (HE.out.trans he1)
    clear he1
    go_wp2_with fail
    go_ret
    exact ⟨by rw [HV.out]; rfl, HX.out⟩
end Go.Proofs.Ytjlnmpjffogpdaa
