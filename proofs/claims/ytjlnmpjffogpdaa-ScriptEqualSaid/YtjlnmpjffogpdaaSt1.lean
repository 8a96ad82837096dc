/- Steps of a world as values; keep.Step. -/
import Derived.Test.YtjlnmpjffogpdaaSq1
import Derived.Test.YtjlnmpjffogpdaaSv3
namespace Go.Proofs.Ytjlnmpjffogpdaa
open Go.RowKit
set_option linter.unusedVariables false
set_option linter.unusedSimpArgs false
attribute [local go_sem ↓] Go.wp_at_zero Go.wp_at_succ

instance : RowT Int where
  sz := 1
  z := 0
  enc z := [.int .i64 z]
  ok _ _ := True
  pos := by decide
  len _ := rfl
  one z u hu := by rw [List.mem_singleton.1 hu]; rfl
  ext _ _ _ _ _ := trivial
theorem intG_at {w : World} {b o : Nat} {l : List Int} {k : Nat} (h : w.rangeAt b o (gcs l)) (hk : k < l.length) : w.cell? ⟨b, o + k, none⟩ = some (.int .i64 (nthG l k)) := by
  have := el_at h hk 0 _ rfl
  rwa [show RowT.sz Int = 1 from rfl, Nat.mul_one, Nat.add_zero] at this
/-- a step -/
structure StR where
  k : Int
  pr : Int
  to : Int
  at_ : Int
  gr : Int
  A1 : Option Addr
  n1 : Nat
  c1 : Nat
  pk : List Int
  ac : Int
  sq : Int
  A2 : Option Addr
  n2 : Nat
  c2 : Nat
  ops : List OpR
  v : VtR
  par : Int
  val : Int
  A3 : Option Addr
  n3 : Nat
  c3 : Nat
  vs : List SgR
  A4 : Option Addr
  n4 : Nat
  c4 : Nat
  xs : List TeR
  A5 : Option Addr
  n5 : Nat
  c5 : Nat
  da : List UInt8
structure StR.ok (S : StR) (w : World) : Prop where
  pk : SlG w S.A1 S.n1 S.c1 S.pk
  ops : SlG w S.A2 S.n2 S.c2 S.ops
  v : S.v.wf
  vs : SlG w S.A3 S.n3 S.c3 S.vs
  xs : SlG w S.A4 S.n4 S.c4 S.xs
  da : SlB w S.A5 S.n5 S.c5 S.da
theorem StR.ok.ext {S : StR} {w w' : World} (h : S.ok w) (e : Ext w w') : S.ok w' := ⟨h.pk.ext e, h.ops.ext e, h.v, h.vs.ext e, h.xs.ext e, h.da.ext e⟩
abbrev spA (S : StR) : Array Value := #[.int .i64 S.k, .int .i64 S.pr, .int .i64 S.to, .int .i64 S.at_, .int .i64 S.gr, .slice S.A1 S.n1 S.c1, .int .i64 S.ac, .int .i64 S.sq, .slice S.A2 S.n2 S.c2, .int .i64 S.v.k, .int .i64 S.v.sl, .int .i64 S.v.ro, .int .i64 S.v.ch, .int .i64 S.v.si, .int .i64 S.v.su, .int .u8 (nb8 S.v.pa 0), .int .u8 (nb8 S.v.pa 1), .int .u8 (nb8 S.v.pa 2), .int .u8 (nb8 S.v.pa 3), .int .u8 (nb8 S.v.pa 4), .int .u8 (nb8 S.v.pa 5), .int .u8 (nb8 S.v.pa 6), .int .u8 (nb8 S.v.pa 7), .int .u8 (nb8 S.v.va 0), .int .u8 (nb8 S.v.va 1), .int .u8 (nb8 S.v.va 2), .int .u8 (nb8 S.v.va 3), .int .u8 (nb8 S.v.va 4), .int .u8 (nb8 S.v.va 5), .int .u8 (nb8 S.v.va 6), .int .u8 (nb8 S.v.va 7), .int .i64 S.par, .int .i64 S.val, .slice S.A3 S.n3 S.c3, .slice S.A4 S.n4 S.c4, .slice S.A5 S.n5 S.c5]
def spL (S : StR) : List Value := (spA S).toList
theorem spL_length (S : StR) : (spL S).length = 36 := rfl
theorem spL_arr (S : StR) : (spL S).toArray = spA S := rfl
theorem spL_one (S : StR) : ∀ u ∈ spL S, u.oneCell' = true := by
  intro u hu
  simp only [spL, List.mem_cons, List.not_mem_nil, or_false] at hu
  rcases hu with rfl | rfl | rfl | rfl | rfl | rfl | rfl | rfl | rfl | rfl | rfl | rfl | rfl | rfl | rfl | rfl | rfl | rfl | rfl | rfl | rfl | rfl | rfl | rfl | rfl | rfl | rfl | rfl | rfl | rfl | rfl | rfl | rfl | rfl | rfl | rfl <;> rfl
theorem spA_all (S : StR) : (spA S).all (·.oneCell') = true := all_oneCell_toArray (spL_one S)
/-- the cells of a step that are read one by one -/
def spF (W : World) (g : Nat) (S : StR) : Prop := W.cell? ⟨g, 0, none⟩ = some (.int .i64 S.k) ∧ W.cell? ⟨g, 1, none⟩ = some (.int .i64 S.pr) ∧ W.cell? ⟨g, 2, none⟩ = some (.int .i64 S.to) ∧ W.cell? ⟨g, 3, none⟩ = some (.int .i64 S.at_) ∧ W.cell? ⟨g, 4, none⟩ = some (.int .i64 S.gr) ∧ W.cell? ⟨g, 5, none⟩ = some (.slice S.A1 S.n1 S.c1) ∧ W.cell? ⟨g, 6, none⟩ = some (.int .i64 S.ac) ∧ W.cell? ⟨g, 7, none⟩ = some (.int .i64 S.sq) ∧ W.cell? ⟨g, 8, none⟩ = some (.slice S.A2 S.n2 S.c2) ∧ W.cell? ⟨g, 31, none⟩ = some (.int .i64 S.par) ∧ W.cell? ⟨g, 32, none⟩ = some (.int .i64 S.val) ∧ W.cell? ⟨g, 33, none⟩ = some (.slice S.A3 S.n3 S.c3) ∧ W.cell? ⟨g, 34, none⟩ = some (.slice S.A4 S.n4 S.c4) ∧ W.cell? ⟨g, 35, none⟩ = some (.slice S.A5 S.n5 S.c5)
theorem sp_facts {w : World} {g : Nat} {t : TypeId} {S : StR} (h : Blk w g t (spA S)) : spF w g S := ⟨h.cell 0, h.cell 1, h.cell 2, h.cell 3, h.cell 4, h.cell 5, h.cell 6, h.cell 7, h.cell 8, h.cell 31, h.cell 32, h.cell 33, h.cell 34, h.cell 35⟩
theorem sp_vote {w : World} {g : Nat} {t : TypeId} {S : StR} (h : Blk w g t (spA S)) : w.rangeAt g 9 (vtL S.v) := rangeAt_take (k := 22) (rangeAt_drop (k := 9) (rangeAt_of_blk h))
section
variable {o : Oper} {a : Act} {w : World} {ops : Array Oper} {rest : List Oper} {Q : Exit → Act → World → Prop}
/-- a vote is loaded, under a guard that is met -/
theorem wpList_loadVtW (hw : Region.wanted o (yielded ops a.tmps) = true) (x : Operand) (ho : o.op = .load 28 x) (b of : Nat) (hx : a.eval x = .pointer (some ⟨b, of, none⟩)) (R : VtR) (hc : w.rangeAt b of (vtL R))
    (h : wpList Try.prog ops Q rest (a.put o.dst (.agg (vtA R))) w) : wpList Try.prog ops Q (o :: rest) a w := by
  have := wp_load_mid (P := Try.prog) (Q := Q) (K := wpList Try.prog ops Q rest) 28 x ho b of hx (vtL R) _ hc Try.underlying28 rfl (by rw [vtL_length]; kernel_rfl)
  rw [vtL_arr] at this
  unfold wpList
  rw [if_pos hw]
  exact .inl (this h)
theorem wpList_loadSpW (hgd : o.guard = none) (x : Operand) (ho : o.op = .load 35 x) (b of : Nat) (hx : a.eval x = .pointer (some ⟨b, of, none⟩)) (R : StR) (hc : w.rangeAt b of (spL R))
    (h : wpList Try.prog ops Q rest (a.put o.dst (.agg (spA R))) w) : wpList Try.prog ops Q (o :: rest) a w := by
  have := wpList_load_mid (P := Try.prog) (Q := Q) (ops := ops) (rest := rest) hgd 35 x ho b of hx (spL R) _ hc Try.underlying35 rfl (by rw [spL_length]; kernel_rfl)
  rw [spL_arr] at this
  exact this h
theorem wpList_storeSpW (hgd : o.guard = none) (x y : Operand) (ho : o.op = .store 35 x y) (g : Nat) (S : StR) (hx : a.eval x = .pointer (some ⟨g, 0, none⟩)) (hy : a.eval y = .agg (spA S)) (ht : w.there g 0 36)
    (h : wpList Try.prog ops Q rest (a.put o.dst undef) (w.setCells g 0 (spA S).toList)) : wpList Try.prog ops Q (o :: rest) a w :=
  wpList_store_mid hgd 35 x y ho g 0 (spA S) hx hy ht (by kernel_rfl) (spA_all S) h
theorem yields_loadSpW {S : World → Prop} (hw : Region.wanted o (yielded ops a.tmps) = true) (x : Operand) (ho : o.op = .load 35 x) (b of : Nat) (hx : a.eval x = .pointer (some ⟨b, of, none⟩)) (R : StR) (hS : ∀ w, S w → w.rangeAt b of (spL R)) : YieldsIf Try.prog ops S o (.agg (spA R)) a := by
  have := yieldsIf_load_mid (P := Try.prog) (S := S) hw 35 x ho b of hx (spL R) _ hS Try.underlying35 rfl (by rw [spL_length]; kernel_rfl)
  rw [spL_arr] at this
  exact this
theorem wpList_loadSpR (hgd : o.guard = none) (x : Operand) (ho : o.op = .load 38 x) (b of : Nat) (hx : a.eval x = .pointer (some ⟨b, of, none⟩)) (R : StR) (hc : w.rangeAt b of (spL R))
    (h : wpList Try.prog ops Q rest (a.put o.dst (.agg (spA R))) w) : wpList Try.prog ops Q (o :: rest) a w := by
  have := wpList_load_mid (P := Try.prog) (Q := Q) (ops := ops) (rest := rest) hgd 38 x ho b of hx (spL R) _ hc Try.underlying38 rfl (by rw [spL_length]; kernel_rfl)
  rw [spL_arr] at this
  exact this h
theorem wpList_storeSpR (hgd : o.guard = none) (x y : Operand) (ho : o.op = .store 38 x y) (g : Nat) (S : StR) (hx : a.eval x = .pointer (some ⟨g, 0, none⟩)) (hy : a.eval y = .agg (spA S)) (ht : w.there g 0 36)
    (h : wpList Try.prog ops Q rest (a.put o.dst undef) (w.setCells g 0 (spA S).toList)) : wpList Try.prog ops Q (o :: rest) a w :=
  wpList_store_mid hgd 38 x y ho g 0 (spA S) hx hy ht (by kernel_rfl) (spA_all S) h
theorem yields_loadSpR {S : World → Prop} (hw : Region.wanted o (yielded ops a.tmps) = true) (x : Operand) (ho : o.op = .load 38 x) (b of : Nat) (hx : a.eval x = .pointer (some ⟨b, of, none⟩)) (R : StR) (hS : ∀ w, S w → w.rangeAt b of (spL R)) : YieldsIf Try.prog ops S o (.agg (spA R)) a := by
  have := yieldsIf_load_mid (P := Try.prog) (S := S) hw 38 x ho b of hx (spL R) _ hS Try.underlying38 rfl (by rw [spL_length]; kernel_rfl)
  rw [spL_arr] at this
  exact this
end
abbrev zero36 : Array Value := #[.int .i64 0, .int .i64 0, .int .i64 0, .int .i64 0, .int .i64 0, .slice none 0 0, .int .i64 0, .int .i64 0, .slice none 0 0, .int .i64 0, .int .i64 0, .int .i64 0, .int .i64 0, .int .i64 0, .int .i64 0, .int .u8 0, .int .u8 0, .int .u8 0, .int .u8 0, .int .u8 0, .int .u8 0, .int .u8 0, .int .u8 0, .int .u8 0, .int .u8 0, .int .u8 0, .int .u8 0, .int .u8 0, .int .u8 0, .int .u8 0, .int .u8 0, .int .i64 0, .int .i64 0, .slice none 0 0, .slice none 0 0, .slice none 0 0]
set_option maxRecDepth 100000 in
set_option maxHeartbeats 1000000 in
theorem keepStep_any (S : StR) (w : World) : Calls Try.prog 7 #[.agg (spA S)] w fun e w' => e = .returned (.agg (spA S)) ∧ Ext w w' := by
  have hE := ((Ext.refl w).alloc' (.cells (spA S) 35)).alloc' (.cells zero36 38)
  have HE := Lib.hid hE
  have HB := (Blk.new w 35 (spA S)).alloc (.cells zero36 38)
  have HC := Lib.hid (show Blk ((w.alloc (.cells (spA S) 35)).alloc (.cells zero36 38)) (w.heap.size + 1) 38 zero36 from Blk.newAt _ _ _ _ (by simp))
  obtain ⟨W0, hW0⟩ : ∃ W0, (w.alloc (.cells (spA S) 35)).alloc (.cells zero36 38) = W0 := ⟨_, rfl⟩
  rw [hW0] at HB HC HE
  obtain ⟨q0, q1, q2, q3, q4, q5, q6, q7, q8, q31, q32, q33, q34, q35⟩ := sp_facts HB
  have hr := sp_vote HB
  have htz : W0.there (w.heap.size + 1) 0 36 := there_of_blk HC.out
  have hst := blk_whole (ds := spA S) HC.out rfl
  clear hE HB
  go_enter Try.func7, Try.ntmps7
  go_wp2_with (first | (with_reducible refine wpList_loadVt rfl (.tmp 21) rfl w.heap.size 9 rfl S.v hr ?_) | (with_reducible refine wpList_storeSpR rfl (.tmp 2) (.tmp 31) rfl (w.heap.size + 1) S rfl rfl htz ?_))
  exact bodyPost_ret (v := .agg (spA S)) (retC rfl _ _ (w.heap.size + 1) _ rfl (run_loadVar_row _ _ _ _ _ (0, 0) _ hst Try.underlying38 rfl (by kernel_rfl))) rfl ⟨rfl, Below.setCells' HE.out (by omega) _ _⟩
end Go.Proofs.Ytjlnmpjffogpdaa
