/- Votes, signed votes, texts and views as values; two votes held against each other. -/
import Derived.Sort.LotA
import Derived.Laws.OwnMore
import Derived.Test.YtbfepgjeecndiaaGreatK05
namespace Go.Proofs.YtbfepgjeecndiaaGreat
open Go.RowKit
set_option linter.unusedVariables false
set_option linter.unusedSimpArgs false
attribute [local go_sem ↓] Go.wp_at_zero Go.wp_at_succ
structure VtR where
 k : Int
 sl : Int
 ro : Int
 ch : Int
 si : Int
 su : Int
 pa : UInt64
 va : UInt64
deriving DecidableEq
def wfI (z : Int) : Prop := (Lit.int .i64 z).wf = true
structure VtR.wf (v : VtR) : Prop where
 k : wfI v.k
 sl : wfI v.sl
 ro : wfI v.ro
 ch : wfI v.ch
 si : wfI v.si
 su : wfI v.su
abbrev vtA (v : VtR) : Array Value := #[.int .i64 v.k, .int .i64 v.sl, .int .i64 v.ro, .int .i64 v.ch, .int .i64 v.si, .int .i64 v.su, .int .u8 (nb8 v.pa 0), .int .u8 (nb8 v.pa 1), .int .u8 (nb8 v.pa 2), .int .u8 (nb8 v.pa 3), .int .u8 (nb8 v.pa 4), .int .u8 (nb8 v.pa 5), .int .u8 (nb8 v.pa 6), .int .u8 (nb8 v.pa 7), .int .u8 (nb8 v.va 0), .int .u8 (nb8 v.va 1), .int .u8 (nb8 v.va 2), .int .u8 (nb8 v.va 3), .int .u8 (nb8 v.va 4), .int .u8 (nb8 v.va 5), .int .u8 (nb8 v.va 6), .int .u8 (nb8 v.va 7)]
def vtL (v : VtR) : List Value := (vtA v).toList
theorem vtL_length (v : VtR) : (vtL v).length = 22 := rfl
theorem vtL_arr (v : VtR) : (vtL v).toArray = vtA v := rfl
theorem vtL_one (v : VtR) : ∀ u ∈ vtL v, u.oneCell' = true := by
 intro u hu
 simp only [vtL, List.mem_cons, List.not_mem_nil, or_false] at hu
 rcases hu with rfl | rfl | rfl | rfl | rfl | rfl | rfl | rfl | rfl | rfl | rfl | rfl | rfl | rfl | rfl | rfl | rfl | rfl | rfl | rfl | rfl | rfl <;> rfl
theorem vtA_all (v : VtR) : (vtA v).all (·.oneCell') = true := all_oneCell_toArray (vtL_one v)
instance : RowT VtR where
 sz := 22
 z := ⟨0, 0, 0, 0, 0, 0, 0, 0⟩
 enc := vtL
 ok v w := v.wf
 pos := by decide
 len := vtL_length
 one := vtL_one
 ext _ _ _ h _ := h
structure SgR where
 v : VtR
 A : Option Addr
 n : Nat
 c : Nat
 sig : List UInt8
abbrev sgA (S : SgR) : Array Value := #[.int .i64 S.v.k, .int .i64 S.v.sl, .int .i64 S.v.ro, .int .i64 S.v.ch, .int .i64 S.v.si, .int .i64 S.v.su, .int .u8 (nb8 S.v.pa 0), .int .u8 (nb8 S.v.pa 1), .int .u8 (nb8 S.v.pa 2), .int .u8 (nb8 S.v.pa 3), .int .u8 (nb8 S.v.pa 4), .int .u8 (nb8 S.v.pa 5), .int .u8 (nb8 S.v.pa 6), .int .u8 (nb8 S.v.pa 7), .int .u8 (nb8 S.v.va 0), .int .u8 (nb8 S.v.va 1), .int .u8 (nb8 S.v.va 2), .int .u8 (nb8 S.v.va 3), .int .u8 (nb8 S.v.va 4), .int .u8 (nb8 S.v.va 5), .int .u8 (nb8 S.v.va 6), .int .u8 (nb8 S.v.va 7), .slice S.A S.n S.c]
def sgL (S : SgR) : List Value := (sgA S).toList
theorem sgL_length (S : SgR) : (sgL S).length = 23 := rfl
theorem sgL_arr (S : SgR) : (sgL S).toArray = sgA S := rfl
theorem sgL_one (v : SgR) : ∀ u ∈ sgL v, u.oneCell' = true := by
 intro u hu
 simp only [sgL, List.mem_cons, List.not_mem_nil, or_false] at hu
 rcases hu with rfl | rfl | rfl | rfl | rfl | rfl | rfl | rfl | rfl | rfl | rfl | rfl | rfl | rfl | rfl | rfl | rfl | rfl | rfl | rfl | rfl | rfl | rfl <;> rfl
theorem sgA_all (v : SgR) : (sgA v).all (·.oneCell') = true := all_oneCell_toArray (sgL_one v)
structure SgR.ok (S : SgR) (w : World) : Prop where
 v : S.v.wf
 sig : SlB w S.A S.n S.c S.sig
theorem SgR.ok.ext {S : SgR} {w w' : World} (h : S.ok w) (e : Ext w w') : S.ok w' := ⟨h.v, h.sig.ext e⟩
instance : RowT SgR where
 sz := 23
 z := ⟨⟨0, 0, 0, 0, 0, 0, 0, 0⟩, none, 0, 0, []⟩
 enc := sgL
 ok S w := S.ok w
 pos := by decide
 len := sgL_length
 one := sgL_one
 ext _ _ _ h e := h.ext e
structure TeR where
 A : Option Addr
 n : Nat
 c : Nat
 l : List UInt8
def teL (T : TeR) : List Value := [.slice T.A T.n T.c]
def TeR.ok (T : TeR) (w : World) : Prop := SlB w T.A T.n T.c T.l
instance : RowT TeR where
 sz := 1
 z := ⟨none, 0, 0, []⟩
 enc := teL
 ok T w := T.ok w
 pos := by decide
 len _ := rfl
 one x u hu := by rw [List.mem_singleton.1 hu]; rfl
 ext _ _ _ h e := SlB.ext h e
abbrev vwA (A : Option Addr) (n c : Nat) (B : Option Addr) (m d : Nat) : Array Value := #[.slice A n c, .slice B m d]
section
variable {o : Oper} {a : Act} {w : World} {ops : Array Oper} {rest : List Oper} {Q : Exit → Act → World → Prop}
theorem wpList_loadVt (hgd : o.guard = none) (x : Operand) (ho : o.op = .load 46 x) (b of : Nat) (hx : a.eval x = .pointer (some ⟨b, of, none⟩)) (R : VtR) (hc : w.rangeAt b of (vtL R))
  (h : wpList Tryz.prog ops Q rest (a.put o.dst (.agg (vtA R))) w) : wpList Tryz.prog ops Q (o :: rest) a w := by
 have := wpList_load_mid (P := Tryz.prog) (Q := Q) (ops := ops) (rest := rest) hgd 46 x ho b of hx (vtL R) _ hc Tryz.underlying46 rfl (by rw [vtL_length]; kernel_rfl)
 rw [vtL_arr] at this
 exact this h
theorem wpList_newVt (hgd : o.guard = none) (x y : Operand) (ho : o.op = .store 46 x y) (cs : Array Value) (hcs : cs.size = 22) (R : VtR) (hx : a.eval x = .pointer (some ⟨w.heap.size, 0, none⟩)) (hy : a.eval y = .agg (vtA R))
  (h : wpList Tryz.prog ops Q rest (a.put o.dst undef) (w.alloc (.cells (vtA R) 46))) : wpList Tryz.prog ops Q (o :: rest) a (w.alloc (.cells cs 46)) := by
 have ht := there_of_blk (Blk.new w 46 cs)
 rw [hcs] at ht
 refine wpList_store_mid hgd 46 x y ho w.heap.size 0 (vtA R) hx hy ht (by kernel_rfl) (vtA_all R) ?_
 rw [setCells_whole w 46 cs (vtA R) (by rw [hcs]; rfl)]
 exact h
theorem wpList_loadSg (hgd : o.guard = none) (x : Operand) (ho : o.op = .load 48 x) (b of : Nat) (hx : a.eval x = .pointer (some ⟨b, of, none⟩)) (R : SgR) (hc : w.rangeAt b of (sgL R))
  (h : wpList Tryz.prog ops Q rest (a.put o.dst (.agg (sgA R))) w) : wpList Tryz.prog ops Q (o :: rest) a w := by
 have := wpList_load_mid (P := Tryz.prog) (Q := Q) (ops := ops) (rest := rest) hgd 48 x ho b of hx (sgL R) _ hc Tryz.underlying48 rfl (by rw [sgL_length]; kernel_rfl)
 rw [sgL_arr] at this
 exact this h
theorem wpList_newSg (hgd : o.guard = none) (x y : Operand) (ho : o.op = .store 48 x y) (cs : Array Value) (hcs : cs.size = 23) (R : SgR) (hx : a.eval x = .pointer (some ⟨w.heap.size, 0, none⟩)) (hy : a.eval y = .agg (sgA R))
  (h : wpList Tryz.prog ops Q rest (a.put o.dst undef) (w.alloc (.cells (sgA R) 48))) : wpList Tryz.prog ops Q (o :: rest) a (w.alloc (.cells cs 48)) := by
 have ht := there_of_blk (Blk.new w 48 cs)
 rw [hcs] at ht
 refine wpList_store_mid hgd 48 x y ho w.heap.size 0 (sgA R) hx hy ht (by kernel_rfl) (sgA_all R) ?_
 rw [setCells_whole w 48 cs (sgA R) (by rw [hcs]; rfl)]
 exact h
end
/-! two votes held against each other -/
theorem wfI_key (x : Int) (hx : wfI x) : Tryz.prog.keyLits 2 3 [.int .i64 x] = some [.int .i64 x] := by
 unfold Program.keyLits
 rw [Tryz.underlying3]
 simp only
 rw [if_pos ⟨trivial, hx⟩]
theorem wfI_mask (x : Int) (hx : wfI x) : Tryz.prog.keyLits 2 42 [.int .i64 x] = some [.int .i64 x] := by
 unfold Program.keyLits
 rw [Tryz.underlying42]
 simp only
 rw [if_pos ⟨trivial, hx⟩]
def vtK (v : VtR) : List Lit := [.int .i64 v.k, .int .i64 v.sl, .int .i64 v.ro, .int .i64 v.ch, .int .i64 v.si, .int .i64 v.su] ++ ((nmb v.pa).map litB ++ (nmb v.va).map litB)
def vtC (v : VtR) : List Value := [.int .i64 v.k, .int .i64 v.sl, .int .i64 v.ro, .int .i64 v.ch, .int .i64 v.si, .int .i64 v.su] ++ (bcs (nmb v.pa) ++ bcs (nmb v.va))
theorem vtL_C (v : VtR) : vtL v = vtC v := by unfold vtC; rw [bcs_nb8, bcs_nb8]; rfl
theorem vtK_inj {a b : VtR} (h : vtK a = vtK b) : a = b := by
 unfold vtK at h
 simp only [List.cons_append, List.nil_append, List.cons.injEq, Lit.int.injEq, true_and] at h
 obtain ⟨h1, h2, h3, h4, h5, h6, h7⟩ := h
 have h8 := List.append_inj h7 (by simp [nmb_length])
 have h9 := litB_inj h8.1
 have h10 := litB_inj h8.2
 cases a; cases b
 simp only at *
 subst h1; subst h2; subst h3; subst h4; subst h5; subst h6; subst h9; subst h10
 rfl
theorem keyVt (v : VtR) (h : v.wf) : Tryz.prog.keyLits 3 46 (vtC v) = some (vtK v) := by
 obtain ⟨h1, h2, h3, h4, h5, h6⟩ := h
 have c1 : Tryz.prog.cellsOf 3 = 1 := by kernel_rfl
 have cm : Tryz.prog.cellsOf 42 = 1 := by kernel_rfl
 have c22 : Tryz.prog.cellsOf 46 = 22 := by kernel_rfl
 have hp : (bcs (nmb v.pa)).length = 8 := by rw [bcs_length, nmb_length]
 have hv : (bcs (nmb v.va)).length = 8 := by rw [bcs_length, nmb_length]
 have t8 : (bcs (nmb v.pa) ++ bcs (nmb v.va)).take 8 = bcs (nmb v.pa) := by rw [← hp]; exact List.take_left
 have d8 : (bcs (nmb v.pa) ++ bcs (nmb v.va)).drop 8 = bcs (nmb v.va) := by rw [← hp]; exact List.drop_left
 have t8' : (bcs (nmb v.va)).take 8 = bcs (nmb v.va) := List.take_of_length_le (by omega)
 have hl : (vtC v).length = 22 := by unfold vtC; rw [List.length_append, List.length_append, hp, hv]; rfl
 unfold Program.keyLits
 rw [Tryz.underlying46]
 simp only
 rw [if_pos ⟨by rw [hl, c22], by kernel_rfl⟩]
 simp only [List.mapM_cons, List.mapM_nil, c1, cm, cellsN, vtC, List.cons_append, List.nil_append, List.drop_zero, List.drop_succ_cons, List.take_succ_cons, List.take_zero, wfI_key _ h1, wfI_key _ h2, wfI_key _ h3, wfI_key _ h4, wfI_key _ h5, wfI_mask _ h6, t8, d8, t8', keyName]
 simp [vtK]
theorem eqIn_Vt (a b : VtR) (ha : a.wf) (hb : b.wf) (w : World) : (Op.equalIn 10000 46 (.agg (vtA a)) (.agg (vtA b))).run Tryz.prog w = .ok (decide (a = b)) w := by
 have hE := run_equalIn_deep (P := Tryz.prog) 9997 3 46 (by kernel_rfl)
 have hfm : ∀ v : VtR, (Value.agg (vtA v)).formed Tryz.prog 46 = true := fun v => by
  have c22 : Tryz.prog.cellsOf 46 = 22 := by kernel_rfl
  simp [Value.formed, Tryz.underlying46, c22]
 have hk : ∀ v : VtR, v.wf → Tryz.prog.keyLits 3 46 (Value.agg (vtA v)).cells.toList = some (vtK v) := fun v h => by
  show Tryz.prog.keyLits 3 _ (vtL v) = _
  rw [vtL_C]; exact keyVt v h
 obtain ⟨r, hr, hiff⟩ := hE w 3 3 _ _ _ _ (hfm a) (hfm b) (hk a ha) (hk b hb)
 have hr' : (Op.equalIn 10000 46 (.agg (vtA a)) (.agg (vtA b))).run Tryz.prog w = .ok r w := hr
 rw [hr']
 have : r = decide (a = b) := by
  by_cases h : a = b
  ·subst h; simp [hiff.2 rfl]
  ·have : r ≠ true := fun e => h (vtK_inj (hiff.1 e))
   simp [h, this]
 rw [this]
theorem run_eqVt (a b : VtR) (ha : a.wf) (hb : b.wf) (w : World) : (binOp .eql 46 (.agg (vtA a)) (.agg (vtA b))).run Tryz.prog w = .ok (.bool (decide (a = b))) w := by
 rw [run_eql_struct, eqIn_Vt a b ha hb w]
 rfl
def eqSg (a b : SgR) : Bool := decide (a.v = b.v) && decide (a.sig = b.sig)
def eqTe (a b : TeR) : Bool := decide (a.l = b.l)
end Go.Proofs.YtbfepgjeecndiaaGreat

/- A row of one's own whose elements are read, set and exchanged; the row as an array. -/
namespace Go.Proofs.YtbfepgjeecndiaaGreat
open Go.RowKit
set_option linter.unusedVariables false
set_option linter.unusedSimpArgs false
set_option linter.unusedSectionVars false
theorem Grown.refl (w : World) (row : Option Nat) : w.grownBy w row := ⟨rfl, rfl, rfl, Nat.le_refl _, fun _ _ _ => rfl⟩
theorem Grown.trans {a b c : World} {row : Option Nat} (h : a.grownBy b row) (k : b.grownBy c row) : a.grownBy c row :=
 ⟨k.os.trans h.os, k.tape.trans h.tape, k.output.trans h.output, Nat.le_trans h.size k.size, fun i hi hr => (k.block i (Nat.lt_of_lt_of_le hi h.size) hr).trans (h.block i hi hr)⟩
theorem Ext.grown {a b : World} (h : Ext a b) (row : Option Nat) : a.grownBy b row := ⟨h.os, h.tape, h.output, h.size, fun i hi _ => h.block i hi⟩
theorem Grown.none {a b : World} (h : a.grownBy b none) : Ext a b := ⟨h.os, h.tape, h.output, h.size, fun k hk => h.block k hk (by simp)⟩
theorem splice_cons {xs : List Value} {o : Nat} {y : Value} {r : List Value} (h : o < xs.length) : splice (xs.set o y) (o + 1) r = splice xs o (y :: r) := by
 unfold splice
 rw [List.take_add_one, List.getElem?_set_self h, List.take_set_of_le (Nat.le_refl _)]
 simp [List.drop_set_of_lt, show o < o + 1 + r.length from by omega, show o + (r.length + 1) = o + 1 + r.length from by omega]
theorem own_splice {base : Nat} {e : TypeId} {size g n c : Nat} (ys : List Value) : ∀ (o : Nat) (w : World) (xs : List Value), o + ys.length ≤ xs.length → w.ownsRow base e size (.slice (some ⟨g, 0, none⟩) n c) n xs →
  (w.setCells g o ys).ownsRow base e size (.slice (some ⟨g, 0, none⟩) n c) n (splice xs o ys) ∧ w.grownBy (w.setCells g o ys) (some g) := by
 induction ys with
 | nil => intro o w xs hl h; exact ⟨by simpa [splice, World.setCells] using h, Grown.refl _ _⟩
 | cons y r ih =>
  intro o w xs hl h
  simp only [List.length_cons] at hl
  have hs := h.stored o y
  obtain ⟨h1, h2⟩ := ih (o + 1) _ _ (by rw [List.length_set]; omega) hs.1
  rw [splice_cons (by omega)] at h1
  exact ⟨h1, Grown.trans hs.2 h2⟩
theorem own_cut {w : World} {base : Nat} {e : TypeId} {size : Nat} {A : Option Addr} {n c : Nat} {xs : List Value} (h : w.ownsRow base e size (.slice A n c) n xs) {i : Nat} (hi : i ≤ n) (hA : A ≠ none) : w.ownsRow base e size (.slice A i c) i (xs.take (i * size)) := by
 have hle : i * size ≤ n * size := Nat.mul_le_mul_right _ hi
 refine ⟨by rw [List.length_take, h.1]; omega, ?_⟩
 rcases h.2 with ⟨hv, _⟩ | ⟨g, cap, cur, hv, hb, hh, hn, hm, hs, ht⟩
 ·injection hv with hA'; exact absurd hA' hA
 ·injection hv with h1 _ h3; subst h1; subst h3
  refine .inr ⟨g, c, cur, rfl, hb, hh, by omega, hm, hs, ?_⟩
  rw [← ht, List.take_take, Nat.min_eq_left hle]
theorem own_over {base : Nat} {e : TypeId} {size g n c : Nat} (ys : List Value) : ∀ (o : Nat) (w : World) (xs : List Value), w.ownsRow base e size (.slice (some ⟨g, 0, none⟩) n c) n xs →
  ∃ xs', (w.setCells g o ys).ownsRow base e size (.slice (some ⟨g, 0, none⟩) n c) n xs' ∧ xs'.take o = xs.take o ∧ w.grownBy (w.setCells g o ys) (some g) := by
 induction ys with
 | nil => intro o w xs h; exact ⟨xs, h, rfl, Grown.refl _ _⟩
 | cons y r ih =>
  intro o w xs h
  have hs := h.stored o y
  obtain ⟨xs', h1, h2, h3⟩ := ih (o + 1) _ _ hs.1
  refine ⟨xs', h1, ?_, Grown.trans hs.2 h3⟩
  have := congrArg (List.take o) h2
  rw [List.take_take, List.take_take, Nat.min_eq_left (by omega)] at this
  rw [this, List.take_set_of_le (by omega)]
section
variable {α : Type} [RowT α]
instance (priority := low) rowInh : Inhabited α := ⟨RowT.z⟩
theorem arr_nth (d : Array α) (i : Nat) : d[i]! = nthG d.toList i := by
 show d[i]! = d.toList.getD i RowT.z
 rw [List.getD_eq_getElem?_getD, Array.getElem?_toList]
 by_cases h : i < d.size
 ·rw [getElem!_pos d i h, Array.getElem?_eq_getElem h]; rfl
 ·rw [getElem!_neg d i h, Array.getElem?_eq_none (by omega)]; rfl
theorem gcs_set (L : List α) (i : Nat) (x : α) (hi : i < L.length) : splice (gcs L) (i * RowT.sz α) (RowT.enc x) = gcs (L.set i x) := by
 rw [List.set_eq_take_append_cons_drop, if_pos hi, gcs_append, gcs_cons]
 unfold splice
 rw [gcs_take, RowT.len, ← gcs_drop, Nat.add_mul, Nat.one_mul]
class RowB (α : Type) [RowT α] where
 ow : World → Nat → α → Prop
 ok : ∀ x w b, ow w b x → RowT.ok x w
 ext : ∀ x w w' b, ow w b x → Ext w w' → ow w' b x
 kept : ∀ x w w' b b' e sz A n c xs, ow w b x → w.ownsRow b' e sz (.slice A n c) n xs → e ≠ 5 → w.grownBy w' (Value.ownBlock (.slice A n c)) → ow w' b x
 mono : ∀ x w b b', ow w b x → b' ≤ b → ow w b' x
structure RowS [RowB α] (w0 w : World) (base : Nat) (e : TypeId) (A : Option Addr) (n c : Nat) (d : Array α) : Prop where
 own : w.ownsRow base e (RowT.sz α) (.slice A n c) n (gcs d.toList)
 ow : ∀ x ∈ d.toList, RowB.ow w base x
 gr : w0.grownBy w (Value.ownBlock (.slice A n c))
 ne : e ≠ 5
variable [RowB α] {w0 w w' : World} {base : Nat} {e : TypeId} {A : Option Addr} {n c : Nat} {d : Array α}
theorem RowS.start (h : w.ownsRow base e (RowT.sz α) (.slice A n c) n (gcs d.toList)) (ho : ∀ x ∈ d.toList, RowB.ow w base x) (hne : e ≠ 5) : RowS w w base e A n c d := ⟨h, ho, Grown.refl _ _, hne⟩
theorem RowS.size (h : RowS w0 w base e A n c d) : d.size = n := by
 have := h.own.1
 rw [gcs_length] at this
 have hp := RowT.pos (α := α)
 have := Nat.eq_of_mul_eq_mul_right hp this
 simpa using this
theorem RowS.ext (h : RowS w0 w base e A n c d) (he : Ext w w') : RowS w0 w' base e A n c d := ⟨own_ext h.own he, fun x hx => RowB.ext _ _ _ _ (h.ow x hx) he, Grown.trans h.gr (Ext.grown he _), h.ne⟩
theorem RowS.at (h : RowS w0 w base e A n c d) (hn : 0 < n) : ∃ g, A = some ⟨g, 0, none⟩ ∧ base ≤ g ∧ w.rangeAt g 0 (gcs d.toList) := own_at h.own hn
theorem RowS.cell (h : RowS w0 w base e A n c d) {g : Nat} (hA : A = some ⟨g, 0, none⟩) {i : Nat} (hi : i < n) : w.rangeAt g (i * RowT.sz α) (RowT.enc d[i]!) := by
 obtain ⟨g', hA', _, hr⟩ := h.at (by omega)
 obtain rfl : g = g' := by rw [hA] at hA'; injection hA' with h1; injection h1
 have := el_at (L := d.toList) (k := i) hr (by have := h.size; simp; omega)
 rw [Nat.zero_add] at this
 rw [arr_nth]
 exact this
theorem arr_mem {i : Nat} (hi : i < d.size) : d[i]! ∈ d.toList := by
 rw [getElem!_pos d i hi]; exact Array.mem_toList_iff.2 (Array.getElem_mem hi)
theorem RowS.owAt (h : RowS w0 w base e A n c d) {i : Nat} (hi : i < n) : RowB.ow w base d[i]! := h.ow _ (arr_mem (by rw [h.size]; exact hi))
theorem RowS.ok (h : RowS w0 w base e A n c d) {i : Nat} (hi : i < n) : RowT.ok d[i]! w := RowB.ok _ _ _ (h.owAt hi)
theorem RowS.there (h : RowS w0 w base e A n c d) {g : Nat} (hA : A = some ⟨g, 0, none⟩) {i : Nat} (hi : i < n) : w.there g (i * RowT.sz α) (RowT.sz α) := by
 have hl := h.own.1
 have h1 : i * RowT.sz α + RowT.sz α ≤ n * RowT.sz α := by
  have := Nat.mul_le_mul_right (RowT.sz α) (show i + 1 ≤ n from hi)
  rwa [Nat.add_mul, Nat.one_mul] at this
 have ho := h.own
 subst hA
 intro j hj
 exact ⟨by rw [ho.cellAt (i * RowT.sz α + j) (by omega), List.getElem?_eq_getElem (by omega)]; rfl, ho.frozenAt _⟩
theorem RowS.set (h : RowS w0 w base e A n c d) {g : Nat} (hA : A = some ⟨g, 0, none⟩) {i : Nat} (hi : i < n) (x : α) (hx : RowB.ow w base x) : RowS w0 (w.setCells g (i * RowT.sz α) (RowT.enc x)) base e A n c (d.setIfInBounds i x) := by
 have hs := h.size
 have ho := h.own
 subst hA
 obtain ⟨h1, h2⟩ := own_splice (RowT.enc x) (i * RowT.sz α) w (gcs d.toList) (by
  rw [RowT.len, gcs_length]
  have := Nat.mul_le_mul_right (RowT.sz α) (show i + 1 ≤ d.toList.length from by simp; omega)
  rwa [Nat.add_mul, Nat.one_mul] at this) ho
 rw [gcs_set _ _ _ (by simp; omega)] at h1
 refine ⟨by rw [Array.toList_setIfInBounds]; exact h1, fun y hy => ?_, Grown.trans h.gr h2, h.ne⟩
 rw [Array.toList_setIfInBounds] at hy
 rcases List.mem_or_eq_of_mem_set hy with hy | rfl
 ·exact RowB.kept _ _ _ _ _ _ _ _ _ _ _ (h.ow y hy) ho h.ne h2
 ·exact RowB.kept _ _ _ _ _ _ _ _ _ _ _ hx ho h.ne h2
theorem RowS.keep (h : RowS w0 w base e A n c d) {g : Nat} (hA : A = some ⟨g, 0, none⟩) (o : Nat) (vs : List Value) {x : α} (hx : RowB.ow w base x) : RowB.ow (w.setCells g o vs) base x := by
 have ho := h.own
 subst hA
 exact RowB.kept _ _ _ _ _ _ _ _ _ _ _ hx ho h.ne (grown_setCells' _ _ _ _)
theorem RowS.swap (h : RowS w0 w base e A n c d) {g : Nat} (hA : A = some ⟨g, 0, none⟩) {i j : Nat} (hi : i < n) (hj : j < n) :
  RowS w0 ((w.setCells g (i * RowT.sz α) (RowT.enc d[j]!)).setCells g (j * RowT.sz α) (RowT.enc d[i]!)) base e A n c (Sort.swp d i j) :=
 (h.set hA hi _ (h.owAt hj)).set hA hj _ (h.keep hA _ _ (h.owAt hi))
theorem RowS.trans {w1 : World} (h : RowS w0 w1 base e A n c d) {d' : Array α} (k : RowS w1 w base e A n c d') : RowS w0 w base e A n c d' := ⟨k.own, k.ow, Grown.trans h.gr k.gr, k.ne⟩
end
theorem ownB_kept {w w' : World} {b b' n0 n1 sz c0 : Nat} {c1 : Nat} {A0 A1 : Option Addr} {l : List UInt8} {e : TypeId} {xs : List Value} (h : OwnB w b 5 A0 n0 c0 l) (hr : w.ownsRow b' e sz (.slice A1 n1 c1) n1 xs) (hne : e ≠ 5) (hg : w.grownBy w' (Value.ownBlock (.slice A1 n1 c1))) : OwnB w' b 5 A0 n0 c0 l :=
 World.ownsRow.kept h hg (own_ne h hr (Ne.symm hne))
instance : RowB SgR where
 ow w b S := OwnB w b 5 S.A S.n S.c S.sig ∧ S.v.wf
 ok S w b h := ⟨h.2, h.1.sl⟩
 ext S w w' b h he := ⟨h.1.ext he, h.2⟩
 kept S w w' b b' e sz A n c xs h hr hne hg := ⟨ownB_kept h.1 hr hne hg, h.2⟩
 mono S w b b' h hb := ⟨own_mono h.1 hb, h.2⟩
instance : RowB TeR where
 ow w b T := OwnB w b 5 T.A T.n T.c T.l
 ok T w b h := h.sl
 ext T w w' b h he := h.ext he
 kept T w w' b b' e sz A n c xs h hr hne hg := ownB_kept h hr hne hg
 mono T w b b' h hb := own_mono h hb
/-! signed votes loaded and stored, as values under a name of their own -/
section
variable {ops : Array Oper} {o : Oper} {a : Act} {w : World} {K : Act → World → Prop} {Q : Exit → Act → World → Prop} {X : Prop}
theorem step_loadSg (hgd : o.guard = none) (x : Operand) (ho : o.op = .load 48 x) (b of : Nat) (hx : a.eval x = .pointer (some ⟨b, of, none⟩)) (R : SgR) (hc : w.rangeAt b of (sgL R)) (v : Value) (hv : Value.agg (sgA R) = v)
  (h : K (a.put o.dst v) w) : if Region.wanted o (yielded ops a.tmps) = true then Oper.wp Tryz.prog o a w K Q else X := by
 have hw : Region.wanted o (yielded ops a.tmps) = true := by simp [Region.wanted, hgd]
 rw [if_pos hw]
 have := wp_load_mid (P := Tryz.prog) (Q := Q) (op := o) (K := K) 48 x ho b of hx (sgL R) _ hc Tryz.underlying48 rfl (by rw [sgL_length]; kernel_rfl)
 rw [sgL_arr, hv] at this
 exact this h
theorem step_storeSg (hgd : o.guard = none) (x y : Operand) (ho : o.op = .store 48 x y) (b of : Nat) (hx : a.eval x = .pointer (some ⟨b, of, none⟩)) (R : SgR) (v : Value) (hv : Value.agg (sgA R) = v) (hy : a.eval y = v) (ht : w.there b of 23)
  (h : K (a.put o.dst undef) (w.setCells b of (sgL R))) : if Region.wanted o (yielded ops a.tmps) = true then Oper.wp Tryz.prog o a w K Q else X := by
 have hw : Region.wanted o (yielded ops a.tmps) = true := by simp [Region.wanted, hgd]
 rw [if_pos hw]
 exact wp_store_mid (P := Tryz.prog) (Q := Q) (op := o) (K := K) 48 x y ho b of (sgA R) hx (by rw [hy, ← hv]) ht (by kernel_rfl) (sgA_all R) h
theorem yields_loadSgV {S : World → Prop} (hw : Region.wanted o (yielded ops a.tmps) = true) (x : Operand) (ho : o.op = .load 48 x) (b of : Nat) (hx : a.eval x = .pointer (some ⟨b, of, none⟩)) (R : SgR) (v : Value) (hv : Value.agg (sgA R) = v) (hS : ∀ w, S w → w.rangeAt b of (sgL R)) : YieldsIf Tryz.prog ops S o v a := by
 rw [← hv]
 exact yieldsIf_load_mid hw 48 x ho b of hx (sgL R) _ hS Tryz.underlying48 rfl (by rw [sgL_length]; kernel_rfl)
end
end Go.Proofs.YtbfepgjeecndiaaGreat
