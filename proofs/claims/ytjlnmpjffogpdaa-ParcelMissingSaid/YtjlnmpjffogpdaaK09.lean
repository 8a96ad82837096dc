/- Votes, signed votes, texts and views as values; two votes held against each other. -/
import Derived.Test.YtjlnmpjffogpdaaK08
import Derived.Test.YtjlnmpjffogpdaaK07
namespace Go.Proofs.Ytjlnmpjffogpdaa
open Go.RowKit
set_option linter.unusedVariables false
set_option linter.unusedSimpArgs false
attribute [local go_sem ↓] Go.wp_at_zero Go.wp_at_succ

/-- a vote -/
structure VtR where
  k : Int
  sl : Int
  ro : Int
  ch : Int
  si : Int
  su : Int
  pa : UInt64
  va : UInt64
deriving DecidableEq
def wfI (z : Int) : Prop := (Lit.int .i64 z).wf = true
structure VtR.wf (v : VtR) : Prop where
  k : wfI v.k
  sl : wfI v.sl
  ro : wfI v.ro
  ch : wfI v.ch
  si : wfI v.si
  su : wfI v.su
abbrev vtA (v : VtR) : Array Value := #[.int .i64 v.k, .int .i64 v.sl, .int .i64 v.ro, .int .i64 v.ch, .int .i64 v.si, .int .i64 v.su, .int .u8 (nb8 v.pa 0), .int .u8 (nb8 v.pa 1), .int .u8 (nb8 v.pa 2), .int .u8 (nb8 v.pa 3), .int .u8 (nb8 v.pa 4), .int .u8 (nb8 v.pa 5), .int .u8 (nb8 v.pa 6), .int .u8 (nb8 v.pa 7), .int .u8 (nb8 v.va 0), .int .u8 (nb8 v.va 1), .int .u8 (nb8 v.va 2), .int .u8 (nb8 v.va 3), .int .u8 (nb8 v.va 4), .int .u8 (nb8 v.va 5), .int .u8 (nb8 v.va 6), .int .u8 (nb8 v.va 7)]
def vtL (v : VtR) : List Value := (vtA v).toList
theorem vtL_length (v : VtR) : (vtL v).length = 22 := rfl
theorem vtL_arr (v : VtR) : (vtL v).toArray = vtA v := rfl
theorem vtL_one (v : VtR) : ∀ u ∈ vtL v, u.oneCell' = true := by
  intro u hu
  simp only [vtL, List.mem_cons, List.not_mem_nil, or_false] at hu
  rcases hu with rfl | rfl | rfl | rfl | rfl | rfl | rfl | rfl | rfl | rfl | rfl | rfl | rfl | rfl | rfl | rfl | rfl | rfl | rfl | rfl | rfl | rfl <;> rfl
theorem vtA_all (v : VtR) : (vtA v).all (·.oneCell') = true := all_oneCell_toArray (vtL_one v)
instance : RowT VtR where
  sz := 22
  z := ⟨0, 0, 0, 0, 0, 0, 0, 0⟩
  enc := vtL
  ok v w := v.wf
  pos := by decide
  len := vtL_length
  one := vtL_one
  ext _ _ _ h _ := h
/-- a vote with its signature -/
structure SgR where
  v : VtR
  A : Option Addr
  n : Nat
  c : Nat
  sig : List UInt8
abbrev sgA (S : SgR) : Array Value := #[.int .i64 S.v.k, .int .i64 S.v.sl, .int .i64 S.v.ro, .int .i64 S.v.ch, .int .i64 S.v.si, .int .i64 S.v.su, .int .u8 (nb8 S.v.pa 0), .int .u8 (nb8 S.v.pa 1), .int .u8 (nb8 S.v.pa 2), .int .u8 (nb8 S.v.pa 3), .int .u8 (nb8 S.v.pa 4), .int .u8 (nb8 S.v.pa 5), .int .u8 (nb8 S.v.pa 6), .int .u8 (nb8 S.v.pa 7), .int .u8 (nb8 S.v.va 0), .int .u8 (nb8 S.v.va 1), .int .u8 (nb8 S.v.va 2), .int .u8 (nb8 S.v.va 3), .int .u8 (nb8 S.v.va 4), .int .u8 (nb8 S.v.va 5), .int .u8 (nb8 S.v.va 6), .int .u8 (nb8 S.v.va 7), .slice S.A S.n S.c]
def sgL (S : SgR) : List Value := (sgA S).toList
theorem sgL_length (S : SgR) : (sgL S).length = 23 := rfl
theorem sgL_arr (S : SgR) : (sgL S).toArray = sgA S := rfl
theorem sgL_one (v : SgR) : ∀ u ∈ sgL v, u.oneCell' = true := by
  intro u hu
  simp only [sgL, List.mem_cons, List.not_mem_nil, or_false] at hu
  rcases hu with rfl | rfl | rfl | rfl | rfl | rfl | rfl | rfl | rfl | rfl | rfl | rfl | rfl | rfl | rfl | rfl | rfl | rfl | rfl | rfl | rfl | rfl | rfl <;> rfl
theorem sgA_all (v : SgR) : (sgA v).all (·.oneCell') = true := all_oneCell_toArray (sgL_one v)
structure SgR.ok (S : SgR) (w : World) : Prop where
  v : S.v.wf
  sig : SlB w S.A S.n S.c S.sig
theorem SgR.ok.ext {S : SgR} {w w' : World} (h : S.ok w) (e : Ext w w') : S.ok w' := ⟨h.v, h.sig.ext e⟩
instance : RowT SgR where
  sz := 23
  z := ⟨⟨0, 0, 0, 0, 0, 0, 0, 0⟩, none, 0, 0, []⟩
  enc := sgL
  ok S w := S.ok w
  pos := by decide
  len := sgL_length
  one := sgL_one
  ext _ _ _ h e := h.ext e
/-- a text: a slice of bytes -/
structure TeR where
  A : Option Addr
  n : Nat
  c : Nat
  l : List UInt8
def teL (T : TeR) : List Value := [.slice T.A T.n T.c]
def TeR.ok (T : TeR) (w : World) : Prop := SlB w T.A T.n T.c T.l
instance : RowT TeR where
  sz := 1
  z := ⟨none, 0, 0, []⟩
  enc := teL
  ok T w := T.ok w
  pos := by decide
  len _ := rfl
  one x u hu := by rw [List.mem_singleton.1 hu]; rfl
  ext _ _ _ h e := SlB.ext h e
/-- the cells of a view -/
abbrev vwA (A : Option Addr) (n c : Nat) (B : Option Addr) (m d : Nat) : Array Value := #[.slice A n c, .slice B m d]
section
variable {o : Oper} {a : Act} {w : World} {ops : Array Oper} {rest : List Oper} {Q : Exit → Act → World → Prop}
theorem wpList_loadVt (hgd : o.guard = none) (x : Operand) (ho : o.op = .load 28 x) (b of : Nat) (hx : a.eval x = .pointer (some ⟨b, of, none⟩)) (R : VtR) (hc : w.rangeAt b of (vtL R))
    (h : wpList Try.prog ops Q rest (a.put o.dst (.agg (vtA R))) w) : wpList Try.prog ops Q (o :: rest) a w := by
  have := wpList_load_mid (P := Try.prog) (Q := Q) (ops := ops) (rest := rest) hgd 28 x ho b of hx (vtL R) _ hc Try.underlying28 rfl (by rw [vtL_length]; kernel_rfl)
  rw [vtL_arr] at this
  exact this h
theorem wpList_newVt (hgd : o.guard = none) (x y : Operand) (ho : o.op = .store 28 x y) (cs : Array Value) (hcs : cs.size = 22) (R : VtR) (hx : a.eval x = .pointer (some ⟨w.heap.size, 0, none⟩)) (hy : a.eval y = .agg (vtA R))
    (h : wpList Try.prog ops Q rest (a.put o.dst undef) (w.alloc (.cells (vtA R) 28))) : wpList Try.prog ops Q (o :: rest) a (w.alloc (.cells cs 28)) := by
  have ht := there_of_blk (Blk.new w 28 cs)
  rw [hcs] at ht
  refine wpList_store_mid hgd 28 x y ho w.heap.size 0 (vtA R) hx hy ht (by kernel_rfl) (vtA_all R) ?_
  rw [setCells_whole w 28 cs (vtA R) (by rw [hcs]; rfl)]
  exact h
theorem wpList_loadSg (hgd : o.guard = none) (x : Operand) (ho : o.op = .load 45 x) (b of : Nat) (hx : a.eval x = .pointer (some ⟨b, of, none⟩)) (R : SgR) (hc : w.rangeAt b of (sgL R))
    (h : wpList Try.prog ops Q rest (a.put o.dst (.agg (sgA R))) w) : wpList Try.prog ops Q (o :: rest) a w := by
  have := wpList_load_mid (P := Try.prog) (Q := Q) (ops := ops) (rest := rest) hgd 45 x ho b of hx (sgL R) _ hc Try.underlying45 rfl (by rw [sgL_length]; kernel_rfl)
  rw [sgL_arr] at this
  exact this h
theorem wpList_newSg (hgd : o.guard = none) (x y : Operand) (ho : o.op = .store 45 x y) (cs : Array Value) (hcs : cs.size = 23) (R : SgR) (hx : a.eval x = .pointer (some ⟨w.heap.size, 0, none⟩)) (hy : a.eval y = .agg (sgA R))
    (h : wpList Try.prog ops Q rest (a.put o.dst undef) (w.alloc (.cells (sgA R) 45))) : wpList Try.prog ops Q (o :: rest) a (w.alloc (.cells cs 45)) := by
  have ht := there_of_blk (Blk.new w 45 cs)
  rw [hcs] at ht
  refine wpList_store_mid hgd 45 x y ho w.heap.size 0 (sgA R) hx hy ht (by kernel_rfl) (sgA_all R) ?_
  rw [setCells_whole w 45 cs (sgA R) (by rw [hcs]; rfl)]
  exact h
end
/-! two votes held against each other -/
theorem wfI_key (x : Int) (hx : wfI x) : Try.prog.keyLits 2 3 [.int .i64 x] = some [.int .i64 x] := by
  unfold Program.keyLits
  rw [Try.underlying3]
  simp only
  rw [if_pos ⟨trivial, hx⟩]
theorem wfI_mask (x : Int) (hx : wfI x) : Try.prog.keyLits 2 24 [.int .i64 x] = some [.int .i64 x] := by
  unfold Program.keyLits
  rw [Try.underlying24]
  simp only
  rw [if_pos ⟨trivial, hx⟩]
def vtK (v : VtR) : List Lit := [.int .i64 v.k, .int .i64 v.sl, .int .i64 v.ro, .int .i64 v.ch, .int .i64 v.si, .int .i64 v.su] ++ ((nmb v.pa).map litB ++ (nmb v.va).map litB)
def vtC (v : VtR) : List Value := [.int .i64 v.k, .int .i64 v.sl, .int .i64 v.ro, .int .i64 v.ch, .int .i64 v.si, .int .i64 v.su] ++ (bcs (nmb v.pa) ++ bcs (nmb v.va))
theorem vtL_C (v : VtR) : vtL v = vtC v := by unfold vtC; rw [bcs_nb8, bcs_nb8]; rfl
theorem vtK_inj {a b : VtR} (h : vtK a = vtK b) : a = b := by
  unfold vtK at h
  simp only [List.cons_append, List.nil_append, List.cons.injEq, Lit.int.injEq, true_and] at h
  obtain ⟨h1, h2, h3, h4, h5, h6, h7⟩ := h
  have h8 := List.append_inj h7 (by simp [nmb_length])
  have h9 := litB_inj h8.1
  have h10 := litB_inj h8.2
  cases a; cases b
  simp only at *
  subst h1; subst h2; subst h3; subst h4; subst h5; subst h6; subst h9; subst h10
  rfl
theorem keyVt (v : VtR) (h : v.wf) : Try.prog.keyLits 3 28 (vtC v) = some (vtK v) := by
  obtain ⟨h1, h2, h3, h4, h5, h6⟩ := h
  have c1 : Try.prog.cellsOf 3 = 1 := by kernel_rfl
  have cm : Try.prog.cellsOf 24 = 1 := by kernel_rfl
  have c22 : Try.prog.cellsOf 28 = 22 := by kernel_rfl
  have hp : (bcs (nmb v.pa)).length = 8 := by rw [bcs_length, nmb_length]
  have hv : (bcs (nmb v.va)).length = 8 := by rw [bcs_length, nmb_length]
  have t8 : (bcs (nmb v.pa) ++ bcs (nmb v.va)).take 8 = bcs (nmb v.pa) := by rw [← hp]; exact List.take_left
  have d8 : (bcs (nmb v.pa) ++ bcs (nmb v.va)).drop 8 = bcs (nmb v.va) := by rw [← hp]; exact List.drop_left
  have t8' : (bcs (nmb v.va)).take 8 = bcs (nmb v.va) := List.take_of_length_le (by omega)
  have hl : (vtC v).length = 22 := by unfold vtC; rw [List.length_append, List.length_append, hp, hv]; rfl
  unfold Program.keyLits
  rw [Try.underlying28]
  simp only
  rw [if_pos ⟨by rw [hl, c22], by kernel_rfl⟩]
  simp only [List.mapM_cons, List.mapM_nil, c1, cm, cellsN, vtC, List.cons_append, List.nil_append, List.drop_zero, List.drop_succ_cons, List.take_succ_cons, List.take_zero, wfI_key _ h1, wfI_key _ h2, wfI_key _ h3, wfI_key _ h4, wfI_key _ h5, wfI_mask _ h6, t8, d8, t8', keyName]
  simp [vtK]
theorem eqIn_Vt (a b : VtR) (ha : a.wf) (hb : b.wf) (w : World) : (Op.equalIn 10000 28 (.agg (vtA a)) (.agg (vtA b))).run Try.prog w = .ok (decide (a = b)) w := by
  have hE := run_equalIn_deep (P := Try.prog) 9997 3 28 (by kernel_rfl)
  have hfm : ∀ v : VtR, (Value.agg (vtA v)).formed Try.prog 28 = true := fun v => by
    have c22 : Try.prog.cellsOf 28 = 22 := by kernel_rfl
    simp [Value.formed, Try.underlying28, c22]
  have hk : ∀ v : VtR, v.wf → Try.prog.keyLits 3 28 (Value.agg (vtA v)).cells.toList = some (vtK v) := fun v h => by
    show Try.prog.keyLits 3 _ (vtL v) = _
    rw [vtL_C]; exact keyVt v h
  obtain ⟨r, hr, hiff⟩ := hE w 3 3 _ _ _ _ (hfm a) (hfm b) (hk a ha) (hk b hb)
  have hr' : (Op.equalIn 10000 28 (.agg (vtA a)) (.agg (vtA b))).run Try.prog w = .ok r w := hr
  rw [hr']
  have : r = decide (a = b) := by
    by_cases h : a = b
    · subst h; simp [hiff.2 rfl]
    · have : r ≠ true := fun e => h (vtK_inj (hiff.1 e))
      simp [h, this]
  rw [this]
theorem run_eqVt (a b : VtR) (ha : a.wf) (hb : b.wf) (w : World) : (binOp .eql 28 (.agg (vtA a)) (.agg (vtA b))).run Try.prog w = .ok (.bool (decide (a = b))) w := by
  rw [run_eql_struct, eqIn_Vt a b ha hb w]
  rfl
/-- two signed votes compared -/
def eqSg (a b : SgR) : Bool := decide (a.v = b.v) && decide (a.sig = b.sig)
def eqTe (a b : TeR) : Bool := decide (a.l = b.l)
end Go.Proofs.Ytjlnmpjffogpdaa
