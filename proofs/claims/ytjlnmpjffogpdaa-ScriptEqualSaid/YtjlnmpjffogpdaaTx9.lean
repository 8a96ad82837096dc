/- Decode (the program's): what is read, and the state of the walk. -/
import Derived.Test.YtjlnmpjffogpdaaTx8
namespace Go.Proofs.Ytjlnmpjffogpdaa
open Go.RowKit
set_option linter.unusedVariables false
set_option linter.unusedSimpArgs false
attribute [local go_sem ↓] Go.wp_at_zero Go.wp_at_succ

/-! what is read: operations, one behind the other -/
def stO (s : Option (List UInt8)) : Nat → Option (List UInt8)
  | 0 => s
  | k + 1 => (rdOp (stO s k)).2
def ltV (s : Option (List UInt8)) (k : Nat) : List OpV := (List.range k).map fun j => (rdOp (stO s j)).1
theorem ltV_length (s : Option (List UInt8)) (k : Nat) : (ltV s k).length = k := by simp [ltV]
theorem ltV_succ (s : Option (List UInt8)) (k : Nat) : ltV s (k + 1) = ltV s k ++ [(rdOp (stO s k)).1] := by
  simp [ltV, List.range_succ]
theorem rdOp_none : (rdOp none).2 = none := by
  simp [rdOp, rdK, rNum, rRest]
theorem stO_none {s : Option (List UInt8)} {k : Nat} (h : stO s k = none) (j : Nat) : stO s (k + j) = none := by
  induction j with
  | zero => exact h
  | succ j ih => show (rdOp (stO s (k + j))).2 = none; rw [ih, rdOp_none]
/-- when an operation is valid, in plain values -/
def vOpV (v : OpV) : Bool :=
  decide (1 ≤ v.k ∧ v.k ≤ 6) && (numU (fTo v.k) v.to 0 15 && (numU (fAm v.k) v.am 1 1099511627776 && (numU (fUl v.k) v.ul 1 1000 && (numU (fVa v.k) v.va 0 9 && (numU (fPre v.k) (v.pre.length : Int) 0 32 && (numU (fPrf v.k) (v.prf.length : Int) 1 2000 && ((fUl v.k || decide (v.hs = 0)) && (fLk v.k || decide (v.lk = 0)))))))))
theorem vOp_v {R : OpR} (h1 : R.pre.length = R.n1) (h2 : R.prf.length = R.n2) : vOp R = vOpV R.v := by
  unfold vOp vOpV OpR.v; simp only [h1, h2]
def vTxV (ac sq : Int) (V : List OpV) : Bool := vHead ac sq V.length && V.all vOpV
theorem vTx_v {ac sq : Int} {L : List OpR} (h : ∀ R, R ∈ L → vOp R = vOpV R.v) : vTx ac sq L = vTxV ac sq (L.map OpR.v) := by
  unfold vTx vTxV
  rw [List.length_map]
  congr 1
  rw [Bool.eq_iff_iff]
  simp only [decide_eq_true_eq, List.all_eq_true, List.mem_map]
  constructor
  · rintro hh _ ⟨R, hR, rfl⟩
    obtain ⟨k, hk, rfl⟩ := List.getElem_of_mem hR
    have := hh k hk
    have e : L[k] = nthO L k := by simp [nthO, hk]
    rw [← h _ hR, e]; exact this
  · intro hh k hk
    rw [h _ (nthO_mem hk)]
    exact hh _ ⟨_, nthO_mem hk, rfl⟩
/-- what Decode returns -/
def decTx (l : List UInt8) : Option (Int × Int × List OpV × List UInt8) :=
  let s1 := rRest 1 (some l)
  let s2 := rRest 1 s1
  let n := (rNum 1 s2).toNat
  let s4 := stO (rRest 1 s2) n
  let V := ltV (rRest 1 s2) n
  if rAft s4 = some [] ∧ vTxV (rNum 1 (some l)) (rNum 1 s1) V = true ∧ (rBlob s4).length = 186 then some (rNum 1 (some l), rNum 1 s1, V, rBlob s4) else none
/-- the same, its parts named -/
def decIn (ac sq : Int) (s3 : Option (List UInt8)) (n : Nat) : Option (Int × Int × List OpV × List UInt8) :=
  if rAft (stO s3 n) = some [] ∧ vTxV ac sq (ltV s3 n) = true ∧ (rBlob (stO s3 n)).length = 186 then some (ac, sq, ltV s3 n, rBlob (stO s3 n)) else none
theorem decTx_in (l : List UInt8) : decTx l = decIn (rNum 1 (some l)) (rNum 1 (rRest 1 (some l))) (rRest 1 (rRest 1 (rRest 1 (some l)))) (rNum 1 (rRest 1 (rRest 1 (some l)))).toNat := rfl
theorem decIn_no1 {ac sq : Int} {s3 : Option (List UInt8)} {n : Nat} (h : rAft (stO s3 n) ≠ some []) : decIn ac sq s3 n = none := by
  unfold decIn; rw [if_neg (fun hh => h hh.1)]
theorem decIn_no2 {ac sq : Int} {s3 : Option (List UInt8)} {n : Nat} (h : vTxV ac sq (ltV s3 n) = false) : decIn ac sq s3 n = none := by
  unfold decIn; rw [if_neg (fun hh => by rw [hh.2.1] at h; cases h)]
theorem decIn_no3 {ac sq : Int} {s3 : Option (List UInt8)} {n : Nat} (h : (rBlob (stO s3 n)).length ≠ 186) : decIn ac sq s3 n = none := by
  unfold decIn; rw [if_neg (fun hh => h hh.2.2)]
theorem decIn_yes {ac sq : Int} {s3 : Option (List UInt8)} {n : Nat} (h1 : rAft (stO s3 n) = some []) (h2 : vTxV ac sq (ltV s3 n) = true) (h3 : (rBlob (stO s3 n)).length = 186) : decIn ac sq s3 n = some (ac, sq, ltV s3 n, rBlob (stO s3 n)) := by
  unfold decIn; rw [if_pos ⟨h1, h2, h3⟩]
theorem decIn_bad {ac sq : Int} {s3 : Option (List UInt8)} {n k : Nat} (hk : k ≤ n) (h : stO s3 k = none) : decIn ac sq s3 n = none := by
  refine decIn_no1 ?_
  rw [show n = k + (n - k) by omega, stO_none h]; simp [rAft]
theorem decIn_bad2 {ac sq : Int} {s3 : Option (List UInt8)} {n k : Nat} (hk : k < n) (h : vOpV (rdOp (stO s3 k)).1 = false) : decIn ac sq s3 n = none := by
  refine decIn_no2 ?_
  unfold vTxV
  rw [Bool.and_eq_false_iff]
  refine .inr ?_
  rw [List.all_eq_false]
  exact ⟨(rdOp (stO s3 k)).1, List.mem_map.2 ⟨k, List.mem_range.2 hk, rfl⟩, by rw [h]; simp⟩
/-- rows of different types do not lie in one block -/
theorem own_ne {w : World} {base base' : Nat} {e e' : TypeId} {size size' : Nat} {A A' : Option Addr} {n n' c c' : Nat} {xs xs' : List Value} (h : w.ownsRow base e size (.slice A n c) n xs) (h' : w.ownsRow base' e' size' (.slice A' n' c') n' xs') (hne : e ≠ e') : (Value.slice A n c).ownBlock = none ∨ (Value.slice A n c).ownBlock ≠ (Value.slice A' n' c').ownBlock := by
  rcases h.2 with ⟨hv, _⟩ | ⟨g, cap, cur, hv, _, hh, _⟩
  · exact .inl (by rw [hv]; simp [Value.ownBlock])
  · refine .inr ?_
    have := own_other (t := e) (cs := cur) h' hh hne
    rw [hv]; exact this
theorem opE : Elem Try.prog 23 58 (.agg zeroO) 23 104 := ⟨Try.underlying23, by kernel_rfl, rfl, by decide⟩
theorem run_buildO1 (R : OpR) (w : World) : (Instr.buildSlice 23 1 #[(0, .agg (opA R))]).run Try.prog w = .ok (.slice (some ⟨w.heap.size, 0, none⟩) 1 1) (w.alloc (.cells (opA R) 58)) := by kernel_rfl
section
variable {P : Program} {t e : TypeId} {z : Value} {size bytes : Nat}
/-- append to a row of one's own: what became of the world, whole -/
theorem wpList_appGG {ops : Array Oper} {rest : List Oper} {o : Oper} {a : Act} {w : World} {Q : Exit → Act → World → Prop} (E : Elem P t e z size bytes) (hgd : o.guard = none) (s x : Operand)
    (ho : o.op = .call { callee := .builtin .append, args := #[s, x], argTypes := #[t, t] })
    (base : Nat) (A : Option Addr) (n c : Nat) (xs : List Value) (hs : a.eval s = .slice A n c) (hown : w.ownsRow base e size (.slice A n c) n xs)
    (A2 : Option Addr) (m c2 : Nat) (ys : List Value) (hx : a.eval x = .slice A2 m c2) (hr : Rd w A2 ys) (hl : ys.length = m * size) (h1 : ∀ u ∈ ys, u.oneCell' = true)
    (hb : (n + m) * bytes ≤ 140737488355328) (h63 : n + m ≤ 4611686018427387904) (hbase : base ≤ w.heap.size)
    (h : ∀ A' c' w', w'.ownsRow base e size (.slice A' (n + m) c') (n + m) (xs ++ ys) → w.grownBy w' (Value.ownBlock (.slice A n c)) → wpList P ops Q rest (a.put o.dst (.slice A' (n + m) c')) w') : wpList P ops Q (o :: rest) a w :=
  wpList_plain hgd fun K hK => wp_app E s x ho base A n c xs hs hown A2 m c2 ys hx hr hl h1 hb h63 hbase fun A' c' w' h2 h3 => hK _ _ (h A' c' w' h2 h3)
end
abbrev zero4 : Array Value := #[.int .i64 0, .int .i64 0, .slice none 0 0, .slice none 0 0]
def OwnOp (w : World) (base : Nat) (R : OpR) : Prop := OwnB w base 5 R.A1 R.n1 R.c1 R.pre ∧ OwnB w base 5 R.A2 R.n2 R.c2 R.prf
theorem OwnOp.ok {w : World} {base : Nat} {R : OpR} (h : OwnOp w base R) : R.ok w := ⟨h.1.sl, h.2.sl⟩
theorem OwnOp.kept {w w' : World} {base : Nat} {R : OpR} {X : Nat} {t : TypeId} {cs : Array Value} (h : OwnOp w base R) (hg : w.grownBy w' (some X)) (hb : Blk w X t cs) (hne : t ≠ 5) : OwnOp w' base R :=
  ⟨World.ownsRow.kept h.1 hg (.inr (Ne.symm (own_other h.1 hb hne))), World.ownsRow.kept h.2 hg (.inr (Ne.symm (own_other h.2 hb hne)))⟩
theorem OwnOp.ext {w w' : World} {base : Nat} {R : OpR} (h : OwnOp w base R) (he : Ext w w') : OwnOp w' base R := ⟨OwnB.ext h.1 he, OwnB.ext h.2 he⟩
theorem OwnOp.mono {w : World} {base base' : Nat} {R : OpR} (h : OwnOp w base R) (hb : base' ≤ base) : OwnOp w base' R := ⟨own_mono h.1 hb, own_mono h.2 hb⟩
/-- a transaction with its signature, and what its slices hold -/
structure TxR where
  ac : Int
  sq : Int
  A : Option Addr
  n : Nat
  c : Nat
  S : Option Addr
  m : Nat
  d : Nat
  L : List OpR
  sig : List UInt8
abbrev tA (T : TxR) : Array Value := stA T.ac T.sq T.A T.n T.c T.S T.m T.d
def TxR.v (T : TxR) : Int × Int × List OpV × List UInt8 := (T.ac, T.sq, T.L.map OpR.v, T.sig)
structure TxR.ok (T : TxR) (w : World) : Prop where
  ops : SlO w T.A T.n T.c T.L
  sig : SlB w T.S T.m T.d T.sig
theorem TxR.ok.ext {T : TxR} {w w' : World} (h : T.ok w) (e : Ext w w') : T.ok w' := ⟨h.ops.ext e, h.sig.ext e⟩
/-- its rows are the call's own -/
structure OwnT (w : World) (base : Nat) (T : TxR) : Prop where
  own : w.ownsRow base 58 23 (.slice T.A T.n T.c) T.n (ocs T.L)
  ops : ∀ R, R ∈ T.L → OwnOp w base R
  sig : OwnB w base 5 T.S T.m T.d T.sig
theorem OwnT.ok {w : World} {base : Nat} {T : TxR} (h : OwnT w base T) : T.ok w :=
  ⟨⟨by have := h.own.1; rw [ocs_length] at this; omega, (own_cap h.own).1, (own_cap h.own).2, Rd.of_own h.own, fun R hR => (h.ops R hR).ok⟩, h.sig.sl⟩
theorem OwnT.mono {w : World} {base base' : Nat} {T : TxR} (h : OwnT w base T) (hb : base' ≤ base) : OwnT w base' T := ⟨own_mono h.own hb, fun R hR => (h.ops R hR).mono hb, own_mono h.sig hb⟩
theorem OwnT.ext {w w' : World} {base : Nat} {T : TxR} (h : OwnT w base T) (he : Ext w w') : OwnT w' base T := ⟨own_ext h.own he, fun R hR => (h.ops R hR).ext he, OwnB.ext h.sig he⟩
theorem OwnT.kept {w w' : World} {base : Nat} {T : TxR} {X : Nat} {t : TypeId} {cs : Array Value} (h : OwnT w base T) (hg : w.grownBy w' (some X)) (hb : Blk w X t cs) (hne : t ≠ 5) (hne2 : t ≠ 58) : OwnT w' base T :=
  ⟨h.own.kept hg (.inr (Ne.symm (own_other h.own hb hne2))), fun R hR => (h.ops R hR).kept hg hb hne, World.ownsRow.kept h.sig hg (.inr (Ne.symm (own_other h.sig hb hne)))⟩
/-- the state of Decode: the cursor in B, the transaction in X, its operations in a row of one's own -/
structure TdB (w0 w : World) (B X : Nat) (ac sq : Int) (A : Option Addr) (n c : Nat) (S : Option Addr) (m d : Nat) (L : List OpR) (G : List UInt8) (s : Option (List UInt8)) : Prop where
  cur : CurAt 156 w0.heap.size w B s
  blk : Blk w X 145 (stA ac sq A n c S m d)
  own : w.ownsRow w0.heap.size 58 23 (.slice A n c) n (ocs L)
  ops : ∀ R, R ∈ L → OwnOp w w0.heap.size R
  sig : OwnB w w0.heap.size 5 S m d G
  low : Ext w0 w
  hB : w0.heap.size ≤ B
  hX : w0.heap.size < X
  res : Blk w w0.heap.size 145 zero4
section
variable {w0 w w' : World} {B X : Nat} {ac sq : Int} {A S : Option Addr} {n c m d : Nat} {L : List OpR} {G : List UInt8} {s s' : Option (List UInt8)}
theorem TdB.ne (h : TdB w0 w B X ac sq A n c S m d L G s) : X ≠ B := by
  obtain ⟨cs, hb⟩ := cur_blk h.cur
  exact blk_ne h.blk hb (by decide)
theorem TdB.ext (h : TdB w0 w B X ac sq A n c S m d L G s) (he : Ext w w') : TdB w0 w' B X ac sq A n c S m d L G s :=
  ⟨h.cur.ext he, h.blk.ext he, own_ext h.own he, fun R hR => (h.ops R hR).ext he, OwnB.ext h.sig he, h.low.trans he, h.hB, h.hX, h.res.ext he⟩
theorem TdB.read (h : TdB w0 w B X ac sq A n c S m d L G s) (hc : CurAt 156 w0.heap.size w' B s') (hg : w.grownBy w' (some B)) : TdB w0 w' B X ac sq A n c S m d L G s' := by
  obtain ⟨cs, hb⟩ := cur_blk h.cur
  exact ⟨hc, h.blk.grown hg (fun e => h.ne (by injection e)), h.own.kept hg (.inr (Ne.symm (own_other h.own hb (by decide)))), fun R hR => (h.ops R hR).kept hg hb (by decide), World.ownsRow.kept h.sig hg (.inr (Ne.symm (own_other h.sig hb (by decide)))), ext_grown h.low hg h.hB, h.hB, h.hX, h.res.grown hg (fun e => blk_ne h.res hb (by decide) (by injection e))⟩
theorem TdB.len (h : TdB w0 w B X ac sq A n c S m d L G s) : L.length = n := by have := h.own.1; rw [ocs_length] at this; omega
theorem TdB.slo (h : TdB w0 w B X ac sq A n c S m d L G s) : SlO w A n c L :=
  ⟨h.len, (own_cap h.own).1, (own_cap h.own).2, Rd.of_own h.own, fun R hR => (h.ops R hR).ok⟩
/-- an operation is appended, and the row stored -/
theorem TdB.push (h : TdB w0 w B X ac sq A n c S m d L G s) {A' : Option Addr} {c' : Nat} {R : OpR} (hR : OwnOp w w0.heap.size R) (hg : w.grownBy w' (Value.ownBlock (.slice A n c))) (ho : w'.ownsRow w0.heap.size 58 23 (.slice A' (n + 1) c') (n + 1) (ocs L ++ opL R)) :
    TdB w0 (w'.setCell ⟨X, 2, none⟩ (.slice A' (n + 1) c')) B X ac sq A' (n + 1) c' S m d (L ++ [R]) G s := by
  obtain ⟨cs, hb⟩ := cur_blk h.cur
  have h2 : Blk w' X 145 (stA ac sq A n c S m d) := h.blk.grown hg (own_other h.own h.blk (by decide))
  have h3 := grown_set w' X 2 (.slice A' (n + 1) c')
  have h4 : Ext w0 w' := Below.grown h.low hg h.low.size (fun k hk => (World.ownsRow.lt h.own k hk).1)
  have h5 : Ext w0 (w'.setCell ⟨X, 2, none⟩ (.slice A' (n + 1) c')) := h4.setCell (p := ⟨X, 2, none⟩) (Nat.le_of_lt h.hX) _
  have hop : ∀ Q : OpR, OwnOp w w0.heap.size Q → OwnOp w' w0.heap.size Q := fun Q hQ =>
    ⟨World.ownsRow.kept hQ.1 hg (own_ne hQ.1 h.own (by decide)), World.ownsRow.kept hQ.2 hg (own_ne hQ.2 h.own (by decide))⟩
  refine ⟨h.cur.low ?_ (fun b hb => (h5.block b hb).trans (h.low.block b hb).symm), h2.set 2 _, ?_, ?_, World.ownsRow.kept (World.ownsRow.kept h.sig hg (own_ne h.sig h.own (by decide))) h3 (.inr (Ne.symm (own_other (World.ownsRow.kept h.sig hg (own_ne h.sig h.own (by decide))) h2 (by decide)))), h5, h.hB, h.hX, (h.res.grown hg (own_other h.own h.res (by decide))).far (p := ⟨X, 2, none⟩) (Nat.ne_of_lt h.hX) _⟩
  · rw [Below.heap_setCell _ _ _ _ (Ne.symm h.ne)]
    exact hg.block B hb.lt (own_other h.own hb (by decide))
  · have := ho.kept h3 (.inr (Ne.symm (own_other ho h2 (by decide))))
    rw [ocs_append, ocs_cons, ocs_nil, List.append_nil]
    exact this
  · intro Q hQ
    rcases List.mem_append.1 hQ with hQ | hQ
    · exact (hop Q (h.ops Q hQ)).kept h3 h2 (by decide)
    · rw [List.mem_singleton.1 hQ]; exact (hop R hR).kept h3 h2 (by decide)
/-- the signature is stored -/
theorem TdB.setSig (h : TdB w0 w B X ac sq A n c S m d L G s) {S' : Option Addr} {m' d' : Nat} {G' : List UInt8} (ho : OwnB w w0.heap.size 5 S' m' d' G') :
    TdB w0 (w.setCell ⟨X, 3, none⟩ (.slice S' m' d')) B X ac sq A n c S' m' d' L G' s := by
  obtain ⟨cs, hb⟩ := cur_blk h.cur
  have h3 := grown_set w X 3 (.slice S' m' d')
  have h5 : Ext w0 (w.setCell ⟨X, 3, none⟩ (.slice S' m' d')) := h.low.setCell (p := ⟨X, 3, none⟩) (Nat.le_of_lt h.hX) _
  refine ⟨h.cur.low ?_ (fun b hb => (h5.block b hb).trans (h.low.block b hb).symm), h.blk.set 3 _, h.own.kept h3 (.inr (Ne.symm (own_other h.own h.blk (by decide)))), fun R hR => (h.ops R hR).kept h3 h.blk (by decide), World.ownsRow.kept ho h3 (.inr (Ne.symm (own_other ho h.blk (by decide)))), h5, h.hB, h.hX, h.res.far (p := ⟨X, 3, none⟩) (Nat.ne_of_lt h.hX) _⟩
  rw [Below.heap_setCell _ _ _ _ (Ne.symm h.ne)]
/-- the result's variable is stored into -/
theorem TdB.fin (h : TdB w0 w B X ac sq A n c S m d L G s) (vs : List Value) : OwnT (w.setCells w0.heap.size 0 vs) w0.heap.size ⟨ac, sq, A, n, c, S, m, d, L, G⟩ := by
  have h3 := grown_setCells' w w0.heap.size vs 0
  exact ⟨h.own.kept h3 (.inr (Ne.symm (own_other h.own h.res (by decide)))), fun R hR => (h.ops R hR).kept h3 h.res (by decide), World.ownsRow.kept h.sig h3 (.inr (Ne.symm (own_other h.sig h.res (by decide))))⟩
end
section
variable {o : Oper} {a : Act} {w : World} {ops : Array Oper} {rest : List Oper} {Q : Exit → Act → World → Prop}
theorem wpList_storeSt (hgd : o.guard = none) (x y : Operand) (ho : o.op = .store 145 x y) (g : Nat) (cs : Array Value) (hx : a.eval x = .pointer (some ⟨g, 0, none⟩)) (hy : a.eval y = .agg cs) (ht : w.there g 0 4) (hs : cs.size = 4) (h1 : cs.all (·.oneCell') = true)
    (h : wpList Try.prog ops Q rest (a.put o.dst undef) (w.setCells g 0 cs.toList)) : wpList Try.prog ops Q (o :: rest) a w :=
  wpList_store_mid hgd 145 x y ho g 0 cs hx hy (by rw [hs]; exact ht) (by rw [hs]; kernel_rfl) h1 h
theorem wpList_loadSt (hgd : o.guard = none) (x : Operand) (ho : o.op = .load 145 x) (g : Nat) (hx : a.eval x = .pointer (some ⟨g, 0, none⟩)) (ac sq : Int) (A : Option Addr) (n c : Nat) (S : Option Addr) (m d : Nat) (hb : Blk w g 145 (stA ac sq A n c S m d))
    (h : wpList Try.prog ops Q rest (a.put o.dst (.agg (stA ac sq A n c S m d))) w) : wpList Try.prog ops Q (o :: rest) a w := by
  have := wpList_load_mid (P := Try.prog) (Q := Q) (ops := ops) (rest := rest) hgd 145 x ho g 0 hx (stA ac sq A n c S m d).toList _ (rangeAt_of_blk hb) Try.underlying145 rfl (by kernel_rfl)
  exact this h
end
theorem stA_all (ac sq : Int) (A : Option Addr) (n c : Nat) (S : Option Addr) (m d : Nat) : (stA ac sq A n c S m d).all (·.oneCell') = true := by simp [stA, Value.oneCell']
theorem st_there {w : World} {X : Nat} {t : TypeId} (h : Blk w X t zero4) : w.there X 0 4 := there_of_blk h
theorem st_store {w : World} {g : Nat} (h : Blk w g 145 zero4) (cs : Array Value) (hs : cs.size = 4) : Blk (w.setCells g 0 cs.toList) g 145 cs := blk_whole h (by rw [hs]; rfl)
def DecTxOut (w : World) (r : Option (Int × Int × List OpV × List UInt8)) (e : Ending) (w' : World) : Prop :=
  Ext w w' ∧ ((r = none ∧ e = .returned (.tuple #[.agg zero4, .int .i64 4])) ∨ ∃ T : TxR, r = some T.v ∧ e = .returned (.tuple #[.agg (tA T), .int .i64 0]) ∧ OwnT w' w.heap.size T)
end Go.Proofs.Ytjlnmpjffogpdaa
