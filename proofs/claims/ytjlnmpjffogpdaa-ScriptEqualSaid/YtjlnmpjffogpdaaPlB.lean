/- What is written is read again: a block's text. -/
import Derived.Test.YtjlnmpjffogpdaaBd2
import Derived.Test.YtjlnmpjffogpdaaTx9
namespace Go.Proofs.Ytjlnmpjffogpdaa
open Go.RowKit
set_option linter.unusedVariables false
set_option linter.unusedSimpArgs false
theorem toB_toNat {z : Int} (h0 : 0 ≤ z) (h1 : z < 256) : ((toB z).toNat : Int) = z := by rw [← toB_eq, Int.emod_eq_of_lt h0 h1]
theorem rNum_one (b : UInt8) (r : List UInt8) : rNum 1 (some (b :: r)) = (b.toNat : Int) := by simp [rNum, beNat]
theorem rRest_one (b : UInt8) (r : List UInt8) : rRest 1 (some (b :: r)) = some r := by simp [rRest]
theorem rName_at (v : UInt64) (r : List UInt8) : rName (some (nmb v ++ r)) = v := by
  have h : ¬ (nmb v ++ r).length < 8 := by rw [List.length_append, nmb_length]; omega
  simp only [rName, if_neg h]
  rw [List.take_append_of_le_length (by rw [nmb_length]; exact Nat.le_refl _), List.take_of_length_le (by rw [nmb_length]; exact Nat.le_refl _), ofNm_nmb]
theorem rRest_name (v : UInt64) (r : List UInt8) : rRest 8 (some (nmb v ++ r)) = some r := by
  have h : ¬ (nmb v ++ r).length < 8 := by rw [List.length_append, nmb_length]; omega
  simp only [rRest, if_neg h]
  rw [List.drop_append_of_le_length (by rw [nmb_length]; exact Nat.le_refl _), List.drop_of_length_le (by rw [nmb_length]; exact Nat.le_refl _), List.nil_append]
theorem stC_add (s : Option (List UInt8)) (k : Nat) : stC s (k + 1) = stC (rRest 8 (rRest 1 s)) k := by
  induction k with
  | zero => rfl
  | succ k ih => rw [stC, ih]; rfl
theorem ltC_cons (s : Option (List UInt8)) (k : Nat) : ltC s (k + 1) = (rNum 1 s, rName (rRest 1 s)) :: ltC (rRest 8 (rRest 1 s)) k := by
  unfold ltC
  rw [List.range_succ_eq_map, List.map_cons, List.map_map]
  congr 1
  apply List.map_congr_left
  intro j _
  simp only [Function.comp]
  rw [stC_add]
/-- pairs whose ids are bytes are read again -/
theorem pairs_back (L : List (Int × UInt64)) (h : ∀ x ∈ L, 0 ≤ x.1 ∧ x.1 < 256) (r : List UInt8) : ltC (some (encC L ++ r)) L.length = L ∧ stC (some (encC L ++ r)) L.length = some r := by
  induction L with
  | nil => exact ⟨rfl, rfl⟩
  | cons x t ih =>
    have hx := h x (by simp)
    have e : encC (x :: t) ++ r = toB x.1 :: (nmb x.2 ++ (encC t ++ r)) := by simp [encC]
    rw [e, List.length_cons, ltC_cons, stC_add, rNum_one, rRest_one, rName_at, rRest_name, toB_toNat hx.1 hx.2]
    obtain ⟨h1, h2⟩ := ih (fun y hy => h y (by simp [hy]))
    rw [h1, h2]
    exact ⟨rfl, rfl⟩
theorem okIds_all {L : List (Int × UInt64)} (h : okIds (idN L) L.length = true) : ∀ k, k < L.length → 0 ≤ idN L k ∧ idN L k < 10 := by
  intro k hk
  unfold okIds at h
  rw [decide_eq_true_eq] at h
  have := h k hk
  exact ⟨this.1, this.2.1⟩
theorem vld_ids {L : List (Int × UInt64)} (h : vldBlk L = true) : ∀ k, k < L.length → 0 ≤ idN L k ∧ idN L k < 10 := by
  unfold vldBlk at h
  rw [Bool.and_eq_true] at h
  exact okIds_all h.2
theorem decBlk_enc (p : UInt64) (L : List (Int × UInt64)) (h : vldBlk L = true) : decBlk (encBlk p L) = some (p, L) := by
  have hl := vldBlk_len h
  have hids : ∀ x ∈ L, 0 ≤ x.1 ∧ x.1 < 256 := by
    intro x hx
    obtain ⟨k, hk, rfl⟩ := List.getElem_of_mem hx
    have := vld_ids h k hk
    have e : idN L k = (L[k]).1 := by simp [idN, nthC, hk]
    rw [e] at this
    omega
  have hk : kindU (encBlk p L) = 3 := by simp [encBlk, kindU]
  have ho : openU (encBlk p L) 3 = some (nmb p ++ (toB (L.length : Int) :: (encC L ++ []))) := by
    unfold openU; rw [if_pos hk]
    simp [encBlk]
  have hn : ((toB (L.length : Int)).toNat : Int) = (L.length : Int) := toB_toNat (by omega) (by omega)
  obtain ⟨h1, h2⟩ := pairs_back L hids []
  unfold decBlk
  simp only [ho, rRest_name, rName_at, rNum_one, rRest_one, hn, Int.toNat_natCast, h1, h2, h, and_self, if_true]
end Go.Proofs.Ytjlnmpjffogpdaa
/- Transactions in a row; what is written is read again: a transaction. -/
namespace Go.Proofs.Ytjlnmpjffogpdaa
open Go.RowKit
set_option linter.unusedVariables false
set_option linter.unusedSimpArgs false
def tL (T : TxR) : List Value := (tA T).toList
theorem tL_length (T : TxR) : (tL T).length = 4 := rfl
theorem tL_arr (T : TxR) : (tL T).toArray = tA T := rfl
theorem tL_one (T : TxR) : ∀ u ∈ tL T, u.oneCell' = true := by
  intro u hu
  simp only [tL, List.mem_cons, List.not_mem_nil, or_false] at hu
  rcases hu with rfl | rfl | rfl | rfl <;> rfl
def tcs (L : List TxR) : List Value := L.flatMap tL
theorem tcs_nil : tcs [] = [] := rfl
theorem tcs_cons (x : TxR) (r : List TxR) : tcs (x :: r) = tL x ++ tcs r := by simp [tcs]
theorem tcs_append (a b : List TxR) : tcs (a ++ b) = tcs a ++ tcs b := by simp [tcs]
theorem tcs_length (L : List TxR) : (tcs L).length = L.length * 4 := by
  induction L with
  | nil => rfl
  | cons x r ih => rw [tcs_cons, List.length_append, tL_length, ih, List.length_cons]; omega
theorem tcs_drop (L : List TxR) (k : Nat) : (tcs L).drop (k * 4) = tcs (L.drop k) := by
  induction k generalizing L with
  | zero => simp
  | succ k ih =>
    cases L with
    | nil => simp [tcs]
    | cons n r =>
      rw [tcs_cons, List.drop_succ_cons, ← ih r, show (k + 1) * 4 = (tL n).length + k * 4 from by rw [tL_length]; omega, List.drop_append, List.drop_of_length_le (by omega)]
      simp
def txR0 : TxR := ⟨0, 0, none, 0, 0, none, 0, 0, [], []⟩
def nthT (L : List TxR) (k : Nat) : TxR := L.getD k txR0
theorem tcs_at {L : List TxR} {k : Nat} (h : k < L.length) : ((tcs L).drop (k * 4)).take 4 = tL (nthT L k) := by
  have e : L[k] = nthT L k := by simp [nthT, h]
  rw [tcs_drop, List.drop_eq_getElem_cons h, tcs_cons, List.take_append_of_le_length (by rw [tL_length]; omega), List.take_of_length_le (by rw [tL_length]; omega), e]
theorem take_nthT {L : List TxR} {k : Nat} (h : k < L.length) : L.take (k + 1) = L.take k ++ [nthT L k] := by
  rw [List.take_succ_eq_append_getElem h]
  have e : L[k] = nthT L k := by simp [nthT, h]
  rw [e]
theorem nthT_mem {L : List TxR} {k : Nat} (h : k < L.length) : nthT L k ∈ L := by
  have e : L[k] = nthT L k := by simp [nthT, h]
  rw [← e]; exact List.getElem_mem _
/-- a slice of transactions -/
structure SlT (w : World) (A : Option Addr) (n c : Nat) (L : List TxR) : Prop where
  len : L.length = n
  le : n ≤ c
  cap : c ≤ 9223372036854775807
  rd : Rd w A (tcs L)
  ok : ∀ T, T ∈ L → T.ok w
section
variable {w w' : World} {A : Option Addr} {n c : Nat} {L : List TxR}
theorem SlT.ext (h : SlT w A n c L) (e : Ext w w') : SlT w' A n c L := ⟨h.len, h.le, h.cap, h.rd.ext e, fun R hR => (h.ok R hR).ext e⟩
theorem SlT.at (h : SlT w A n c L) (hn : 0 < n) : ∃ b o, A = some ⟨b, o, none⟩ ∧ w.rangeAt b o (tcs L) ∧ b < w.heap.size :=
  h.rd.at (by intro e; have := congrArg List.length e; rw [tcs_length, h.len] at this; simp at this; omega)
theorem SlT.nil (w : World) : SlT w none 0 0 [] := ⟨rfl, Nat.le_refl _, Nat.zero_le _, .nil, fun R hR => by cases hR⟩
theorem SlT.nth (h : SlT w A n c L) {k : Nat} (hk : k < n) : (nthT L k).ok w := h.ok _ (nthT_mem (by rw [h.len]; exact hk))
theorem tx_at {b o k : Nat} (h : w.rangeAt b o (tcs L)) (hk : k < L.length) : w.rangeAt b (o + k * 4) (tL (nthT L k)) := by
  have h1 := rangeAt_take (k := 4) (rangeAt_drop (k := k * 4) h)
  rwa [tcs_at hk] at h1
end
section
variable {o : Oper} {a : Act} {w : World} {ops : Array Oper} {rest : List Oper} {Q : Exit → Act → World → Prop}
/-- a transaction is loaded -/
theorem wpList_loadT (hgd : o.guard = none) (x : Operand) (ho : o.op = .load 145 x) (b of : Nat) (hx : a.eval x = .pointer (some ⟨b, of, none⟩)) (T : TxR) (hc : w.rangeAt b of (tL T))
    (h : wpList Try.prog ops Q rest (a.put o.dst (.agg (tA T))) w) : wpList Try.prog ops Q (o :: rest) a w := by
  have := wpList_load_mid (P := Try.prog) (Q := Q) (ops := ops) (rest := rest) hgd 145 x ho b of hx (tL T) _ hc Try.underlying145 rfl (by rw [tL_length]; kernel_rfl)
  rw [tL_arr] at this
  exact this h
/-- a transaction is stored into a variable that is new -/
theorem wpList_newT (hgd : o.guard = none) (x y : Operand) (ho : o.op = .store 145 x y) (cs : Array Value) (hcs : cs.size = 4) (T : TxR) (hx : a.eval x = .pointer (some ⟨w.heap.size, 0, none⟩)) (hy : a.eval y = .agg (tA T))
    (h : wpList Try.prog ops Q rest (a.put o.dst undef) (w.alloc (.cells (tA T) 145))) : wpList Try.prog ops Q (o :: rest) a (w.alloc (.cells cs 145)) := by
  have ht := there_of_blk (Blk.new w 145 cs)
  rw [hcs] at ht
  refine wpList_store_mid hgd 145 x y ho w.heap.size 0 (tA T) hx hy ht (by kernel_rfl) (stA_all _ _ _ _ _ _ _ _) ?_
  rw [setCells_whole w 145 cs (tA T) (by rw [hcs]; rfl)]
  exact h
theorem new_tx (w : World) (T : TxR) : (w.alloc (.cells (tA T) 145)).rangeAt w.heap.size 0 (tL T) := rangeAt_of_blk (Blk.new w 145 (tA T))
end
abbrev pyA (A : Option Addr) (n c : Nat) : Array Value := #[.slice A n c]
/-- when a transaction can be encoded, and how -/
def vT (T : TxR) : Bool := vST T.ac T.sq T.L T.m
def encT (T : TxR) : List UInt8 := encST T.ac T.sq T.L T.sig
def vP (L : List TxR) : Bool := decide (L.length ≤ 8) && decide (∀ k, k < L.length → vT (nthT L k) = true)
def encTs (L : List TxR) : List UInt8 := L.flatMap fun T => blob (encT T)
theorem encTs_append (a b : List TxR) : encTs (a ++ b) = encTs a ++ encTs b := by simp [encTs]
def encP (L : List TxR) : List UInt8 := [2, toB (L.length : Int)] ++ encTs L
theorem vP_of {L : List TxR} (h : vP L = true) : L.length ≤ 8 ∧ ∀ k, k < L.length → vT (nthT L k) = true := by
  unfold vP at h; simp only [Bool.and_eq_true, decide_eq_true_eq] at h; exact h
theorem vP_no1 {L : List TxR} (h : 8 < L.length) : vP L = false := by unfold vP; rw [decide_eq_false (by omega), Bool.false_and]
theorem vP_at {L : List TxR} {k : Nat} (hk : k < L.length) (h : vT (nthT L k) = false) : vP L = false := by
  unfold vP; rw [decide_eq_false (p := ∀ k, k < L.length → vT (nthT L k) = true) (fun hh => by rw [hh k hk] at h; cases h), Bool.and_false]
theorem vP_yes {L : List TxR} (h : L.length ≤ 8) (h2 : ∀ k, k < L.length → vT (nthT L k) = true) : vP L = true := by
  unfold vP; rw [decide_eq_true h, decide_eq_true h2]; rfl
theorem rNum_be (wd : Nat) (z : Int) (h0 : 0 ≤ z) (h1 : z < 256 ^ wd) (h2 : z < 18446744073709551616) (r : List UInt8) : rNum wd (some (beI wd z ++ r)) = z := by
  have h : ¬ (beI wd z ++ r).length < wd := by rw [List.length_append, beI_length]; omega
  simp only [rNum, if_neg h]
  rw [List.take_append_of_le_length (by rw [beI_length]; exact Nat.le_refl _), List.take_of_length_le (by rw [beI_length]; exact Nat.le_refl _)]
  unfold beI
  rw [beNat_beBytes]
  have e : (z % 18446744073709551616).toNat = z.toNat := by rw [Int.emod_eq_of_lt h0 h2]
  rw [e]
  have hlt : z.toNat < 256 ^ wd := by
    have : ((256 ^ wd : Nat) : Int) = (256 : Int) ^ wd := by simp
    omega
  rw [Nat.mod_eq_of_lt hlt]; omega
theorem rRest_be (wd : Nat) (z : Int) (r : List UInt8) : rRest wd (some (beI wd z ++ r)) = some r := by
  have h : ¬ (beI wd z ++ r).length < wd := by rw [List.length_append, beI_length]; omega
  simp only [rRest, if_neg h]
  rw [List.drop_append_of_le_length (by rw [beI_length]; exact Nat.le_refl _), List.drop_of_length_le (by rw [beI_length]; exact Nat.le_refl _), List.nil_append]
theorem blob_take (p r : List UInt8) (h : p.length ≤ 65535) : beNat ((blob p ++ r).take 2) = p.length := by
  have := rNum_be 2 (p.length : Int) (by omega) (by omega) (by omega) (p ++ r)
  unfold blob
  rw [List.append_assoc]
  have hn : ¬ (beI 2 (p.length : Int) ++ (p ++ r)).length < 2 := by rw [List.length_append, beI_length]; omega
  simp only [rNum, if_neg hn] at this
  omega
theorem blob_drop (p r : List UInt8) : (blob p ++ r).drop 2 = p ++ r := by
  unfold blob
  rw [List.append_assoc, List.drop_append_of_le_length (by rw [beI_length]; exact Nat.le_refl _), List.drop_of_length_le (by rw [beI_length]; exact Nat.le_refl _), List.nil_append]
theorem blobOk_blob (p r : List UInt8) (h : p.length ≤ 65535) : blobOk (blob p ++ r) = true := by
  unfold blobOk
  rw [blob_take p r h, List.length_append, blob_length]
  exact decide_eq_true (by omega)
theorem rBlob_blob (p r : List UInt8) (h : p.length ≤ 65535) : rBlob (some (blob p ++ r)) = p := by
  simp only [rBlob, blobOk_blob p r h, if_true]
  rw [blob_take p r h, blob_drop, List.take_append_of_le_length (Nat.le_refl _), List.take_of_length_le (Nat.le_refl _)]
theorem rAft_blob (p r : List UInt8) (h : p.length ≤ 65535) : rAft (some (blob p ++ r)) = some r := by
  simp only [rAft, blobOk_blob p r h, if_true]
  rw [blob_take p r h, ← List.drop_drop, blob_drop, List.drop_append_of_le_length (Nat.le_refl _), List.drop_of_length_le (Nat.le_refl _), List.nil_append]
theorem rNum_toB (z : Int) (h0 : 0 ≤ z) (h1 : z < 256) (r : List UInt8) : rNum 1 (some (toB z :: r)) = z := by
  rw [rNum_one]; exact toB_toNat h0 h1
theorem rdOp_enc (R : OpR) (hv : vOp R = true) (h1 : R.pre.length = R.n1) (h2 : R.prf.length = R.n2) (r : List UInt8) : rdOp (some (encOp R ++ r)) = (R.v, some r) := by
  have hk := vOp_kind hv
  have e1 : ∀ (z : Int) (t : List UInt8), rRest 1 (some (toB z :: t)) = some t := fun z t => rRest_one _ _
  obtain ⟨k, to, am, ul, va, lk, hs, A1, n1, c1, pre, A2, n2, c2, prf⟩ := R
  simp only at hk h1 h2
  unfold vOp at hv
  simp only [Bool.and_eq_true, decide_eq_true_eq, Bool.or_eq_true] at hv
  obtain ⟨_, v1, v2, v3, v4, v5, v6, v7, v8⟩ := hv
  rcases kind_cases k with h | h | h | h | h | h | h
  case inr.inr.inr.inr.inr.inr => exact absurd hk h
  all_goals (
    subst h
    simp [numU, fTo, fAm, fUl, fVa, fPre, fPrf, fLk] at v1 v2 v3 v4 v5 v6 v7 v8)
  · subst v3; subst v4; subst v7; subst v8
    obtain rfl : pre = [] := List.eq_nil_of_length_eq_zero (by omega)
    obtain rfl : prf = [] := List.eq_nil_of_length_eq_zero (by omega)
    rw [encOp_1 rfl]
    simp only [List.cons_append, List.nil_append, List.append_assoc, rdOp, rNum_toB 1 (by omega) (by omega), e1, rdK]
    simp only [if_true, rNum_toB to (by omega) (by omega), e1, rNum_be 6 am (by omega) (by omega) (by omega), rRest_be]
    rfl
  · subst v4; subst v8
    obtain rfl : pre = [] := List.eq_nil_of_length_eq_zero (by omega)
    obtain rfl : prf = [] := List.eq_nil_of_length_eq_zero (by omega)
    rw [encOp_2 rfl]
    simp only [List.cons_append, List.nil_append, List.append_assoc, rdOp, rNum_toB 2 (by omega) (by omega), e1, rdK]
    simp only [show (2 : Int) = 1 ↔ False by decide, if_false, if_true, rNum_toB to (by omega) (by omega), e1, rNum_be 6 am (by omega) (by omega) (by omega), rRest_be, rNum_be 2 ul (by omega) (by omega) (by omega), rName_at, rRest_name]
    rfl
  · subst v3; subst v4; subst v7
    obtain rfl : prf = [] := List.eq_nil_of_length_eq_zero (by omega)
    rw [encOp_3 rfl]
    simp only [List.cons_append, List.nil_append, List.append_assoc, rdOp, rNum_toB 3 (by omega) (by omega), e1, rdK]
    simp only [show (3 : Int) = 1 ↔ False by decide, show (3 : Int) = 2 ↔ False by decide, if_false, if_true, rNum_toB to (by omega) (by omega), e1, rNum_be 6 am (by omega) (by omega) (by omega), rRest_be, rName_at, rRest_name, rBlob_blob pre r (by omega), rAft_blob pre r (by omega)]
    rfl
  · subst v3; subst v4; subst v7
    obtain rfl : pre = [] := List.eq_nil_of_length_eq_zero (by omega)
    obtain rfl : prf = [] := List.eq_nil_of_length_eq_zero (by omega)
    rw [encOp_4 rfl]
    simp only [List.cons_append, List.nil_append, List.append_assoc, rdOp, rNum_toB 4 (by omega) (by omega), e1, rdK]
    simp only [show (4 : Int) = 1 ↔ False by decide, show (4 : Int) = 2 ↔ False by decide, show (4 : Int) = 3 ↔ False by decide, if_false, if_true, rNum_toB to (by omega) (by omega), e1, rNum_be 6 am (by omega) (by omega) (by omega), rRest_be, rName_at, rRest_name]
    rfl
  · subst v1; subst v3; subst v7; subst v8
    obtain rfl : pre = [] := List.eq_nil_of_length_eq_zero (by omega)
    obtain rfl : prf = [] := List.eq_nil_of_length_eq_zero (by omega)
    rw [encOp_5 rfl]
    simp only [List.cons_append, List.nil_append, List.append_assoc, rdOp, rNum_toB 5 (by omega) (by omega), e1, rdK]
    simp only [show (5 : Int) = 1 ↔ False by decide, show (5 : Int) = 2 ↔ False by decide, show (5 : Int) = 3 ↔ False by decide, show (5 : Int) = 4 ↔ False by decide, if_false, if_true, rNum_toB va (by omega) (by omega), e1, rNum_be 6 am (by omega) (by omega) (by omega), rRest_be]
    rfl
  · subst v1; subst v2; subst v3; subst v7; subst v8
    obtain rfl : pre = [] := List.eq_nil_of_length_eq_zero (by omega)
    rw [encOp_6 rfl]
    simp only [List.cons_append, List.nil_append, List.append_assoc, rdOp, rNum_toB 6 (by omega) (by omega), e1, rdK]
    simp only [show (6 : Int) = 1 ↔ False by decide, show (6 : Int) = 2 ↔ False by decide, show (6 : Int) = 3 ↔ False by decide, show (6 : Int) = 4 ↔ False by decide, show (6 : Int) = 5 ↔ False by decide, if_false, if_true, rNum_toB va (by omega) (by omega), e1, rBlob_blob prf r (by omega), rAft_blob prf r (by omega)]
    rfl
theorem stO_add (s : Option (List UInt8)) (k : Nat) : stO s (k + 1) = stO (rdOp s).2 k := by
  induction k with
  | zero => rfl
  | succ k ih => rw [stO, ih]; rfl
theorem ltV_cons (s : Option (List UInt8)) (k : Nat) : ltV s (k + 1) = (rdOp s).1 :: ltV (rdOp s).2 k := by
  unfold ltV
  rw [List.range_succ_eq_map, List.map_cons, List.map_map]
  congr 1
  apply List.map_congr_left
  intro j _
  simp only [Function.comp]
  rw [stO_add]
def OpLens (L : List OpR) : Prop := ∀ R, R ∈ L → R.pre.length = R.n1 ∧ R.prf.length = R.n2
theorem ops_back (L : List OpR) (hl : OpLens L) (hv : ∀ R, R ∈ L → vOp R = true) (r : List UInt8) : stO (some (encOps L ++ r)) L.length = some r ∧ ltV (some (encOps L ++ r)) L.length = L.map OpR.v := by
  induction L with
  | nil => exact ⟨rfl, rfl⟩
  | cons R t ih =>
    have e : encOps (R :: t) ++ r = encOp R ++ (encOps t ++ r) := by simp [encOps]
    have hR := hl R (by simp)
    have hd := rdOp_enc R (hv R (by simp)) hR.1 hR.2 (encOps t ++ r)
    obtain ⟨i1, i2⟩ := ih (fun Q hQ => hl Q (by simp [hQ])) (fun Q hQ => hv Q (by simp [hQ]))
    rw [e, List.length_cons, stO_add, ltV_cons, hd]
    exact ⟨i1, by rw [i2]; rfl⟩
theorem mem_nthO {L : List OpR} {R : OpR} (h : R ∈ L) : ∃ k, k < L.length ∧ nthO L k = R := by
  obtain ⟨k, hk, rfl⟩ := List.getElem_of_mem h
  exact ⟨k, hk, by simp [nthO, hk]⟩
/-- what Encode writes, Decode reads -/
theorem decTx_enc (T : TxR) (hl : OpLens T.L) (hs : T.sig.length = T.m) (hv : vT T = true) : decTx (encT T) = some T.v := by
  obtain ⟨hvt, hm⟩ := vST_of hv
  obtain ⟨⟨h1, h2, h3, h4, h5, h6⟩, hops⟩ := vTx_of hvt
  have hvo : ∀ R, R ∈ T.L → vOp R = true := fun R hR => by
    obtain ⟨k, hk, rfl⟩ := mem_nthO hR
    exact hops k hk
  obtain ⟨i1, i2⟩ := ops_back T.L hl hvo (blob T.sig)
  have e : encT T = toB T.ac :: (toB T.sq :: (toB (T.L.length : Int) :: (encOps T.L ++ blob T.sig))) := by
    simp [encT, encST, encTx]
  have hb : blob T.sig = blob T.sig ++ [] := by simp
  rw [decTx_in, e]
  simp only [rNum_toB T.ac (by omega) (by omega), rRest_one, rNum_toB T.sq (by omega) (by omega), rNum_toB (T.L.length : Int) (by omega) (by omega), Int.toNat_natCast]
  rw [decIn_yes]
  · rw [i1, i2, hb, rBlob_blob _ _ (by omega)]; rfl
  · rw [i1, hb, rAft_blob _ _ (by omega)]
  · rw [i2, ← vTx_v (fun R hR => vOp_v (hl R hR).1 (hl R hR).2)]; exact hvt
  · rw [i1, hb, rBlob_blob _ _ (by omega)]; omega
def TxLens (T : TxR) : Prop := OpLens T.L ∧ T.sig.length = T.m
theorem lens_of {T : TxR} {w : World} (h : T.ok w) : TxLens T := ⟨fun R hR => ⟨((h.ops.ok R hR).pre).len, ((h.ops.ok R hR).prf).len⟩, h.sig.len⟩
theorem encT_len (T : TxR) (hl : TxLens T) (hv : vT T = true) : (encT T).length ≤ 65535 := by
  obtain ⟨hvt, hm⟩ := vST_of hv
  obtain ⟨⟨h1, h2, h3, h4, h5, h6⟩, hops⟩ := vTx_of hvt
  have hvo : ∀ R, R ∈ T.L → vOp R = true := fun R hR => by
    obtain ⟨k, hk, rfl⟩ := mem_nthO hR
    exact hops k hk
  have hb : ∀ L : List OpR, OpLens L → (∀ R, R ∈ L → vOp R = true) → (encOps L).length ≤ 3000 * L.length := by
    intro L
    induction L with
    | nil => intro _ _; simp [encOps]
    | cons R t ih =>
      intro a b
      have i := ih (fun Q hQ => a Q (by simp [hQ])) (fun Q hQ => b Q (by simp [hQ]))
      have e : encOps (R :: t) = encOp R ++ encOps t := by simp [encOps]
      have ho : (encOp R).length ≤ 3000 := by
        have hR := a R (by simp)
        have hv := b R (by simp)
        have b1 := vOp_pre hv
        have b2 := vOp_prf hv
        rcases kind_cases R.k with h | h | h | h | h | h | h
        · rw [encOp_1 h]; simp [beI_length]
        · rw [encOp_2 h]; simp [beI_length, nmb_length]
        · rw [encOp_3 h]; simp [beI_length, nmb_length, blob_length]; omega
        · rw [encOp_4 h]; simp [beI_length, nmb_length]
        · rw [encOp_5 h]; simp [beI_length]
        · rw [encOp_6 h]; simp [blob_length]; omega
        · exact absurd (vOp_kind hv) h
      rw [e, List.length_append, List.length_cons]; omega
  have := hb T.L hl.1 hvo
  have hs := hl.2
  unfold encT encST encTx
  simp only [List.length_append, List.length_cons, List.length_nil, blob_length]
  omega
theorem tL_cells {w : World} {b o : Nat} {T : TxR} (h : w.rangeAt b o (tL T)) : w.cell? ⟨b, o + 2, none⟩ = some (.slice T.A T.n T.c) ∧ w.cell? ⟨b, o + 3, none⟩ = some (.slice T.S T.m T.d) :=
  ⟨h 2 _ rfl, h 3 _ rfl⟩
theorem opL_cells {w : World} {b o : Nat} {R : OpR} (h : w.rangeAt b o (opL R)) : w.cell? ⟨b, o + 21, none⟩ = some (.slice R.A1 R.n1 R.c1) ∧ w.cell? ⟨b, o + 22, none⟩ = some (.slice R.A2 R.n2 R.c2) :=
  ⟨h 21 _ rfl, h 22 _ rfl⟩
def LongOut (w : World) (e : Ending) (w' : World) : Prop := (∃ b, e = .returned (.bool b)) ∧ Ext w w'
end Go.Proofs.Ytjlnmpjffogpdaa
