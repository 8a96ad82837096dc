/- A payload as a value; EncodePayload (the program's). -/
import Derived.Test.YtfklmcfanhnfpaaTx9
import Derived.Test.YtfklmcfanhnfpaaTx10
import Derived.Test.YtfklmcfanhnfpaaPlB
namespace Go.Proofs.Ytfklmcfanhnfpaa
open Go.RowKit
set_option linter.unusedVariables false
set_option linter.unusedSimpArgs false
attribute [local go_sem ↓] Go.wp_at_zero Go.wp_at_succ

def tL (T : TxR) : List Value := (tA T).toList
theorem tL_length (T : TxR) : (tL T).length = 4 := rfl
theorem tL_arr (T : TxR) : (tL T).toArray = tA T := rfl
theorem tL_one (T : TxR) : ∀ u ∈ tL T, u.oneCell' = true := by
  intro u hu
  simp only [tL, List.mem_cons, List.not_mem_nil, or_false] at hu
  rcases hu with rfl | rfl | rfl | rfl <;> rfl
def tcs (L : List TxR) : List Value := L.flatMap tL
theorem tcs_nil : tcs [] = [] := rfl
theorem tcs_cons (x : TxR) (r : List TxR) : tcs (x :: r) = tL x ++ tcs r := by simp [tcs]
theorem tcs_append (a b : List TxR) : tcs (a ++ b) = tcs a ++ tcs b := by simp [tcs]
theorem tcs_length (L : List TxR) : (tcs L).length = L.length * 4 := by
  induction L with
  | nil => rfl
  | cons x r ih => rw [tcs_cons, List.length_append, tL_length, ih, List.length_cons]; omega
theorem tcs_drop (L : List TxR) (k : Nat) : (tcs L).drop (k * 4) = tcs (L.drop k) := by
  induction k generalizing L with
  | zero => simp
  | succ k ih =>
    cases L with
    | nil => simp [tcs]
    | cons n r =>
      rw [tcs_cons, List.drop_succ_cons, ← ih r, show (k + 1) * 4 = (tL n).length + k * 4 from by rw [tL_length]; omega, List.drop_append, List.drop_of_length_le (by omega)]
      simp
def txR0 : TxR := ⟨0, 0, none, 0, 0, none, 0, 0, [], []⟩
def nthT (L : List TxR) (k : Nat) : TxR := L.getD k txR0
theorem tcs_at {L : List TxR} {k : Nat} (h : k < L.length) : ((tcs L).drop (k * 4)).take 4 = tL (nthT L k) := by
  have e : L[k] = nthT L k := by simp [nthT, h]
  rw [tcs_drop, List.drop_eq_getElem_cons h, tcs_cons, List.take_append_of_le_length (by rw [tL_length]; omega), List.take_of_length_le (by rw [tL_length]; omega), e]
theorem take_nthT {L : List TxR} {k : Nat} (h : k < L.length) : L.take (k + 1) = L.take k ++ [nthT L k] := by
  rw [List.take_succ_eq_append_getElem h]
  have e : L[k] = nthT L k := by simp [nthT, h]
  rw [e]
theorem nthT_mem {L : List TxR} {k : Nat} (h : k < L.length) : nthT L k ∈ L := by
  have e : L[k] = nthT L k := by simp [nthT, h]
  rw [← e]; exact List.getElem_mem _
/-- a slice of transactions -/
structure SlT (w : World) (A : Option Addr) (n c : Nat) (L : List TxR) : Prop where
  len : L.length = n
  le : n ≤ c
  cap : c ≤ 9223372036854775807
  rd : Rd w A (tcs L)
  ok : ∀ T, T ∈ L → T.ok w
section
variable {w w' : World} {A : Option Addr} {n c : Nat} {L : List TxR}
theorem SlT.ext (h : SlT w A n c L) (e : Ext w w') : SlT w' A n c L := ⟨h.len, h.le, h.cap, h.rd.ext e, fun R hR => (h.ok R hR).ext e⟩
theorem SlT.at (h : SlT w A n c L) (hn : 0 < n) : ∃ b o, A = some ⟨b, o, none⟩ ∧ w.rangeAt b o (tcs L) ∧ b < w.heap.size :=
  h.rd.at (by intro e; have := congrArg List.length e; rw [tcs_length, h.len] at this; simp at this; omega)
theorem SlT.nil (w : World) : SlT w none 0 0 [] := ⟨rfl, Nat.le_refl _, Nat.zero_le _, .nil, fun R hR => by cases hR⟩
theorem SlT.nth (h : SlT w A n c L) {k : Nat} (hk : k < n) : (nthT L k).ok w := h.ok _ (nthT_mem (by rw [h.len]; exact hk))
theorem tx_at {b o k : Nat} (h : w.rangeAt b o (tcs L)) (hk : k < L.length) : w.rangeAt b (o + k * 4) (tL (nthT L k)) := by
  have h1 := rangeAt_take (k := 4) (rangeAt_drop (k := k * 4) h)
  rwa [tcs_at hk] at h1
end
section
variable {o : Oper} {a : Act} {w : World} {ops : Array Oper} {rest : List Oper} {Q : Exit → Act → World → Prop}
/-- a transaction is loaded -/
theorem wpList_loadT (hgd : o.guard = none) (x : Operand) (ho : o.op = .load 60 x) (b of : Nat) (hx : a.eval x = .pointer (some ⟨b, of, none⟩)) (T : TxR) (hc : w.rangeAt b of (tL T))
    (h : wpList Try.prog ops Q rest (a.put o.dst (.agg (tA T))) w) : wpList Try.prog ops Q (o :: rest) a w := by
  have := wpList_load_mid (P := Try.prog) (Q := Q) (ops := ops) (rest := rest) hgd 60 x ho b of hx (tL T) _ hc Try.underlying60 rfl (by rw [tL_length]; kernel_rfl)
  rw [tL_arr] at this
  exact this h
/-- a transaction is stored into a variable that is new -/
theorem wpList_newT (hgd : o.guard = none) (x y : Operand) (ho : o.op = .store 60 x y) (cs : Array Value) (hcs : cs.size = 4) (T : TxR) (hx : a.eval x = .pointer (some ⟨w.heap.size, 0, none⟩)) (hy : a.eval y = .agg (tA T))
    (h : wpList Try.prog ops Q rest (a.put o.dst undef) (w.alloc (.cells (tA T) 60))) : wpList Try.prog ops Q (o :: rest) a (w.alloc (.cells cs 60)) := by
  have ht := there_of_blk (Blk.new w 60 cs)
  rw [hcs] at ht
  refine wpList_store_mid hgd 60 x y ho w.heap.size 0 (tA T) hx hy ht (by kernel_rfl) (stA_all _ _ _ _ _ _ _ _) ?_
  rw [setCells_whole w 60 cs (tA T) (by rw [hcs]; rfl)]
  exact h
theorem new_tx (w : World) (T : TxR) : (w.alloc (.cells (tA T) 60)).rangeAt w.heap.size 0 (tL T) := rangeAt_of_blk (Blk.new w 60 (tA T))
end
abbrev pyA (A : Option Addr) (n c : Nat) : Array Value := #[.slice A n c]
/-- when a transaction can be encoded, and how -/
def vT (T : TxR) : Bool := vST T.ac T.sq T.L T.m
def encT (T : TxR) : List UInt8 := encST T.ac T.sq T.L T.sig
def vP (L : List TxR) : Bool := decide (L.length ≤ 8) && decide (∀ k, k < L.length → vT (nthT L k) = true)
def encTs (L : List TxR) : List UInt8 := L.flatMap fun T => blob (encT T)
theorem encTs_append (a b : List TxR) : encTs (a ++ b) = encTs a ++ encTs b := by simp [encTs]
def encP (L : List TxR) : List UInt8 := [2, toB (L.length : Int)] ++ encTs L
theorem vP_of {L : List TxR} (h : vP L = true) : L.length ≤ 8 ∧ ∀ k, k < L.length → vT (nthT L k) = true := by
  unfold vP at h; simp only [Bool.and_eq_true, decide_eq_true_eq] at h; exact h
theorem vP_no1 {L : List TxR} (h : 8 < L.length) : vP L = false := by unfold vP; rw [decide_eq_false (by omega), Bool.false_and]
theorem vP_at {L : List TxR} {k : Nat} (hk : k < L.length) (h : vT (nthT L k) = false) : vP L = false := by
  unfold vP; rw [decide_eq_false (p := ∀ k, k < L.length → vT (nthT L k) = true) (fun hh => by rw [hh k hk] at h; cases h), Bool.and_false]
theorem vP_yes {L : List TxR} (h : L.length ≤ 8) (h2 : ∀ k, k < L.length → vT (nthT L k) = true) : vP L = true := by
  unfold vP; rw [decide_eq_true h, decide_eq_true h2]; rfl
/-- what EncodePayload returns -/
def EncPOut (w : World) (L : List TxR) (e : Ending) (w' : World) : Prop :=
  Ext w w' ∧ ((vP L = false ∧ e = .returned (.tuple #[.slice none 0 0, .int .i64 1])) ∨ (vP L = true ∧ ∃ A n c, e = .returned (.tuple #[.slice A n c, .int .i64 0]) ∧ SlB w' A n c (encP L) ∧ n ≤ 200000))
set_option maxRecDepth 100000 in
set_option maxHeartbeats 4000000 in
theorem encPayload_any (A : Option Addr) (n c : Nat) (L : List TxR) (w : World) (hS : SlT w A n c L) :
    Calls Try.prog 18 #[.agg (pyA A n c)] w (EncPOut w L) := by
  have hle := hS.le
  have hcap := hS.cap
  have hlen := hS.len
  have hE := (Ext.refl w).alloc' (.cells (pyA A n c) 31)
  have HE := Lib.hid hE
  have HB := Lib.hid (Blk.new w 31 (pyA A n c))
  have q0 : (w.alloc (.cells (pyA A n c) 31)).cell? ⟨w.heap.size, 0, none⟩ = some (.slice A n c) := HB.out.cell 0
  by_cases h8 : n ≤ 8
  · have d1 : decide (8 < (n : Int)) = false := decide_eq_false (by omega)
    have HS := Lib.hid (hS.ext hE)
    have HLEN := Lib.hid hlen
    have HW := Lib.hid (own_cells (w := (w.alloc (.cells (pyA A n c) 31)).alloc (.cells #[.int .u8 2, .int .u8 ((toB (n : Int)).toNat : Int)] 5)) (base := 0) (g := (w.alloc (.cells (pyA A n c) 31)).heap.size) (cap := 2) (n := 2) (e := 5) (l := [2, toB (n : Int)]) (heap_alloc_new _ _) (Nat.zero_le _) rfl (Nat.le_refl _) (by omega) rfl rfl)
    obtain ⟨w0, hw0⟩ : ∃ w0, w.alloc (.cells (pyA A n c) 31) = w0 := ⟨_, rfl⟩
    rw [hw0] at HS HE HB HW q0
    have hx : ((toB (n : Int)).toNat : Int) = (n : Int) := by rw [← toB_eq]; omega
    rw [hx] at HW
    have hws : w0.heap.size = w.heap.size + 1 := by rw [← hw0]; simp
    rw [hws] at HW
    have hcases : n = 0 ∨ ∃ b o, A = some ⟨b, o, none⟩ ∧ w0.rangeAt b o (tcs L) ∧ b < w0.heap.size := by
      rcases Nat.eq_zero_or_pos n with h0 | h0
      · exact .inl h0
      · exact .inr (HS.out.at h0)
    have HCA := Lib.hid hcases
    clear hS hE hlen hx hcases
    go_enter Try.func18, Try.ntmps18
    go_wp2_with fail
    clear q0
    go_loopw [21, 4] (fun i v wr => ∃ (k : Nat) (A4 : Option Addr) (n4 c4 : Nat), k ≤ n ∧ i = .int .i64 (k : Int) ∧ v = .slice A4 n4 c4 ∧ n4 ≤ 2 + 14002 * k ∧ Hid (SlB wr A4 n4 c4 ([2, toB (n : Int)] ++ encTs (L.take k))) ∧ Hid (Ext w0 wr) ∧ Hid (∀ j, j < k → vT (nthT L j) = true)) (fun i _ _ => n - (intOf i).toNat)
    case atStart => exact ⟨0, _, 2, 2, Nat.zero_le _, rfl, rfl, by omega, Lib.hid (by simpa [encTs] using HW.out.sl), Lib.hid ((Ext.refl w0).alloc' _), Lib.hid (fun j hj => by omega)⟩
    case round =>
      obtain ⟨k, A4, n4, c4, hk, rfl, rfl, hn4, HS4, HX, HP⟩ := hrel
      by_cases hlt : k < n
      · obtain ⟨b, o, rfl, hr0, hb0⟩ : ∃ b o, A = some ⟨b, o, none⟩ ∧ w0.rangeAt b o (tcs L) ∧ b < w0.heap.size := by
          rcases HCA.out with h0 | h0
          · omega
          · exact h0
        have hr := tx_at (rangeAt_keep hr0 (HX.out.block b hb0)) (k := k) (by rw [HLEN.out]; exact hlt)
        have HTK := Lib.hid (take_nthT (L := L) (k := k) (by rw [HLEN.out]; exact hlt))
        have HOK := Lib.hid ((HS.out.nth hlt).ext HX.out)
        have HNO := Lib.hid (fun (h : vT (nthT L k) = false) => vP_at (L := L) (by rw [HLEN.out]; exact hlt) h)
        have HQ := Lib.hid (fun (hx : vT (nthT L k) = true) => show ∀ j, j < k + 1 → vT (nthT L j) = true from fun j hj => by
          rcases Nat.lt_or_ge j k with h | h
          · exact HP.out j h
          · obtain rfl : j = k := by omega
            exact hx)
        have i0 : (0 : Int) ≤ (k : Int) := by omega
        have i1 : (k : Int) < (n : Int) := by omega
        obtain ⟨T, hT⟩ : ∃ T, nthT L k = T := ⟨_, rfl⟩
        rw [hT] at hr HTK HOK HNO HQ
        clear hT hr0
        have hnew := new_tx wr T
        have HA := Lib.hid ((Ext.refl wr).alloc' (.cells (tA T) 60))
        cases hv : vT T with
        | false =>
          have HR := Lib.hid (HNO.out hv)
          go_wp2_with (first | (with_reducible refine wpList_loadT rfl (.tmp 23) rfl b (o + k * 4) rfl T hr ?_) | (with_reducible refine wpList_newT rfl (.tmp 6) (.tmp 24) rfl _ rfl T rfl rfl ?_) | (with_reducible refine wpList_loadT rfl (.tmp 6) rfl wr.heap.size 0 rfl T hnew ?_))
          refine (encodeST_no T.ac T.sq T.A T.n T.c T.S T.m T.d T.L T.sig _ (HOK.out.ops.ext HA.out) (HOK.out.sig.ext HA.out) hv).mono ?_
          rintro e w1 ⟨rfl, he1⟩
          have HX1 := Lib.hid (HE.out.trans (HX.out.trans (HA.out.trans he1)))
          clear he1 hr hnew hv
          go_wp2_with fail
          go_ret2
          exact ⟨HX1.out, .inl ⟨HR.out, rfl⟩⟩
        | true =>
          have HQ' := Lib.hid (HQ.out hv)
          go_wp2_with (first | (with_reducible refine wpList_loadT rfl (.tmp 23) rfl b (o + k * 4) rfl T hr ?_) | (with_reducible refine wpList_newT rfl (.tmp 6) (.tmp 24) rfl _ rfl T rfl rfl ?_) | (with_reducible refine wpList_loadT rfl (.tmp 6) rfl wr.heap.size 0 rfl T hnew ?_))
          refine (encodeST_yes T.ac T.sq T.A T.n T.c T.S T.m T.d T.L T.sig _ (HOK.out.ops.ext HA.out) (HOK.out.sig.ext HA.out) hv).mono ?_
          rintro e w1 ⟨A1, n1, c1, rfl, hS1, hn1, he1⟩
          have HS1 := Lib.hid hS1
          have HX1 := Lib.hid (HX.out.trans (HA.out.trans he1))
          have HS41 := Lib.hid (HS4.out.ext (HA.out.trans he1))
          clear he1 hr hnew hv hS1
          go_wp2_with fail
          refine (appendBytes_any A4 n4 c4 _ A1 n1 c1 _ _ HS41.out HS1.out (by omega) (by omega)).mono ?_
          rintro e w2 ⟨A2, n2, c2, rfl, hO2, he2⟩
          have HS2 := Lib.hid (show SlB w2 A2 n2 c2 ([2, toB (n : Int)] ++ encTs (L.take (k + 1))) by
            rw [HTK.out, encTs_append]
            have := hO2.sl
            simpa [encTs, encT] using this)
          have hn2 : n2 ≤ 2 + 14002 * (k + 1) := by
            have a1 := hO2.len
            have a2 := HS4.out.len
            have a3 := HS1.out.len
            rw [List.length_append, blob_length, a2, a3] at a1
            omega
          have HX2 := Lib.hid (HX1.out.trans he2)
          clear hO2 he2 HS41
          go_wp2_with fail
          go_roundw
          case rel => exact ⟨k + 1, A2, n2, c2, by omega, by go_num, rfl, hn2, HS2, HX2, HQ'⟩
          case measure => simp [intOf]; omega
      · obtain rfl : k = n := by omega
        have HR := Lib.hid (show vP L = true from vP_yes (by rw [HLEN.out]; exact h8) (fun j hj => HP.out j (by rw [HLEN.out] at hj; exact hj)))
        go_wp2_with fail
        go_ret2
        refine ⟨HE.out.trans HX.out, .inr ⟨HR.out, A4, n4, c4, rfl, ?_, by omega⟩⟩
        have := HS4.out
        unfold encP
        rw [List.take_of_length_le (Nat.le_of_eq HLEN.out)] at this
        rw [HLEN.out]
        exact this
  · have d1 : (8 : Int) < (n : Int) := by omega
    have HR := Lib.hid (show vP L = false from vP_no1 (by omega))
    clear hS hE hlen h8
    go_enter Try.func18, Try.ntmps18
    go_wp2_with fail
    go_ret2
    exact ⟨HE.out, .inl ⟨HR.out, rfl⟩⟩
end Go.Proofs.Ytfklmcfanhnfpaa
/- DecodePayload (the program's). -/
namespace Go.Proofs.Ytfklmcfanhnfpaa
open Go.RowKit
set_option linter.unusedVariables false
set_option linter.unusedSimpArgs false
attribute [local go_sem ↓] Go.wp_at_zero Go.wp_at_succ

abbrev TxV := Int × Int × List OpV × List UInt8
def txV0 : TxV := (0, 0, [], [])
def stP (s : Option (List UInt8)) : Nat → Option (List UInt8)
  | 0 => s
  | k + 1 => rAft (stP s k)
def ltP (s : Option (List UInt8)) (k : Nat) : List TxV := (List.range k).map fun j => (decTx (rBlob (stP s j))).getD txV0
theorem ltP_length (s : Option (List UInt8)) (k : Nat) : (ltP s k).length = k := by simp [ltP]
theorem ltP_succ (s : Option (List UInt8)) (k : Nat) : ltP s (k + 1) = ltP s k ++ [(decTx (rBlob (stP s k))).getD txV0] := by
  simp [ltP, List.range_succ]
/-- what DecodePayload returns -/
def decPin (s : Option (List UInt8)) (n : Nat) : Option (List TxV) :=
  if n ≤ 8 ∧ stP s n = some [] ∧ ∀ k, k < n → (decTx (rBlob (stP s k))).isSome = true then some (ltP s n) else none
def decP (l : List UInt8) : Option (List TxV) := decPin (rRest 1 (openU l 2)) (rNum 1 (openU l 2)).toNat
theorem decPin_no1 {s : Option (List UInt8)} {n : Nat} (h : 8 < n) : decPin s n = none := by unfold decPin; rw [if_neg (fun hh => by omega)]
theorem decPin_no2 {s : Option (List UInt8)} {n : Nat} (h : stP s n ≠ some []) : decPin s n = none := by unfold decPin; rw [if_neg (fun hh => h hh.2.1)]
theorem decPin_no3 {s : Option (List UInt8)} {n k : Nat} (hk : k < n) (h : decTx (rBlob (stP s k)) = none) : decPin s n = none := by
  unfold decPin; rw [if_neg (fun hh => by have := hh.2.2 k hk; rw [h] at this; cases this)]
theorem decPin_yes {s : Option (List UInt8)} {n : Nat} (h1 : n ≤ 8) (h2 : stP s n = some []) (h3 : ∀ k, k < n → (decTx (rBlob (stP s k))).isSome = true) : decPin s n = some (ltP s n) := by
  unfold decPin; rw [if_pos ⟨h1, h2, h3⟩]
theorem txE : Elem Try.prog 29 60 (.agg zero4) 4 64 := ⟨Try.underlying29, by kernel_rfl, rfl, by decide⟩
theorem run_buildT1 (T : TxR) (w : World) : (Instr.buildSlice 29 1 #[(0, .agg (tA T))]).run Try.prog w = .ok (.slice (some ⟨w.heap.size, 0, none⟩) 1 1) (w.alloc (.cells (tA T) 60)) := by kernel_rfl
abbrev zero1 : Array Value := #[.slice none 0 0]
/-- the state of DecodePayload -/
structure PdB (w0 w : World) (B X : Nat) (A : Option Addr) (n c : Nat) (L : List TxR) (s : Option (List UInt8)) : Prop where
  cur : CurAt 127 w0.heap.size w B s
  blk : Blk w X 31 (pyA A n c)
  own : w.ownsRow w0.heap.size 60 4 (.slice A n c) n (tcs L)
  txs : ∀ T, T ∈ L → OwnT w w0.heap.size T
  low : Ext w0 w
  hB : w0.heap.size ≤ B
  hX : w0.heap.size < X
  res : Blk w w0.heap.size 31 zero1
section
variable {w0 w w' : World} {B X : Nat} {A : Option Addr} {n c : Nat} {L : List TxR} {s s' : Option (List UInt8)}
theorem PdB.ne (h : PdB w0 w B X A n c L s) : X ≠ B := by
  obtain ⟨cs, hb⟩ := cur_blk h.cur
  exact blk_ne h.blk hb (by decide)
theorem PdB.ext (h : PdB w0 w B X A n c L s) (he : Ext w w') : PdB w0 w' B X A n c L s :=
  ⟨h.cur.ext he, h.blk.ext he, own_ext h.own he, fun R hR => (h.txs R hR).ext he, h.low.trans he, h.hB, h.hX, h.res.ext he⟩
theorem PdB.read (h : PdB w0 w B X A n c L s) (hc : CurAt 127 w0.heap.size w' B s') (hg : w.grownBy w' (some B)) : PdB w0 w' B X A n c L s' := by
  obtain ⟨cs, hb⟩ := cur_blk h.cur
  exact ⟨hc, h.blk.grown hg (fun e => h.ne (by injection e)), h.own.kept hg (.inr (Ne.symm (own_other h.own hb (by decide)))), fun R hR => (h.txs R hR).kept hg hb (by decide) (by decide), ext_grown h.low hg h.hB, h.hB, h.hX, h.res.grown hg (fun e => blk_ne h.res hb (by decide) (by injection e))⟩
theorem PdB.len (h : PdB w0 w B X A n c L s) : L.length = n := by have := h.own.1; rw [tcs_length] at this; omega
theorem OwnT.row {base base' : Nat} {T : TxR} {xs : List Value} {m d : Nat} {A' : Option Addr} (h : OwnT w base T) (ho : w.ownsRow base' 60 4 (.slice A' m d) m xs) (hg : w.grownBy w' (Value.ownBlock (.slice A' m d))) : OwnT w' base T :=
  ⟨h.own.kept hg (own_ne h.own ho (by decide)), fun R hR => ⟨World.ownsRow.kept (h.ops R hR).1 hg (own_ne (h.ops R hR).1 ho (by decide)), World.ownsRow.kept (h.ops R hR).2 hg (own_ne (h.ops R hR).2 ho (by decide))⟩, World.ownsRow.kept h.sig hg (own_ne h.sig ho (by decide))⟩
/-- a transaction is appended, and the row stored -/
theorem PdB.push (h : PdB w0 w B X A n c L s) {A' : Option Addr} {c' : Nat} {T : TxR} (hT : OwnT w w0.heap.size T) (hg : w.grownBy w' (Value.ownBlock (.slice A n c))) (ho : w'.ownsRow w0.heap.size 60 4 (.slice A' (n + 1) c') (n + 1) (tcs L ++ tL T)) :
    PdB w0 (w'.setCell ⟨X, 0, none⟩ (.slice A' (n + 1) c')) B X A' (n + 1) c' (L ++ [T]) s := by
  obtain ⟨cs, hb⟩ := cur_blk h.cur
  have h2 : Blk w' X 31 (pyA A n c) := h.blk.grown hg (own_other h.own h.blk (by decide))
  have h3 := grown_set w' X 0 (.slice A' (n + 1) c')
  have h4 : Ext w0 w' := Below.grown h.low hg h.low.size (fun k hk => (World.ownsRow.lt h.own k hk).1)
  have h5 : Ext w0 (w'.setCell ⟨X, 0, none⟩ (.slice A' (n + 1) c')) := h4.setCell (p := ⟨X, 0, none⟩) (Nat.le_of_lt h.hX) _
  refine ⟨h.cur.low ?_ (fun b hb => (h5.block b hb).trans (h.low.block b hb).symm), h2.set 0 _, ?_, ?_, h5, h.hB, h.hX, (h.res.grown hg (own_other h.own h.res (by decide))).far (p := ⟨X, 0, none⟩) (Nat.ne_of_lt h.hX) _⟩
  · rw [Below.heap_setCell _ _ _ _ (Ne.symm h.ne)]
    exact hg.block B hb.lt (own_other h.own hb (by decide))
  · have := ho.kept h3 (.inr (Ne.symm (own_other ho h2 (by decide))))
    rw [tcs_append, tcs_cons, tcs_nil, List.append_nil]
    exact this
  · intro Q hQ
    rcases List.mem_append.1 hQ with hQ | hQ
    · exact ((h.txs Q hQ).row h.own hg).kept h3 h2 (by decide) (by decide)
    · rw [List.mem_singleton.1 hQ]; exact (hT.row h.own hg).kept h3 h2 (by decide) (by decide)
theorem PdB.fin (h : PdB w0 w B X A n c L s) (v : Value) : SlT (w.setCell ⟨w0.heap.size, 0, none⟩ v) A n c L := by
  have h3 := grown_set w w0.heap.size 0 v
  have ho := h.own.kept h3 (.inr (Ne.symm (own_other h.own h.res (by decide))))
  exact ⟨h.len, (own_cap ho).1, (own_cap ho).2, Rd.of_own ho, fun R hR => ((h.txs R hR).kept h3 h.res (by decide) (by decide)).ok⟩
end
def DecPOut (w : World) (r : Option (List TxV)) (e : Ending) (w' : World) : Prop :=
  Ext w w' ∧ ((r = none ∧ e = .returned (.tuple #[.agg zero1, .int .i64 4])) ∨ ∃ A n c L, r = some (L.map TxR.v) ∧ e = .returned (.tuple #[.agg (pyA A n c), .int .i64 0]) ∧ SlT w' A n c L)
set_option maxRecDepth 100000 in
set_option maxHeartbeats 8000000 in
theorem decPayload_any (A : Option Addr) (n c : Nat) (l : List UInt8) (w : World) (h : SlB w A n c l) (hn : n ≤ 140737488355328) :
    Calls Try.prog 20 #[.slice A n c] w (DecPOut w (decP l)) := by
  have hD : LowB w.heap.size A n := by
    rcases Nat.eq_zero_or_pos n with h0 | h0
    · exact .inl h0
    · obtain ⟨b, o, e, _, hb⟩ := h.at h0
      exact .inr ⟨b, o, e, hb⟩
  have hE0 := (Ext.refl w).alloc' (.cells zero1 31)
  have HO := Lib.hid (open_any (D := w.heap.size) A n c l 2 (by omega) _ (h.ext hE0) hn hD)
  have HE0 := Lib.hid hE0
  have HR0 := Lib.hid (Blk.new w 31 zero1)
  obtain ⟨out, hout⟩ : ∃ out, decP l = out := ⟨_, rfl⟩
  have hoi : decP l = decPin (rRest 1 (openU l 2)) (rNum 1 (openU l 2)).toNat := rfl
  rw [hout] at hoi ⊢
  obtain ⟨s0, hs0⟩ : ∃ s0, openU l 2 = s0 := ⟨_, rfl⟩
  rw [hs0] at HO hoi
  clear hs0 hout h hD hE0
  obtain ⟨s1, hs1⟩ : ∃ s1, rRest 1 s0 = s1 := ⟨_, rfl⟩
  have hN := rNum_bd 1 s0
  obtain ⟨N, hNe⟩ : ∃ N : Nat, rNum 1 s0 = (N : Int) := ⟨(rNum 1 s0).toNat, by omega⟩
  have hN2 : N < 256 := by omega
  have HU1 := Lib.hid (fun (B : Nat) (W : World) (h : CurAt 127 w.heap.size W B s0) => show Calls Try.prog 54 #[.pointer (some ⟨B, 0, none⟩), .int .i64 1] W (fun e w' => e = .returned (.int .i64 (N : Int)) ∧ CurAt 127 w.heap.size w' B s1 ∧ W.grownBy w' (some B)) from by rw [← hNe, ← hs1]; exact cuint_any 1 (by omega) (by omega) B s0 W h)
  rw [hs1, hNe, Int.toNat_natCast] at hoi
  have HOI := Lib.hid hoi
  clear hoi hs1 hN hNe
  go_enter Try.func20, Try.ntmps20
  go_wp2_with fail
  refine HO.out.mono ?_
  rintro e w1 ⟨B, rfl, hC1, hB1, hE1⟩
  have HC1 := Lib.hid hC1
  have HB1 := Lib.hid (show w.heap.size + 1 ≤ B by simpa using hB1)
  have HE1 := Lib.hid hE1
  clear hC1 hB1 hE1 HO
  go_wp2_with fail
  refine (HU1.out B _ HC1.out).mono ?_
  rintro e w2 ⟨rfl, hC2, hg2⟩
  have hR2 : Blk w2 w.heap.size 31 zero1 := (HR0.out.ext HE1.out).grown hg2 (fun e => by injection e with e; have := HB1.out; omega)
  have hE2 : Ext w w2 := ext_grown (HE0.out.trans HE1.out) hg2 (by have := HB1.out; omega)
  have hw2 : w.heap.size < w2.heap.size := hR2.lt
  by_cases h8 : N ≤ 8
  · have d1 : decide (8 < (N : Int)) = false := decide_eq_false (by omega)
    have hD2 : PdB w (w2.alloc (.cells (pyA none 0 0) 31)) B w2.heap.size none 0 0 [] s1 :=
      ⟨hC2.ext ((Ext.refl w2).alloc' _), Blk.new _ _ _, World.ownsRow_nil _ _ _ _, (fun R hR => by cases hR), hE2.alloc' _, by have := HB1.out; omega, hw2, hR2.alloc _⟩
    have HD2 := Lib.hid hD2
    clear hC2 hg2 hE2 hR2 hD2 HC1 HE1 HR0 HU1
    obtain ⟨w3, hw3⟩ : ∃ w3, w2.alloc (.cells (pyA none 0 0) 31) = w3 := ⟨_, rfl⟩
    rw [hw3] at HD2
    go_wp2_with fail
    clear hw3
    generalize w2.heap.size = X at *
    go_loopw [17] (fun i wr => ∃ (k : Nat) (A4 : Option Addr) (c4 : Nat) (L : List TxR), k ≤ N ∧ i = .int .i64 (k : Int) ∧ Hid (L.map TxR.v = ltP s1 k) ∧ Hid (PdB w wr B X A4 k c4 L (stP s1 k)) ∧ Hid (∀ j, j < k → (decTx (rBlob (stP s1 j))).isSome = true)) (fun i _ => N - (intOf i).toNat)
    case atStart => exact ⟨0, none, 0, [], Nat.zero_le _, rfl, Lib.hid rfl, HD2, Lib.hid (fun j hj => by omega)⟩
    case round =>
      obtain ⟨k, A4, c4, L, hk, rfl, HLV, HD, HP⟩ := hrel
      clear HD2
      by_cases hlt : k < N
      · have HN3 := Lib.hid (@decPin_no3 s1 N k hlt)
        have HLT := Lib.hid (ltP_succ s1 k)
        have HQ := Lib.hid (fun (hx : (decTx (rBlob (stP s1 k))).isSome = true) => show ∀ j, j < k + 1 → (decTx (rBlob (stP s1 j))).isSome = true from fun j hj => by
          rcases Nat.lt_or_ge j k with h | h
          · exact HP.out j h
          · obtain rfl : j = k := by omega
            exact hx)
        have HST := Lib.hid (show stP s1 (k + 1) = rAft (stP s1 k) from rfl)
        have i1 : (k : Int) < (N : Int) := by omega
        go_wp2_with fail
        refine (cblob_any w.heap.size B (stP s1 k) _ HD.out.cur).mono ?_
        rintro e w5 ⟨A5, n5, c5, rfl, hO5, hC5, hg5⟩
        rw [← HST.out] at hC5
        have HD5 := Lib.hid (HD.out.read hC5 hg5)
        have HO5 := Lib.hid hO5.sl
        obtain ⟨bl, hbl⟩ : ∃ bl, rBlob (stP s1 k) = bl := ⟨_, rfl⟩
        rw [hbl] at HN3 HLT HQ HO5
        have HL5 := Lib.hid (show n5 ≤ 140737488355328 by
          rcases hO5.2 with ⟨hv, h0⟩ | ⟨g, cap, cur, hv, _, _, hc, hm, _⟩
          · omega
          · have := OwnB.len hO5
            have h2 : (rBlob (stP s1 k)).length ≤ 65535 := by
              unfold rBlob
              split
              · simp
              · split
                · rename_i r _ _
                  have := beNat_lt (r.take 2)
                  have h3 : (r.take 2).length ≤ 2 := List.length_take_le _ _
                  have h4 : 256 ^ (r.take 2).length ≤ 256 ^ 2 := Nat.pow_le_pow_right (by omega) h3
                  rw [List.length_take]; omega
                · simp
            omega)
        clear hC5 hg5 hO5 hbl HD
        go_wp2_with fail
        refine (decodeTx_any A5 n5 c5 bl _ HO5.out HL5.out).mono ?_
        rintro e w6 ⟨he6, hout6⟩
        have HD6 := Lib.hid (HD5.out.ext he6)
        rcases hout6 with ⟨hno, rfl⟩ | ⟨T, hyes, rfl, hT⟩
        · have HOUT := Lib.hid (show out = none by rw [HOI.out]; exact HN3.out hno)
          have HD7 := Lib.hid (HD6.out.ext ((Ext.refl w6).alloc' (.cells zero4 60)))
          have c0 : (w6.alloc (.cells zero4 60)).cell? ⟨w.heap.size, 0, none⟩ = some (.slice none 0 0) := HD7.out.res.cell 0
          have f0 := HD7.out.res.frozen 0
          have hb1 := HD7.out.res.set 0 (.slice none 0 0)
          clear he6 hno HN3 HLT HQ
          go_wp2_with fail
          exact bodyPost_ret (v := .tuple #[.agg zero1, .int .i64 4]) (retCV rfl _ _ w.heap.size _ _ rfl rfl (run_loadVar_row _ _ _ _ _ (0, 0) _ hb1 Try.underlying31 rfl (by kernel_rfl))) rfl ⟨HD7.out.low.setCell (p := ⟨w.heap.size, 0, none⟩) (Nat.le_refl _) _, .inl ⟨HOUT.out, rfl⟩⟩
        · have HT := Lib.hid (hT.mono (Nat.le_trans HD5.out.low.size (Nat.le_refl _)))
          have HTx := Lib.hid (HT.out.ext ((Ext.refl w6).alloc' (.cells (tA T) 60)))
          have HD7 := Lib.hid (HD6.out.ext ((Ext.refl w6).alloc' (.cells (tA T) 60)))
          have q0 : (w6.alloc (.cells (tA T) 60)).cell? ⟨X, 0, none⟩ = some (.slice A4 k c4) := HD7.out.blk.cell 0
          have hnew := new_tx w6 T
          have hbs := run_buildT1 T
          have HQ' := Lib.hid (HQ.out (by rw [hyes]; rfl))
          have HLT' := Lib.hid (show ltP s1 (k + 1) = ltP s1 k ++ [T.v] by rw [HLT.out, hyes]; rfl)
          have HD8 := Lib.hid (HD7.out.ext ((Ext.refl (w6.alloc (.cells (tA T) 60))).alloc' (.cells (tA T) 60)))
          have HT8 := Lib.hid (HTx.out.ext ((Ext.refl (w6.alloc (.cells (tA T) 60))).alloc' (.cells (tA T) 60)))
          have HS8 := Lib.hid (Rd.of_blk (Blk.newAt (w6.alloc (.cells (tA T) 60)) 60 (tA T) (w6.heap.size + 1) (by simp)))
          clear he6 hyes HN3 HLT HQ hT HT HTx HD5 HD6
          go_wp2_with (first | (with_reducible refine wpList_newT rfl (.tmp 7) (.tmp 23) rfl _ rfl T rfl rfl ?_) | (with_reducible refine wpList_loadT rfl (.tmp 7) rfl w6.heap.size 0 rfl T hnew ?_) | (at_builtin; go_must (refine wpList_appGG txE rfl (.tmp 29) (.tmp 31) rfl w.heap.size A4 k c4 (tcs L) rfl HD8.out.own _ 1 1 (tL T) rfl HS8.out (by rfl) (tL_one T) (by omega) (by omega) HD8.out.low.size ?_; intro A7 c7 w8 hO8 hg8; have HD9 := Lib.hid (HD8.out.push HT8.out hg8 hO8); have hb8 := HD8.out.blk.grown hg8 (own_other HD8.out.own HD8.out.blk (by decide)); have q8 : w8.cell? ⟨X, 0, none⟩ = some (.slice A4 k c4) := hb8.cell 0; have f8 := hb8.frozen 0; clear hO8 hg8 hb8 hbs hnew q0)))
          go_roundw
          case rel => exact ⟨k + 1, A7, c7, L ++ [T], by omega, by go_num, Lib.hid (by rw [List.map_append, HLV.out, HLT'.out]; rfl), HD9, HQ'⟩
          case measure => simp [intOf]; omega
      · obtain rfl : k = N := by omega
        have HCD := Lib.hid (cdone_any B (stP s1 k) wr HD.out.cur)
        by_cases hst : stP s1 k = some []
        · rw [decide_eq_true hst] at HCD
          have HOUT := Lib.hid (show out = some (ltP s1 k) by rw [HOI.out]; exact decPin_yes h8 hst HP.out)
          clear hst
          go_wp2_with fail
          refine HCD.out.mono ?_
          rintro e w5 ⟨rfl, q, rfl⟩
          have HD5 := Lib.hid (HD.out.ext (drewN_ext wr q))
          have c0 : (wr.drewN q).cell? ⟨w.heap.size, 0, none⟩ = some (.slice none 0 0) := HD5.out.res.cell 0
          have f0 := HD5.out.res.frozen 0
          have c1 : (wr.drewN q).cell? ⟨X, 0, none⟩ = some (.slice A4 k c4) := HD5.out.blk.cell 0
          have hb1 := HD5.out.res.set 0 (.slice A4 k c4)
          go_wp2_with fail
          exact bodyPost_ret (v := .tuple #[.agg (pyA A4 k c4), .int .i64 0]) (retCV rfl _ _ w.heap.size _ _ rfl rfl (run_loadVar_row _ _ _ _ _ (0, 0) _ hb1 Try.underlying31 rfl (by kernel_rfl))) rfl ⟨HD5.out.low.setCell (p := ⟨w.heap.size, 0, none⟩) (Nat.le_refl _) _, .inr ⟨A4, k, c4, L, by rw [HOUT.out, HLV.out], rfl, HD5.out.fin _⟩⟩
        · rw [decide_eq_false hst] at HCD
          have HOUT := Lib.hid (show out = none by rw [HOI.out]; exact decPin_no2 hst)
          clear hst
          go_wp2_with fail
          refine HCD.out.mono ?_
          rintro e w5 ⟨rfl, q, rfl⟩
          have HD5 := Lib.hid (HD.out.ext (drewN_ext wr q))
          have c0 : (wr.drewN q).cell? ⟨w.heap.size, 0, none⟩ = some (.slice none 0 0) := HD5.out.res.cell 0
          have f0 := HD5.out.res.frozen 0
          have hb1 := HD5.out.res.set 0 (.slice none 0 0)
          go_wp2_with fail
          exact bodyPost_ret (v := .tuple #[.agg zero1, .int .i64 4]) (retCV rfl _ _ w.heap.size _ _ rfl rfl (run_loadVar_row _ _ _ _ _ (0, 0) _ hb1 Try.underlying31 rfl (by kernel_rfl))) rfl ⟨HD5.out.low.setCell (p := ⟨w.heap.size, 0, none⟩) (Nat.le_refl _) _, .inl ⟨HOUT.out, rfl⟩⟩
  · have d1 : (8 : Int) < (N : Int) := by omega
    have HOUT := Lib.hid (show out = none by rw [HOI.out]; exact decPin_no1 (by omega))
    have c0 : w2.cell? ⟨w.heap.size, 0, none⟩ = some (.slice none 0 0) := hR2.cell 0
    have f0 := hR2.frozen 0
    have hb1 := hR2.set 0 (.slice none 0 0)
    have HE2 := Lib.hid hE2
    clear hC2 hg2 hE2 h8 HC1 HE1 HR0 HU1
    go_wp2_with fail
    exact bodyPost_ret (v := .tuple #[.agg zero1, .int .i64 4]) (retCV rfl _ _ w.heap.size _ _ rfl rfl (run_loadVar_row _ _ _ _ _ (0, 0) _ hb1 Try.underlying31 rfl (by kernel_rfl))) rfl ⟨HE2.out.setCell (p := ⟨w.heap.size, 0, none⟩) (Nat.le_refl _) _, .inl ⟨HOUT.out, rfl⟩⟩
end Go.Proofs.Ytfklmcfanhnfpaa
/- What is written is read again: a transaction, a payload. -/
namespace Go.Proofs.Ytfklmcfanhnfpaa
open Go.RowKit
set_option linter.unusedVariables false
set_option linter.unusedSimpArgs false
theorem rNum_be (wd : Nat) (z : Int) (h0 : 0 ≤ z) (h1 : z < 256 ^ wd) (h2 : z < 18446744073709551616) (r : List UInt8) : rNum wd (some (beI wd z ++ r)) = z := by
  have h : ¬ (beI wd z ++ r).length < wd := by rw [List.length_append, beI_length]; omega
  simp only [rNum, if_neg h]
  rw [List.take_append_of_le_length (by rw [beI_length]; exact Nat.le_refl _), List.take_of_length_le (by rw [beI_length]; exact Nat.le_refl _)]
  unfold beI
  rw [beNat_beBytes]
  have e : (z % 18446744073709551616).toNat = z.toNat := by rw [Int.emod_eq_of_lt h0 h2]
  rw [e]
  have hlt : z.toNat < 256 ^ wd := by
    have : ((256 ^ wd : Nat) : Int) = (256 : Int) ^ wd := by simp
    omega
  rw [Nat.mod_eq_of_lt hlt]; omega
theorem rRest_be (wd : Nat) (z : Int) (r : List UInt8) : rRest wd (some (beI wd z ++ r)) = some r := by
  have h : ¬ (beI wd z ++ r).length < wd := by rw [List.length_append, beI_length]; omega
  simp only [rRest, if_neg h]
  rw [List.drop_append_of_le_length (by rw [beI_length]; exact Nat.le_refl _), List.drop_of_length_le (by rw [beI_length]; exact Nat.le_refl _), List.nil_append]
theorem blob_take (p r : List UInt8) (h : p.length ≤ 65535) : beNat ((blob p ++ r).take 2) = p.length := by
  have := rNum_be 2 (p.length : Int) (by omega) (by omega) (by omega) (p ++ r)
  unfold blob
  rw [List.append_assoc]
  have hn : ¬ (beI 2 (p.length : Int) ++ (p ++ r)).length < 2 := by rw [List.length_append, beI_length]; omega
  simp only [rNum, if_neg hn] at this
  omega
theorem blob_drop (p r : List UInt8) : (blob p ++ r).drop 2 = p ++ r := by
  unfold blob
  rw [List.append_assoc, List.drop_append_of_le_length (by rw [beI_length]; exact Nat.le_refl _), List.drop_of_length_le (by rw [beI_length]; exact Nat.le_refl _), List.nil_append]
theorem blobOk_blob (p r : List UInt8) (h : p.length ≤ 65535) : blobOk (blob p ++ r) = true := by
  unfold blobOk
  rw [blob_take p r h, List.length_append, blob_length]
  exact decide_eq_true (by omega)
theorem rBlob_blob (p r : List UInt8) (h : p.length ≤ 65535) : rBlob (some (blob p ++ r)) = p := by
  simp only [rBlob, blobOk_blob p r h, if_true]
  rw [blob_take p r h, blob_drop, List.take_append_of_le_length (Nat.le_refl _), List.take_of_length_le (Nat.le_refl _)]
theorem rAft_blob (p r : List UInt8) (h : p.length ≤ 65535) : rAft (some (blob p ++ r)) = some r := by
  simp only [rAft, blobOk_blob p r h, if_true]
  rw [blob_take p r h, ← List.drop_drop, blob_drop, List.drop_append_of_le_length (Nat.le_refl _), List.drop_of_length_le (Nat.le_refl _), List.nil_append]
theorem rNum_toB (z : Int) (h0 : 0 ≤ z) (h1 : z < 256) (r : List UInt8) : rNum 1 (some (toB z :: r)) = z := by
  rw [rNum_one]; exact toB_toNat h0 h1
theorem rdOp_enc (R : OpR) (hv : vOp R = true) (h1 : R.pre.length = R.n1) (h2 : R.prf.length = R.n2) (r : List UInt8) : rdOp (some (encOp R ++ r)) = (R.v, some r) := by
  have hk := vOp_kind hv
  have e1 : ∀ (z : Int) (t : List UInt8), rRest 1 (some (toB z :: t)) = some t := fun z t => rRest_one _ _
  obtain ⟨k, to, am, ul, va, lk, hs, A1, n1, c1, pre, A2, n2, c2, prf⟩ := R
  simp only at hk h1 h2
  unfold vOp at hv
  simp only [Bool.and_eq_true, decide_eq_true_eq, Bool.or_eq_true] at hv
  obtain ⟨_, v1, v2, v3, v4, v5, v6, v7, v8⟩ := hv
  rcases kind_cases k with h | h | h | h | h | h | h
  case inr.inr.inr.inr.inr.inr => exact absurd hk h
  all_goals (
    subst h
    simp [numU, fTo, fAm, fUl, fVa, fPre, fPrf, fLk] at v1 v2 v3 v4 v5 v6 v7 v8)
  · subst v3; subst v4; subst v7; subst v8
    obtain rfl : pre = [] := List.eq_nil_of_length_eq_zero (by omega)
    obtain rfl : prf = [] := List.eq_nil_of_length_eq_zero (by omega)
    rw [encOp_1 rfl]
    simp only [List.cons_append, List.nil_append, List.append_assoc, rdOp, rNum_toB 1 (by omega) (by omega), e1, rdK]
    simp only [if_true, rNum_toB to (by omega) (by omega), e1, rNum_be 6 am (by omega) (by omega) (by omega), rRest_be]
    rfl
  · subst v4; subst v8
    obtain rfl : pre = [] := List.eq_nil_of_length_eq_zero (by omega)
    obtain rfl : prf = [] := List.eq_nil_of_length_eq_zero (by omega)
    rw [encOp_2 rfl]
    simp only [List.cons_append, List.nil_append, List.append_assoc, rdOp, rNum_toB 2 (by omega) (by omega), e1, rdK]
    simp only [show (2 : Int) = 1 ↔ False by decide, if_false, if_true, rNum_toB to (by omega) (by omega), e1, rNum_be 6 am (by omega) (by omega) (by omega), rRest_be, rNum_be 2 ul (by omega) (by omega) (by omega), rName_at, rRest_name]
    rfl
  · subst v3; subst v4; subst v7
    obtain rfl : prf = [] := List.eq_nil_of_length_eq_zero (by omega)
    rw [encOp_3 rfl]
    simp only [List.cons_append, List.nil_append, List.append_assoc, rdOp, rNum_toB 3 (by omega) (by omega), e1, rdK]
    simp only [show (3 : Int) = 1 ↔ False by decide, show (3 : Int) = 2 ↔ False by decide, if_false, if_true, rNum_toB to (by omega) (by omega), e1, rNum_be 6 am (by omega) (by omega) (by omega), rRest_be, rName_at, rRest_name, rBlob_blob pre r (by omega), rAft_blob pre r (by omega)]
    rfl
  · subst v3; subst v4; subst v7
    obtain rfl : pre = [] := List.eq_nil_of_length_eq_zero (by omega)
    obtain rfl : prf = [] := List.eq_nil_of_length_eq_zero (by omega)
    rw [encOp_4 rfl]
    simp only [List.cons_append, List.nil_append, List.append_assoc, rdOp, rNum_toB 4 (by omega) (by omega), e1, rdK]
    simp only [show (4 : Int) = 1 ↔ False by decide, show (4 : Int) = 2 ↔ False by decide, show (4 : Int) = 3 ↔ False by decide, if_false, if_true, rNum_toB to (by omega) (by omega), e1, rNum_be 6 am (by omega) (by omega) (by omega), rRest_be, rName_at, rRest_name]
    rfl
  · subst v1; subst v3; subst v7; subst v8
    obtain rfl : pre = [] := List.eq_nil_of_length_eq_zero (by omega)
    obtain rfl : prf = [] := List.eq_nil_of_length_eq_zero (by omega)
    rw [encOp_5 rfl]
    simp only [List.cons_append, List.nil_append, List.append_assoc, rdOp, rNum_toB 5 (by omega) (by omega), e1, rdK]
    simp only [show (5 : Int) = 1 ↔ False by decide, show (5 : Int) = 2 ↔ False by decide, show (5 : Int) = 3 ↔ False by decide, show (5 : Int) = 4 ↔ False by decide, if_false, if_true, rNum_toB va (by omega) (by omega), e1, rNum_be 6 am (by omega) (by omega) (by omega), rRest_be]
    rfl
  · subst v1; subst v2; subst v3; subst v7; subst v8
    obtain rfl : pre = [] := List.eq_nil_of_length_eq_zero (by omega)
    rw [encOp_6 rfl]
    simp only [List.cons_append, List.nil_append, List.append_assoc, rdOp, rNum_toB 6 (by omega) (by omega), e1, rdK]
    simp only [show (6 : Int) = 1 ↔ False by decide, show (6 : Int) = 2 ↔ False by decide, show (6 : Int) = 3 ↔ False by decide, show (6 : Int) = 4 ↔ False by decide, show (6 : Int) = 5 ↔ False by decide, if_false, if_true, rNum_toB va (by omega) (by omega), e1, rBlob_blob prf r (by omega), rAft_blob prf r (by omega)]
    rfl
theorem stO_add (s : Option (List UInt8)) (k : Nat) : stO s (k + 1) = stO (rdOp s).2 k := by
  induction k with
  | zero => rfl
  | succ k ih => rw [stO, ih]; rfl
theorem ltV_cons (s : Option (List UInt8)) (k : Nat) : ltV s (k + 1) = (rdOp s).1 :: ltV (rdOp s).2 k := by
  unfold ltV
  rw [List.range_succ_eq_map, List.map_cons, List.map_map]
  congr 1
  apply List.map_congr_left
  intro j _
  simp only [Function.comp]
  rw [stO_add]
def OpLens (L : List OpR) : Prop := ∀ R, R ∈ L → R.pre.length = R.n1 ∧ R.prf.length = R.n2
theorem ops_back (L : List OpR) (hl : OpLens L) (hv : ∀ R, R ∈ L → vOp R = true) (r : List UInt8) : stO (some (encOps L ++ r)) L.length = some r ∧ ltV (some (encOps L ++ r)) L.length = L.map OpR.v := by
  induction L with
  | nil => exact ⟨rfl, rfl⟩
  | cons R t ih =>
    have e : encOps (R :: t) ++ r = encOp R ++ (encOps t ++ r) := by simp [encOps]
    have hR := hl R (by simp)
    have hd := rdOp_enc R (hv R (by simp)) hR.1 hR.2 (encOps t ++ r)
    obtain ⟨i1, i2⟩ := ih (fun Q hQ => hl Q (by simp [hQ])) (fun Q hQ => hv Q (by simp [hQ]))
    rw [e, List.length_cons, stO_add, ltV_cons, hd]
    exact ⟨i1, by rw [i2]; rfl⟩
theorem mem_nthO {L : List OpR} {R : OpR} (h : R ∈ L) : ∃ k, k < L.length ∧ nthO L k = R := by
  obtain ⟨k, hk, rfl⟩ := List.getElem_of_mem h
  exact ⟨k, hk, by simp [nthO, hk]⟩
/-- what Encode writes, Decode reads -/
theorem decTx_enc (T : TxR) (hl : OpLens T.L) (hs : T.sig.length = T.m) (hv : vT T = true) : decTx (encT T) = some T.v := by
  obtain ⟨hvt, hm⟩ := vST_of hv
  obtain ⟨⟨h1, h2, h3, h4, h5, h6⟩, hops⟩ := vTx_of hvt
  have hvo : ∀ R, R ∈ T.L → vOp R = true := fun R hR => by
    obtain ⟨k, hk, rfl⟩ := mem_nthO hR
    exact hops k hk
  obtain ⟨i1, i2⟩ := ops_back T.L hl hvo (blob T.sig)
  have e : encT T = toB T.ac :: (toB T.sq :: (toB (T.L.length : Int) :: (encOps T.L ++ blob T.sig))) := by
    simp [encT, encST, encTx]
  have hb : blob T.sig = blob T.sig ++ [] := by simp
  rw [decTx_in, e]
  simp only [rNum_toB T.ac (by omega) (by omega), rRest_one, rNum_toB T.sq (by omega) (by omega), rNum_toB (T.L.length : Int) (by omega) (by omega), Int.toNat_natCast]
  rw [decIn_yes]
  · rw [i1, i2, hb, rBlob_blob _ _ (by omega)]; rfl
  · rw [i1, hb, rAft_blob _ _ (by omega)]
  · rw [i2, ← vTx_v (fun R hR => vOp_v (hl R hR).1 (hl R hR).2)]; exact hvt
  · rw [i1, hb, rBlob_blob _ _ (by omega)]; omega
theorem stP_add (s : Option (List UInt8)) (k : Nat) : stP s (k + 1) = stP (rAft s) k := by
  induction k with
  | zero => rfl
  | succ k ih => rw [stP, ih]; rfl
theorem ltP_cons (s : Option (List UInt8)) (k : Nat) : ltP s (k + 1) = (decTx (rBlob s)).getD txV0 :: ltP (rAft s) k := by
  unfold ltP
  rw [List.range_succ_eq_map, List.map_cons, List.map_map]
  congr 1
  apply List.map_congr_left
  intro j _
  simp only [Function.comp]
  rw [stP_add]
def TxLens (T : TxR) : Prop := OpLens T.L ∧ T.sig.length = T.m
theorem lens_of {T : TxR} {w : World} (h : T.ok w) : TxLens T := ⟨fun R hR => ⟨((h.ops.ok R hR).pre).len, ((h.ops.ok R hR).prf).len⟩, h.sig.len⟩
theorem encT_len (T : TxR) (hl : TxLens T) (hv : vT T = true) : (encT T).length ≤ 65535 := by
  obtain ⟨hvt, hm⟩ := vST_of hv
  obtain ⟨⟨h1, h2, h3, h4, h5, h6⟩, hops⟩ := vTx_of hvt
  have hvo : ∀ R, R ∈ T.L → vOp R = true := fun R hR => by
    obtain ⟨k, hk, rfl⟩ := mem_nthO hR
    exact hops k hk
  have hb : ∀ L : List OpR, OpLens L → (∀ R, R ∈ L → vOp R = true) → (encOps L).length ≤ 3000 * L.length := by
    intro L
    induction L with
    | nil => intro _ _; simp [encOps]
    | cons R t ih =>
      intro a b
      have i := ih (fun Q hQ => a Q (by simp [hQ])) (fun Q hQ => b Q (by simp [hQ]))
      have e : encOps (R :: t) = encOp R ++ encOps t := by simp [encOps]
      have ho : (encOp R).length ≤ 3000 := by
        have hR := a R (by simp)
        have hv := b R (by simp)
        have b1 := vOp_pre hv
        have b2 := vOp_prf hv
        rcases kind_cases R.k with h | h | h | h | h | h | h
        · rw [encOp_1 h]; simp [beI_length]
        · rw [encOp_2 h]; simp [beI_length, nmb_length]
        · rw [encOp_3 h]; simp [beI_length, nmb_length, blob_length]; omega
        · rw [encOp_4 h]; simp [beI_length, nmb_length]
        · rw [encOp_5 h]; simp [beI_length]
        · rw [encOp_6 h]; simp [blob_length]; omega
        · exact absurd (vOp_kind hv) h
      rw [e, List.length_append, List.length_cons]; omega
  have := hb T.L hl.1 hvo
  have hs := hl.2
  unfold encT encST encTx
  simp only [List.length_append, List.length_cons, List.length_nil, blob_length]
  omega
theorem txs_back (L : List TxR) (hl : ∀ T, T ∈ L → TxLens T) (hv : ∀ T, T ∈ L → vT T = true) (r : List UInt8) : stP (some (encTs L ++ r)) L.length = some r ∧ ltP (some (encTs L ++ r)) L.length = L.map TxR.v ∧ ∀ k, k < L.length → (decTx (rBlob (stP (some (encTs L ++ r)) k))).isSome = true := by
  induction L with
  | nil => exact ⟨rfl, rfl, fun k hk => by simp at hk⟩
  | cons T t ih =>
    have e : encTs (T :: t) ++ r = blob (encT T) ++ (encTs t ++ r) := by simp [encTs]
    have hT := hl T (by simp)
    have hvT := hv T (by simp)
    have hd := decTx_enc T hT.1 hT.2 hvT
    have hle := encT_len T hT hvT
    obtain ⟨i1, i2, i3⟩ := ih (fun Q hQ => hl Q (by simp [hQ])) (fun Q hQ => hv Q (by simp [hQ]))
    rw [e, List.length_cons, stP_add, ltP_cons, rBlob_blob _ _ hle, rAft_blob _ _ hle, hd]
    refine ⟨i1, by rw [i2]; rfl, fun k hk => ?_⟩
    cases k with
    | zero => show (decTx (rBlob (some _))).isSome = true; rw [rBlob_blob _ _ hle, hd]; rfl
    | succ k => rw [stP_add, rAft_blob _ _ hle]; exact i3 k (by omega)
theorem kindU_encP (L : List TxR) : kindU (encP L) = 2 := by simp [encP, kindU]
theorem mem_nthT {L : List TxR} {T : TxR} (h : T ∈ L) : ∃ k, k < L.length ∧ nthT L k = T := by
  obtain ⟨k, hk, rfl⟩ := List.getElem_of_mem h
  exact ⟨k, hk, by simp [nthT, hk]⟩
/-- what EncodePayload writes, DecodePayload reads -/
theorem decP_enc (L : List TxR) (hl : ∀ T, T ∈ L → TxLens T) (hv : vP L = true) : decP (encP L) = some (L.map TxR.v) := by
  obtain ⟨h8, hk⟩ := vP_of hv
  have hvT : ∀ T, T ∈ L → vT T = true := fun T hT => by
    obtain ⟨k, hk', rfl⟩ := mem_nthT hT
    exact hk k hk'
  have ho : openU (encP L) 2 = some (toB (L.length : Int) :: encTs L) := by
    unfold openU; rw [if_pos (kindU_encP L)]; simp [encP]
  obtain ⟨i1, i2, i3⟩ := txs_back L hl hvT []
  rw [List.append_nil] at i1 i2 i3
  unfold decP
  rw [ho, rNum_toB _ (by omega) (by omega), rRest_one, Int.toNat_natCast, decPin_yes h8 i1 i3, i2]
theorem decP_nil : decP [] = none := by
  have ho : openU [] 2 = none := by simp [openU, kindU]
  unfold decP
  rw [ho]
  refine decPin_no2 ?_
  simp [rNum, rRest, stP]
end Go.Proofs.Ytfklmcfanhnfpaa
/- long: it answers, and changes nothing. -/
namespace Go.Proofs.Ytfklmcfanhnfpaa
open Go.RowKit
set_option linter.unusedVariables false
set_option linter.unusedSimpArgs false
attribute [local go_sem ↓] Go.wp_at_zero Go.wp_at_succ

theorem tL_cells {w : World} {b o : Nat} {T : TxR} (h : w.rangeAt b o (tL T)) : w.cell? ⟨b, o + 2, none⟩ = some (.slice T.A T.n T.c) ∧ w.cell? ⟨b, o + 3, none⟩ = some (.slice T.S T.m T.d) :=
  ⟨h 2 _ rfl, h 3 _ rfl⟩
theorem opL_cells {w : World} {b o : Nat} {R : OpR} (h : w.rangeAt b o (opL R)) : w.cell? ⟨b, o + 21, none⟩ = some (.slice R.A1 R.n1 R.c1) ∧ w.cell? ⟨b, o + 22, none⟩ = some (.slice R.A2 R.n2 R.c2) :=
  ⟨h 21 _ rfl, h 22 _ rfl⟩
def LongOut (w : World) (e : Ending) (w' : World) : Prop := (∃ b, e = .returned (.bool b)) ∧ Ext w w'
set_option maxRecDepth 100000 in
set_option maxHeartbeats 4000000 in
theorem long_any (A : Option Addr) (n c : Nat) (L : List TxR) (w : World) (hS : SlT w A n c L) :
    Calls Try.prog 17 #[.agg (pyA A n c)] w (LongOut w) := by
  have hle := hS.le
  have hcap := hS.cap
  have HL := Lib.hid hS.len
  have hE := (Ext.refl w).alloc' (.cells (pyA A n c) 31)
  obtain ⟨w0, hw0⟩ : ∃ w0, w.alloc (.cells (pyA A n c) 31) = w0 := ⟨_, rfl⟩
  have q0 : (w.alloc (.cells (pyA A n c) 31)).cell? ⟨w.heap.size, 0, none⟩ = some (.slice A n c) := (Blk.new w 31 (pyA A n c)).cell 0
  have HE := Lib.hid hE
  have HS := Lib.hid (hS.ext hE)
  rw [hw0] at HE HS q0
  clear hS hE
  by_cases h20 : 20 < n
  · have d1 : (20 : Int) < (n : Int) := by omega
    go_enter Try.func17, Try.ntmps17
    go_wp2_with fail
    go_ret
    exact ⟨⟨_, rfl⟩, HE.out⟩
  · have d1 : decide ((20 : Int) < (n : Int)) = false := decide_eq_false (by omega)
    go_enter Try.func17, Try.ntmps17
    go_wp2_with fail
    clear hw0
    go_loop [3] (fun i => ∃ k : Nat, k ≤ n ∧ i = .int .i64 (k : Int)) (fun i => n - (intOf i).toNat)
    case atStart => exact ⟨0, Nat.zero_le _, rfl⟩
    case round =>
      obtain ⟨k, hk, rfl⟩ := hrel
      by_cases hlt : k < n
      · obtain ⟨b, o, rfl, hr, hb⟩ := HS.out.at (by omega)
        have hrt := tx_at hr (k := k) (by rw [HL.out]; exact hlt)
        have hok := HS.out.nth hlt
        have i0 : (0 : Int) ≤ (k : Int) := by omega
        have i1 : (k : Int) < (n : Int) := by omega
        obtain ⟨T, hT⟩ : ∃ T, nthT L k = T := ⟨_, rfl⟩
        rw [hT] at hrt hok
        obtain ⟨p2, p3⟩ := tL_cells hrt
        have l1 := hok.ops.le
        have l2 := hok.ops.cap
        have l3 := hok.sig.le
        have l4 := hok.sig.cap
        have HOK := Lib.hid hok
        clear hr hb hrt hok hT
        by_cases hA : 20 < T.n
        · have d2 : (20 : Int) < (T.n : Int) := by omega
          go_wp2_with fail
          go_ret
          exact ⟨⟨_, rfl⟩, HE.out⟩
        · have d2 : decide ((20 : Int) < (T.n : Int)) = false := decide_eq_false (by omega)
          by_cases hB : 3000 < T.m
          · have d3 : (3000 : Int) < (T.m : Int) := by omega
            go_wp2_with fail
            go_ret
            exact ⟨⟨_, rfl⟩, HE.out⟩
          · have d3 : decide ((3000 : Int) < (T.m : Int)) = false := decide_eq_false (by omega)
            go_wp2_with fail
            go_loop [4] (fun i => ∃ j : Nat, j ≤ T.n ∧ i = .int .i64 (j : Int)) (fun i => T.n - (intOf i).toNat)
            case atStart => exact ⟨0, Nat.zero_le _, rfl⟩
            case round =>
              obtain ⟨j, hj, rfl⟩ := hrel
              by_cases hjt : j < T.n
              · obtain ⟨b2, o2, hA2, hr2, hb2⟩ := HOK.out.ops.at (by omega)
                rw [hA2] at p2
                have hrt2 := op_at hr2 (k := j) (by rw [HOK.out.ops.len]; exact hjt)
                have hok2 := HOK.out.ops.nth hjt
                have j0 : (0 : Int) ≤ (j : Int) := by omega
                have j1 : (j : Int) < (T.n : Int) := by omega
                obtain ⟨R, hR⟩ : ∃ R, nthO T.L j = R := ⟨_, rfl⟩
                rw [hR] at hrt2 hok2
                obtain ⟨r1, r2⟩ := opL_cells hrt2
                have m1 := hok2.pre.le
                have m2 := hok2.pre.cap
                have m3 := hok2.prf.le
                have m4 := hok2.prf.cap
                clear hr2 hb2 hrt2 hok2 hR hA2
                by_cases hC : 3000 < R.n2
                · have d4 : (3000 : Int) < (R.n2 : Int) := by omega
                  go_wp2_with fail
                  go_ret
                  exact ⟨⟨_, rfl⟩, HE.out⟩
                · have d4 : decide ((3000 : Int) < (R.n2 : Int)) = false := decide_eq_false (by omega)
                  by_cases hD : 3000 < R.n1
                  · have d5 : (3000 : Int) < (R.n1 : Int) := by omega
                    go_wp2_with fail
                    go_ret
                    exact ⟨⟨_, rfl⟩, HE.out⟩
                  · have d5 : decide ((3000 : Int) < (R.n1 : Int)) = false := decide_eq_false (by omega)
                    go_wp2_with fail
                    go_round
                    case rel => exact ⟨j + 1, by omega, by go_num⟩
                    case measure => simp [intOf]; omega
              · obtain rfl : j = T.n := by omega
                go_wp2_with fail
                go_round
                case rel => exact ⟨k + 1, by omega, by go_num⟩
                case measure => simp [intOf]; omega
      · obtain rfl : k = n := by omega
        go_wp2_with fail
        go_ret
        exact ⟨⟨_, rfl⟩, HE.out⟩
end Go.Proofs.Ytfklmcfanhnfpaa
