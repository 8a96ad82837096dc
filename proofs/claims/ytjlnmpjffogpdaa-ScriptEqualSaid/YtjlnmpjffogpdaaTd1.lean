/- What Decode accepts is the encoding of what it gives; and nothing may follow it or lack. -/
import Derived.Test.YtjlnmpjffogpdaaPlB
namespace Go.Proofs.Ytjlnmpjffogpdaa
open Go.RowKit
set_option linter.unusedVariables false
set_option linter.unusedSimpArgs false

theorem rRest_some {k : Nat} {s : Option (List UInt8)} {r : List UInt8} (h : rRest k s = some r) : ∃ p, s = some p ∧ k ≤ p.length ∧ r = p.drop k := by
  cases s with
  | none => cases h
  | some p =>
    simp only [rRest] at h
    split at h
    · cases h
    · injection h with h
      exact ⟨p, rfl, by omega, h.symm⟩
theorem be_back {k : Nat} {s : Option (List UInt8)} {r : List UInt8} (hk : k ≤ 8) (h : rRest k s = some r) : s = some (beI k (rNum k s) ++ r) := by
  obtain ⟨p, rfl, hp, rfl⟩ := rRest_some h
  have hl : (p.take k).length = k := by rw [List.length_take]; omega
  have e : beI k (rNum k (some p)) = p.take k := by
    simp only [rNum, if_neg (show ¬ p.length < k by omega)]
    unfold beI
    have hlt := beNat_lt (p.take k)
    rw [hl] at hlt
    have h2 : 256 ^ k ≤ 256 ^ 8 := Nat.pow_le_pow_right (by omega) hk
    have e2 : ((beNat (p.take k) : Int) % 18446744073709551616).toNat = beNat (p.take k) := by omega
    rw [e2]
    have := beBytes_beNat (p.take k)
    rwa [hl] at this
  rw [e, List.take_append_drop]
theorem toB_one (z : Int) (h0 : 0 ≤ z) (h1 : z < 256) : [toB z] = beI 1 z := by
  have a := rNum_toB z h0 h1 []
  have b : some [toB z] = some (beI 1 (rNum 1 (some [toB z])) ++ []) := be_back (k := 1) (s := some [toB z]) (r := []) (by omega) rfl
  rw [a, List.append_nil] at b
  injection b
theorem one_back {s : Option (List UInt8)} {r : List UInt8} (h : rRest 1 s = some r) : s = some (toB (rNum 1 s) :: r) := by
  have a := be_back (by omega) h
  have b := rNum_bd 1 s
  have e : toB (rNum 1 s) :: r = beI 1 (rNum 1 s) ++ r := by rw [← toB_one _ b.1 (by have := b.2; simpa using this)]; rfl
  rw [e]; exact a
theorem nm_back {s : Option (List UInt8)} {r : List UInt8} (h : rRest 8 s = some r) : s = some (nmb (rName s) ++ r) := by
  obtain ⟨p, rfl, hp, rfl⟩ := rRest_some h
  have e : nmb (rName (some p)) = p.take 8 := by
    simp only [rName, if_neg (show ¬ p.length < 8 by omega)]
    exact nmb_ofNm _ (by rw [List.length_take]; omega)
  rw [e, List.take_append_drop]
theorem blob_back {s : Option (List UInt8)} {r : List UInt8} (h : rAft s = some r) : s = some (blob (rBlob s) ++ r) ∧ (rBlob s).length ≤ 65535 := by
  cases s with
  | none => cases h
  | some p =>
    simp only [rAft] at h
    by_cases hb : blobOk p = true
    · rw [if_pos hb] at h
      injection h with h
      subst h
      simp only [rBlob, if_pos hb]
      unfold blobOk at hb
      rw [decide_eq_true_eq] at hb
      obtain ⟨h1, h2⟩ := hb
      have hl : ((p.drop 2).take (beNat (p.take 2))).length = beNat (p.take 2) := by rw [List.length_take, List.length_drop]; omega
      have ht : (p.take 2).length = 2 := by rw [List.length_take]; omega
      have hlt := beNat_lt (p.take 2)
      rw [ht] at hlt
      refine ⟨?_, by rw [hl]; omega⟩
      have e : beI 2 (((p.drop 2).take (beNat (p.take 2))).length : Int) = p.take 2 := by
        rw [hl]
        unfold beI
        have e2 : ((beNat (p.take 2) : Int) % 18446744073709551616).toNat = beNat (p.take 2) := by omega
        rw [e2]
        have := beBytes_beNat (p.take 2)
        rwa [ht] at this
      unfold blob
      rw [e, List.append_assoc, ← List.drop_drop, List.take_append_drop, List.take_append_drop]
    · rw [if_neg hb] at h; cases h
/-- an operation out of its values -/
def ofV (v : OpV) : OpR := ⟨v.k, v.to, v.am, v.ul, v.va, v.lk, v.hs, none, v.pre.length, 0, v.pre, none, v.prf.length, 0, v.prf⟩
theorem ofV_v (v : OpV) : (ofV v).v = v := rfl
theorem rdOp_back {s : Option (List UInt8)} {r : List UInt8} (h : (rdOp s).2 = some r) (hv : vOpV (rdOp s).1 = true) : s = some (encOp (ofV (rdOp s).1) ++ r) := by
  have hkk : (rdOp s).1.k = rNum 1 s := by
    unfold rdOp rdK
    split <;> (try split) <;> (try split) <;> (try split) <;> (try split) <;> (try split) <;> rfl
  have hk : 1 ≤ rNum 1 s ∧ rNum 1 s ≤ 6 := by
    unfold vOpV at hv
    simp only [Bool.and_eq_true, decide_eq_true_eq, hkk] at hv
    exact hv.1
  clear hv hkk
  unfold rdOp at h ⊢
  obtain ⟨t, ht⟩ : ∃ t, rRest 1 s = t := ⟨_, rfl⟩
  obtain ⟨k, hkn⟩ : ∃ k, rNum 1 s = k := ⟨_, rfl⟩
  have fin : ∀ q, t = some q → s = some (toB k :: q) := fun q hq => by
    have := one_back (ht.trans hq); rwa [hkn] at this
  rw [ht, hkn] at h ⊢
  rw [hkn] at hk
  clear ht hkn
  have hc : k = 1 ∨ k = 2 ∨ k = 3 ∨ k = 4 ∨ k = 5 ∨ k = 6 := by omega
  rcases hc with rfl | rfl | rfl | rfl | rfl | rfl
  · rw [encOp_1 rfl]
    have a1 := be_back (by omega) (show rRest 6 (rRest 1 t) = some r from h)
    have a2 := one_back a1
    have a3 := fin _ a2
    simpa [rdK, ofV] using a3
  · rw [encOp_2 rfl]
    have a1 := nm_back (show rRest 8 (rRest 2 (rRest 6 (rRest 1 t))) = some r from h)
    have a2 := be_back (by omega) a1
    have a3 := be_back (by omega) a2
    have a4 := fin _ (one_back a3)
    simpa [rdK, ofV] using a4
  · rw [encOp_3 rfl]
    have a0 := (blob_back (show rAft (rRest 8 (rRest 6 (rRest 1 t))) = some r from h)).1
    have a1 := nm_back a0
    have a2 := be_back (by omega) a1
    have a4 := fin _ (one_back a2)
    simpa [rdK, ofV] using a4
  · rw [encOp_4 rfl]
    have a1 := nm_back (show rRest 8 (rRest 6 (rRest 1 t)) = some r from h)
    have a2 := be_back (by omega) a1
    have a4 := fin _ (one_back a2)
    simpa [rdK, ofV] using a4
  · rw [encOp_5 rfl]
    have a1 := be_back (by omega) (show rRest 6 (rRest 1 t) = some r from h)
    have a4 := fin _ (one_back a1)
    simpa [rdK, ofV] using a4
  · rw [encOp_6 rfl]
    have a0 := (blob_back (show rAft (rRest 1 t) = some r from h)).1
    have a4 := fin _ (one_back a0)
    simpa [rdK, ofV] using a4
theorem stO_back (s : Option (List UInt8)) : ∀ (n : Nat) (r : List UInt8), stO s n = some r → (∀ v, v ∈ ltV s n → vOpV v = true) → s = some (encOps ((ltV s n).map ofV) ++ r)
  | 0, r, h, _ => by
    have h' : s = some r := h
    simpa [ltV, encOps] using h'
  | n + 1, r, h, hv => by
    rw [ltV_succ] at hv ⊢
    have a := rdOp_back (show (rdOp (stO s n)).2 = some r from h) (hv _ (by simp))
    have b := stO_back s n _ a (fun v hm => hv v (by simp [hm]))
    rw [List.map_append, encOps_append, List.append_assoc]
    refine b.trans ?_
    simp [encOps]
theorem ltV_len (s : Option (List UInt8)) (n : Nat) : ((ltV s n).map ofV).length = n := by rw [List.length_map, ltV_length]
theorem ofV_all (V : List OpV) : (V.map ofV).map OpR.v = V := by
  rw [List.map_map]; exact List.map_id'' (fun _ => rfl) V
/-- what Decode accepts is an encoding -/
theorem decTx_back {l : List UInt8} {v : Int × Int × List OpV × List UInt8} (h : decTx l = some v) : ∃ T : TxR, T.v = v ∧ TxLens T ∧ vT T = true ∧ encT T = l := by
  rw [decTx_in] at h
  unfold decIn at h
  split at h
  · rename_i hh
    obtain ⟨h1, h2, h3⟩ := hh
    injection h with h
    obtain ⟨s3, hs3⟩ : ∃ s3, rRest 1 (rRest 1 (rRest 1 (some l))) = s3 := ⟨_, rfl⟩
    obtain ⟨n, hn⟩ : ∃ n, (rNum 1 (rRest 1 (rRest 1 (some l)))).toNat = n := ⟨_, rfl⟩
    rw [hs3, hn] at h h1 h2 h3
    have hb := rNum_bd 1 (rRest 1 (rRest 1 (some l)))
    obtain ⟨a1, a2⟩ := blob_back h1
    rw [List.append_nil] at a1
    have hvs : ∀ u, u ∈ ltV s3 n → vOpV u = true := by
      unfold vTxV at h2
      simp only [Bool.and_eq_true, List.all_eq_true] at h2
      exact h2.2
    have a3 := stO_back s3 n _ a1 hvs
    have a4 := one_back (hs3.trans a3)
    have a5 := one_back a4
    have a6 := one_back a5
    have a4' : rNum 1 (rRest 1 (rRest 1 (some l))) = (n : Int) := by omega
    refine ⟨⟨rNum 1 (some l), rNum 1 (rRest 1 (some l)), none, n, 0, none, 186, 0, (ltV s3 n).map ofV, rBlob (stO s3 n)⟩, ?_, ⟨?_, h3⟩, ?_, ?_⟩
    · rw [← h]; unfold TxR.v; rw [ofV_all]
    · intro R hR
      obtain ⟨u, _, rfl⟩ := List.mem_map.1 hR
      exact ⟨rfl, rfl⟩
    · unfold vT vST
      simp only [decide_true, Bool.and_true]
      rw [vTx_v (fun R hR => by obtain ⟨u, _, rfl⟩ := List.mem_map.1 hR; exact vOp_v rfl rfl), ofV_all]
      exact h2
    · injection a6 with a6
      conv => rhs; rw [a6]
      unfold encT encST encTx
      simp only [ltV_len]
      rw [a4']
      simp
  · cases h
/-- the encoding depends on the values alone -/
theorem encOp_v {R Q : OpR} (h : R.v = Q.v) : encOp R = encOp Q := by
  unfold OpR.v at h
  injection h with h1 h2 h3 h4 h5 h6 h7 h8 h9
  unfold encOp
  rw [h1, h2, h3, h4, h5, h6, h7, h8, h9]
theorem encOps_v {L M : List OpR} (h : L.map OpR.v = M.map OpR.v) : encOps L = encOps M := by
  have e : ∀ K : List OpR, encOps K = ((K.map OpR.v).map ofV).flatMap encOp := fun K => by
    unfold encOps
    induction K with
    | nil => rfl
    | cons R r ih =>
      rw [List.flatMap_cons, ih]
      simp only [List.map_cons, List.flatMap_cons]
      rw [show encOp (ofV R.v) = encOp R from encOp_v rfl]
  rw [e L, e M, h]
theorem encT_v {T U : TxR} (h : T.v = U.v) : encT T = encT U := by
  unfold TxR.v at h
  injection h with h1 h
  injection h with h2 h
  injection h with h3 h4
  have hl := congrArg List.length h3
  rw [List.length_map, List.length_map] at hl
  unfold encT encST encTx
  rw [h1, h2, h4, hl, encOps_v h3]
theorem vT_v {T U : TxR} (hT : TxLens T) (hU : TxLens U) (h : T.v = U.v) : vT T = vT U := by
  have hT2 := hT.2
  have hU2 := hU.2
  unfold TxR.v at h
  injection h with h1 h
  injection h with h2 h
  injection h with h3 h4
  unfold vT vST
  rw [vTx_v (fun R hR => vOp_v (hT.1 R hR).1 (hT.1 R hR).2), vTx_v (fun R hR => vOp_v (hU.1 R hR).1 (hU.1 R hR).2), h1, h2, h3, ← hT2, ← hU2, h4]
/-- an encoding that is followed by something is refused -/
theorem decTx_more (T : TxR) (hl : TxLens T) (hv : vT T = true) (q : List UInt8) (hq : q ≠ []) : decTx (encT T ++ q) = none := by
  obtain ⟨hvt, hm⟩ := vST_of hv
  obtain ⟨⟨h1, h2, h3, h4, h5, h6⟩, hops⟩ := vTx_of hvt
  have hvo : ∀ R, R ∈ T.L → vOp R = true := fun R hR => by
    obtain ⟨k, hk, rfl⟩ := mem_nthO hR
    exact hops k hk
  obtain ⟨i1, i2⟩ := ops_back T.L hl.1 hvo (blob T.sig ++ q)
  have e : encT T ++ q = toB T.ac :: (toB T.sq :: (toB (T.L.length : Int) :: (encOps T.L ++ (blob T.sig ++ q)))) := by
    simp [encT, encST, encTx]
  have hs := hl.2
  rw [decTx_in, e]
  simp only [rNum_toB T.ac (by omega) (by omega), rRest_one, rNum_toB T.sq (by omega) (by omega), rNum_toB (T.L.length : Int) (by omega) (by omega), Int.toNat_natCast]
  refine decIn_no1 ?_
  rw [i1, rAft_blob _ _ (by omega)]
  intro hh
  injection hh with hh
  exact hq hh
/-- and one of which the end lacks -/
theorem decTx_less (T : TxR) (hl : TxLens T) (hv : vT T = true) (j : Nat) (hj : j < (encT T).length) : decTx ((encT T).take j) = none := by
  cases h : decTx ((encT T).take j) with
  | none => rfl
  | some v =>
    obtain ⟨U, hU, hUl, hUv, hUe⟩ := decTx_back h
    have a := decTx_more U hUl hUv ((encT T).drop j) (by
      intro hh
      have := congrArg List.length hh
      rw [List.length_drop, List.length_nil] at this
      omega)
    rw [hUe, List.take_append_drop, decTx_enc T hl.1 hl.2 hv] at a
    cases a
end Go.Proofs.Ytjlnmpjffogpdaa
