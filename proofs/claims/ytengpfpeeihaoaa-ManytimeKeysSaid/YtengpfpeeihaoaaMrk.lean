/- The hash tree in plain Lean: roots, paths, the root that follows from a leaf and its path. -/
import Derived.Test.YtengpfpeeihaoaaOne4
namespace Go.Proofs.Ytengpfpeeihaoaa
open Go.RowKit
set_option linter.unusedVariables false
set_option linter.unusedSimpArgs false

/-- the loop of split, with fuel -/
def splGo : Nat → Nat → Nat → Nat
  | 0, _, k => k
  | f + 1, n, k => if k < n - k then splGo f n (2 * k) else k
def spl (n : Nat) : Nat := splGo n n 1
theorem splGo_bd (f n k : Nat) (h1 : 1 ≤ k) (h2 : k < n) : 1 ≤ splGo f n k ∧ splGo f n k < n := by
  induction f generalizing k with
  | zero => exact ⟨h1, h2⟩
  | succ f ih =>
    unfold splGo
    split
    · exact ih (2 * k) (by omega) (by omega)
    · exact ⟨h1, h2⟩
theorem spl_bd (n : Nat) (h : 2 ≤ n) : 1 ≤ spl n ∧ spl n < n := splGo_bd n n 1 (by omega) (by omega)
theorem splGo_stop (f n k : Nat) (h : ¬ k < n - k) : splGo f n k = k := by
  cases f with
  | zero => rfl
  | succ f => unfold splGo; rw [if_neg h]
theorem splGo_go (f n k : Nat) (hk : 1 ≤ k) (hf : n - k ≤ f) (h : k < n - k) : splGo f n k = splGo (f - 1) n (2 * k) := by
  cases f with
  | zero => omega
  | succ f => rw [splGo, if_pos h]; rfl

def leafU (x : UInt64) : UInt64 := tagU 17 (nmb x)
/-- the root of a list of names -/
def rootU (l : List UInt64) : UInt64 :=
  if h : 2 ≤ l.length then pairU 18 (rootU (l.take (spl l.length))) (rootU (l.drop (spl l.length)))
  else match l with
    | [] => tagU 16 []
    | x :: _ => leafU x
termination_by l.length
decreasing_by
  · have := spl_bd _ h; simp; omega
  · have := spl_bd _ h; simp; omega
theorem rootU_nil : rootU [] = tagU 16 [] := by rw [rootU]; simp
theorem rootU_one (x : UInt64) : rootU [x] = leafU x := by rw [rootU]; simp
theorem rootU_many (l : List UInt64) (h : 2 ≤ l.length) : rootU l = pairU 18 (rootU (l.take (spl l.length))) (rootU (l.drop (spl l.length))) := by rw [rootU, dif_pos h]
/-- the path of leaf i -/
def pathU (l : List UInt64) (i : Nat) : List UInt64 :=
  if h : 2 ≤ l.length then
    if i < spl l.length then pathU (l.take (spl l.length)) i ++ [rootU (l.drop (spl l.length))]
    else pathU (l.drop (spl l.length)) (i - spl l.length) ++ [rootU (l.take (spl l.length))]
  else []
termination_by l.length
decreasing_by
  · have := spl_bd _ h; simp; omega
  · have := spl_bd _ h; simp; omega
theorem pathU_short (l : List UInt64) (i : Nat) (h : ¬ 2 ≤ l.length) : pathU l i = [] := by rw [pathU, dif_neg h]
theorem pathU_low (l : List UInt64) (i : Nat) (h : 2 ≤ l.length) (hi : i < spl l.length) : pathU l i = pathU (l.take (spl l.length)) i ++ [rootU (l.drop (spl l.length))] := by rw [pathU, dif_pos h, if_pos hi]
theorem pathU_high (l : List UInt64) (i : Nat) (h : 2 ≤ l.length) (hi : ¬ i < spl l.length) : pathU l i = pathU (l.drop (spl l.length)) (i - spl l.length) ++ [rootU (l.take (spl l.length))] := by rw [pathU, dif_pos h, if_neg hi]
/-- the number of inner nodes above leaf i of n -/
def depU (i n : Nat) : Nat :=
  if h : 2 ≤ n then (if i < spl n then depU i (spl n) else depU (i - spl n) (n - spl n)) + 1 else 0
termination_by n
decreasing_by
  · have := spl_bd _ h; omega
  · have := spl_bd _ h; omega
theorem depU_short (i n : Nat) (h : ¬ 2 ≤ n) : depU i n = 0 := by rw [depU, dif_neg h]
theorem depU_low (i n : Nat) (h : 2 ≤ n) (hi : i < spl n) : depU i n = depU i (spl n) + 1 := by rw [depU, dif_pos h, if_pos hi]
theorem depU_high (i n : Nat) (h : 2 ≤ n) (hi : ¬ i < spl n) : depU i n = depU (i - spl n) (n - spl n) + 1 := by rw [depU, dif_pos h, if_neg hi]
theorem pathU_length (l : List UInt64) (i : Nat) : (pathU l i).length = depU i l.length := by
  generalize hn : l.length = n
  induction n using Nat.strongRecOn generalizing l i with
  | _ n ih =>
    subst hn
    by_cases h : 2 ≤ l.length
    · have hb := spl_bd _ h
      by_cases hi : i < spl l.length
      · rw [pathU_low l i h hi, depU_low _ _ h hi, List.length_append, ih (spl l.length) hb.2 (l.take (spl l.length)) i (by simp; omega)]; rfl
      · rw [pathU_high l i h hi, depU_high _ _ h hi, List.length_append, ih (l.length - spl l.length) (by omega) (l.drop (spl l.length)) _ (by simp)]; rfl
    · rw [pathU_short l i h, depU_short _ _ h]; rfl
/-- the root that follows from a leaf at place i of n and its path -/
def compU (leaf : UInt64) (i n : Nat) (path : List UInt64) : UInt64 :=
  if h : 2 ≤ n then
    if i < spl n then pairU 18 (compU leaf i (spl n) path.dropLast) (path.getLastD 0)
    else pairU 18 (path.getLastD 0) (compU leaf (i - spl n) (n - spl n) path.dropLast)
  else leafU leaf
termination_by n
decreasing_by
  · have := spl_bd _ h; omega
  · have := spl_bd _ h; omega
theorem compU_short (leaf : UInt64) (i n : Nat) (path : List UInt64) (h : ¬ 2 ≤ n) : compU leaf i n path = leafU leaf := by rw [compU, dif_neg h]
theorem compU_low (leaf : UInt64) (i n : Nat) (path : List UInt64) (h : 2 ≤ n) (hi : i < spl n) : compU leaf i n path = pairU 18 (compU leaf i (spl n) path.dropLast) (path.getLastD 0) := by rw [compU, dif_pos h, if_pos hi]
theorem compU_high (leaf : UInt64) (i n : Nat) (path : List UInt64) (h : 2 ≤ n) (hi : ¬ i < spl n) : compU leaf i n path = pairU 18 (path.getLastD 0) (compU leaf (i - spl n) (n - spl n) path.dropLast) := by rw [compU, dif_pos h, if_neg hi]
/-- a leaf and its own path lead to the root -/
theorem compU_pathU (l : List UInt64) (i : Nat) (hi : i < l.length) : compU (l.getD i 0) i l.length (pathU l i) = rootU l := by
  generalize hn : l.length = n
  induction n using Nat.strongRecOn generalizing l i with
  | _ n ih =>
    subst hn
    by_cases h : 2 ≤ l.length
    · have hb := spl_bd _ h
      by_cases hk : i < spl l.length
      · rw [compU_low _ _ _ _ h hk, rootU_many l h, pathU_low l i h hk]
        have e := ih (spl l.length) hb.2 (l.take (spl l.length)) i (by simp; omega) (by simp; omega)
        have e2 : (l.take (spl l.length)).getD i 0 = l.getD i 0 := by simp [List.getElem?_take, hk]
        rw [e2] at e
        rw [List.dropLast_concat, List.getLastD_concat, e]
      · rw [compU_high _ _ _ _ h hk, rootU_many l h, pathU_high l i h hk]
        have e := ih (l.length - spl l.length) (by omega) (l.drop (spl l.length)) (i - spl l.length) (by simp; omega) (by simp)
        have e2 : (l.drop (spl l.length)).getD (i - spl l.length) 0 = l.getD i 0 := by
          simp [List.getElem?_drop, show spl l.length + (i - spl l.length) = i from by omega]
        rw [e2] at e
        rw [List.dropLast_concat, List.getLastD_concat, e]
    · have h1 : l.length = 1 := by omega
      obtain ⟨x, rfl⟩ := List.length_eq_one_iff.1 h1
      obtain rfl : i = 0 := by simp at hi; omega
      rw [compU_short _ _ _ _ (by simp), rootU_one]; rfl
end Go.Proofs.Ytengpfpeeihaoaa
