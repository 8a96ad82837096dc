/- An element put where it belongs, by its place (plain). -/
import Derived.Test.YtbfepgjeecndiaaGreatK07
namespace Go.Proofs.YtbfepgjeecndiaaGreat
set_option linter.unusedVariables false
set_option linter.unusedSimpArgs false
section
variable {β : Type} [DecidableEq β] {lt : β → β → Bool}
theorem insO_at (x : β) : ∀ (L : List β) (k : Nat), k ≤ L.length → (∀ j (h : j < k) (hl : j < L.length), lt L[j] x = true) → (∀ (h : k < L.length), lt L[k] x = false ∧ L[k] ≠ x) → insO lt x L = L.take k ++ x :: L.drop k
 | [], 0, _, _, _ => rfl
 | y :: r, 0, _, _, h2 => by
  obtain ⟨h3, h4⟩ := h2 (by simp)
  simp only [List.getElem_cons_zero] at h3 h4
  unfold insO
  rw [if_neg (by rw [h3]; simp), if_neg h4]; rfl
 | y :: r, k + 1, hk, h1, h2 => by
  have h0 := h1 0 (by omega) (by simp)
  simp only [List.getElem_cons_zero] at h0
  have ih := insO_at x r k (by simpa using hk) (fun j hj hl => h1 (j + 1) (by omega) (by simpa using hl)) (fun h => h2 (by simpa using h))
  unfold insO
  rw [if_pos h0, ih]; rfl
theorem insO_eq (x : β) : ∀ (L : List β) (k : Nat) (hk : k < L.length), (∀ j (h : j < k) (hl : j < L.length), lt L[j] x = true) → lt L[k] x = false → L[k] = x → insO lt x L = L
 | [], _, hk, _, _, _ => by simp at hk
 | y :: r, 0, _, _, h2, h3 => by
  simp only [List.getElem_cons_zero] at h2 h3
  unfold insO
  rw [if_neg (by rw [h2]; simp), if_pos h3]
 | y :: r, k + 1, hk, h1, h2, h3 => by
  have h0 := h1 0 (by omega) (by simp)
  simp only [List.getElem_cons_zero] at h0
  have ih := insO_eq x r k (by simpa using hk) (fun j hj hl => h1 (j + 1) (by omega) (by simpa using hl)) h2 h3
  unfold insO
  rw [if_pos h0, ih]
theorem canonO_snoc (L : List β) (x : β) : canonO lt (L ++ [x]) = insO lt x (canonO lt L) := by unfold canonO insAll; rw [List.foldl_append]; rfl
end
end Go.Proofs.YtbfepgjeecndiaaGreat
