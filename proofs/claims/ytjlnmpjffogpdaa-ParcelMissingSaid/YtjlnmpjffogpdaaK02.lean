/- Merging in place (plain): what exchanges of ranges, rotations and the symmetric merge do to a row. -/
import Derived.Sort.LotA
import Derived.Shelf.SlLaysF
import Derived.Test.YtjlnmpjffogpdaaProg
namespace Go.Proofs.Ytjlnmpjffogpdaa
open Go.Sort
set_option linter.unusedVariables false
section
variable {α : Type} [Inhabited α] {lt : α → α → Bool} {a m b : Nat} {d d' d'' : Array α}
/-- [a, a + n) and [b, b + n) exchanged -/
structure Swr (a b n : Nat) (d d' : Array α) : Prop where
  size : d'.size = d.size
  out : ∀ t, ¬ (a ≤ t ∧ t < a + n) → ¬ (b ≤ t ∧ t < b + n) → d'[t]! = d[t]!
  lo : ∀ t, a ≤ t → t < a + n → d'[t]! = d[t - a + b]!
  hi : ∀ t, b ≤ t → t < b + n → d'[t]! = d[t - b + a]!
theorem Swr.zero (a b : Nat) (d : Array α) : Swr a b 0 d d := ⟨rfl, fun _ _ _ => rfl, fun t h1 h2 => by omega, fun t h1 h2 => by omega⟩
theorem Swr.step {n : Nat} (h : Swr a b n d d') (hab : a + n + 1 ≤ b) (hb : b + n < d.size) : Swr a b (n + 1) d (swp d' (a + n) (b + n)) := by
  have g := swp_get d' (i := a + n) (j := b + n) (by rw [h.size]; omega) (by rw [h.size]; omega)
  refine ⟨by rw [size_swp]; exact h.size, fun t h1 h2 => ?_, fun t h1 h2 => ?_, fun t h1 h2 => ?_⟩
  · rw [g, if_neg (by omega), if_neg (by omega)]; exact h.out t (by omega) (by omega)
  · rw [g, if_neg (by omega)]
    by_cases e : t = a + n
    · subst e; rw [if_pos rfl, h.out _ (by omega) (by omega)]; congr 1; omega
    · rw [if_neg e]; exact h.lo t h1 (by omega)
  · rw [g]
    by_cases e : t = b + n
    · subst e; rw [if_pos rfl, h.out _ (by omega) (by omega)]; congr 1; omega
    · rw [if_neg e, if_neg (by omega)]; exact h.hi t h1 (by omega)
/-- [a, m) and [m, b) in the other order -/
structure Rot (a m b : Nat) (d d' : Array α) : Prop where
  size : d'.size = d.size
  out : ∀ t, t < a ∨ b ≤ t → d'[t]! = d[t]!
  lo : ∀ t, a ≤ t → t < a + (b - m) → d'[t]! = d[t + (m - a)]!
  hi : ∀ t, a + (b - m) ≤ t → t < b → d'[t]! = d[t - (b - m)]!
theorem Rot.left {i j : Nat} (hi : i ≤ m) (hij : j < i) (h : Swr (m - i) m j d d') (k : Rot (m - i + j) m (m + j) d' d'') : Rot (m - i) m (m + j) d d'' := by
  refine ⟨k.size.trans h.size, fun t ht => ?_, fun t h1 h2 => ?_, fun t h1 h2 => ?_⟩
  · rw [k.out t (by omega)]; exact h.out t (by omega) (by omega)
  · rw [k.out t (by omega), h.lo t h1 (by omega)]; congr 1; omega
  · by_cases c : t < m - i + j + j
    · rw [k.lo t (by omega) (by omega), h.hi _ (by omega) (by omega)]; congr 1; omega
    · rw [k.hi t (by omega) (by omega), h.out _ (by omega) (by omega)]
theorem Rot.right {i j : Nat} (hi : i ≤ m) (hij : i < j) (h : Swr (m - i) (m + j - i) i d d') (k : Rot (m - i) m (m + (j - i)) d' d'') : Rot (m - i) m (m + j) d d'' := by
  refine ⟨k.size.trans h.size, fun t ht => ?_, fun t h1 h2 => ?_, fun t h1 h2 => ?_⟩
  · rw [k.out t (by omega)]; exact h.out t (by omega) (by omega)
  · by_cases c : t < m - i + (j - i)
    · rw [k.lo t (by omega) (by omega), h.out _ (by omega) (by omega)]
    · by_cases c2 : t < m + (j - i)
      · rw [k.hi t (by omega) (by omega), h.lo _ (by omega) (by omega)]; congr 1; omega
      · omega
  · by_cases c2 : t < m + (j - i)
    · rw [k.hi t (by omega) (by omega), h.lo _ (by omega) (by omega)]; congr 1; omega
    · rw [k.out t (by omega), h.hi t (by omega) (by omega)]; congr 1; omega
theorem Rot.even {i : Nat} (hi : i ≤ m) (h : Swr (m - i) m i d d') : Rot (m - i) m (m + i) d d' := by
  refine ⟨h.size, fun t ht => h.out t (by omega) (by omega), fun t h1 h2 => ?_, fun t h1 h2 => ?_⟩
  · rw [h.lo t h1 (by omega)]; congr 1; omega
  · rw [h.hi t (by omega) (by omega)]; congr 1; omega
/-- one element moved up, by exchanges of neighbours -/
theorem Rot.up {k : Nat} (h : Rot a (a + 1) (k + 1) d d') (hk : a ≤ k) (hs : k + 1 < d.size) : Rot a (a + 1) (k + 2) d (swp d' k (k + 1)) := by
  have g := swp_get d' (i := k) (j := k + 1) (by rw [h.size]; omega) (by rw [h.size]; omega)
  refine ⟨by rw [size_swp]; exact h.size, fun t ht => ?_, fun t h1 h2 => ?_, fun t h1 h2 => ?_⟩
  · rw [g, if_neg (by omega), if_neg (by omega)]; exact h.out t (by omega)
  · rw [g, if_neg (by omega)]
    by_cases e : t = k
    · subst e; rw [if_pos rfl, h.out _ (by omega)]; congr 1; omega
    · rw [if_neg e]; exact h.lo t h1 (by omega)
  · obtain rfl : t = k + 1 := by omega
    rw [g, if_pos rfl, h.hi k (by omega) (by omega)]; congr 1; omega
theorem Rot.none (a m : Nat) (d : Array α) (h : a ≤ m) : Rot a m m d d := ⟨rfl, fun _ _ => rfl, fun t h1 h2 => by omega, fun t h1 h2 => by congr 1; omega⟩
theorem Rot.none' (m b : Nat) (d : Array α) (h : m ≤ b) : Rot m m b d d := ⟨rfl, fun _ _ => rfl, fun t h1 h2 => by congr 1; omega, fun t h1 h2 => by omega⟩
/-- .. and moved down -/
theorem Rot.down {k : Nat} (h : Rot (k + 1) m (m + 1) d d') (hk : k + 1 ≤ m) (hs : m < d.size) : Rot k m (m + 1) d (swp d' (k + 1) k) := by
  have g := swp_get d' (i := k + 1) (j := k) (by rw [h.size]; omega) (by rw [h.size]; omega)
  refine ⟨by rw [size_swp]; exact h.size, fun t ht => ?_, fun t h1 h2 => ?_, fun t h1 h2 => ?_⟩
  · rw [g, if_neg (by omega), if_neg (by omega)]; exact h.out t (by omega)
  · obtain rfl : t = k := by omega
    rw [g, if_pos rfl, h.lo _ (by omega) (by omega)]; congr 1; omega
  · rw [g, if_neg (by omega)]
    by_cases e : t = k + 1
    · subst e; rw [if_pos rfl, h.out _ (by omega)]; congr 1; omega
    · rw [if_neg e]; exact h.hi t (by omega) (by omega)
/-- SortedIn, with equal places allowed -/
theorem sorted_le (hS : SWO lt) (h : SortedIn lt a b d) {i j : Nat} (hi : a ≤ i) (hij : i ≤ j) (hj : j < b) : lt d[j]! d[i]! = false := by
  by_cases e : i = j
  · subst e; exact hS.irrefl _
  · exact h i j hi (by omega) hj
/-- two parts, the one below the other -/
theorem sorted_join (hS : SWO lt) (h1 : SortedIn lt a m d) (h2 : SortedIn lt m b d) (h3 : ∀ x y, a ≤ x → x < m → m ≤ y → y < b → lt d[y]! d[x]! = false) : SortedIn lt a b d := by
  intro i j hi hij hj
  by_cases c : j < m
  · exact h1 i j hi hij c
  · by_cases c2 : i < m
    · exact h3 i j hi c2 (by omega) hj
    · exact h2 i j (by omega) hij hj
/-- an element put into its place to the right -/
theorem ins_left (hS : SWO lt) {i : Nat} (hm : a + 1 ≤ i) (hib : i ≤ b) (h : SortedIn lt (a + 1) b d) (h1 : i = a + 1 ∨ lt d[i - 1]! d[a]! = true) (h2 : i = b ∨ lt d[i]! d[a]! = false) (R : Rot a (a + 1) i d d') : SortedIn lt a b d' := by
  have lo : ∀ t, a + 1 ≤ t → t < i → lt d[a]! d[t]! = false := by
    intro t ht hti
    rcases h1 with h1 | h1
    · omega
    · cases hx : lt d[a]! d[t]! with
      | false => rfl
      | true =>
        have := hS.trans _ _ _ h1 hx
        rw [sorted_le hS h (i := t) (j := i - 1) ht (by omega) (by omega)] at this
        cases this
  have hi : ∀ t, i ≤ t → t < b → lt d[t]! d[a]! = false := by
    intro t ht htb
    rcases h2 with h2 | h2
    · omega
    · exact hS.ntrans _ _ _ (sorted_le hS h (i := i) (j := t) (by omega) ht htb) h2
  have g1 : ∀ t, a ≤ t → t < i - 1 → d'[t]! = d[t + 1]! := fun t x y => by rw [R.lo t x (by omega)]; congr 1; omega
  have g2 : d'[i - 1]! = d[a]! := by rw [R.hi (i - 1) (by omega) (by omega)]; congr 1; omega
  intro x y hx hxy hy
  by_cases c1 : y < i - 1
  · rw [g1 x hx (by omega), g1 y (by omega) c1]; exact h _ _ (by omega) (by omega) (by omega)
  · by_cases c2 : y = i - 1
    · subst c2; rw [g2, g1 x hx (by omega)]; exact lo _ (by omega) (by omega)
    · rw [R.out y (by omega)]
      by_cases c3 : x < i - 1
      · rw [g1 x hx c3]; exact h _ _ (by omega) (by omega) hy
      · by_cases c4 : x = i - 1
        · subst c4; rw [g2]; exact hi y (by omega) hy
        · rw [R.out x (by omega)]; exact h _ _ (by omega) hxy hy
/-- .. and to the left -/
theorem ins_right (hS : SWO lt) {i : Nat} (hai : a ≤ i) (him : i ≤ m) (h : SortedIn lt a m d) (h1 : i = a ∨ lt d[m]! d[i - 1]! = false) (h2 : i = m ∨ lt d[m]! d[i]! = true) (R : Rot i m (m + 1) d d') : SortedIn lt a (m + 1) d' := by
  have lo : ∀ t, a ≤ t → t < i → lt d[m]! d[t]! = false := by
    intro t ht hti
    rcases h1 with h1 | h1
    · omega
    · exact hS.ntrans _ _ _ h1 (sorted_le hS h (i := t) (j := i - 1) ht (by omega) (by omega))
  have hi : ∀ t, i ≤ t → t < m → lt d[t]! d[m]! = false := by
    intro t ht htm
    rcases h2 with h2 | h2
    · omega
    · cases hx : lt d[t]! d[m]! with
      | false => rfl
      | true =>
        have := hS.trans _ _ _ hx h2
        rw [sorted_le hS h (i := i) (j := t) (by omega) ht htm] at this
        cases this
  have g1 : d'[i]! = d[m]! := by rw [R.lo i (by omega) (by omega)]; congr 1; omega
  have g2 : ∀ t, i + 1 ≤ t → t < m + 1 → d'[t]! = d[t - 1]! := fun t x y => by rw [R.hi t (by omega) y]; congr 1; omega
  intro x y hx hxy hy
  by_cases c1 : y < i
  · rw [R.out x (by omega), R.out y (by omega)]; exact h _ _ hx hxy (by omega)
  · by_cases c2 : y = i
    · subst c2; rw [g1, R.out x (by omega)]; exact lo x hx hxy
    · rw [g2 y (by omega) hy]
      by_cases c3 : x < i
      · rw [R.out x (by omega)]; exact h _ _ hx (by omega) (by omega)
      · by_cases c4 : x = i
        · subst c4; rw [g1]; exact hi _ (by omega) (by omega)
        · rw [g2 x (by omega) (by omega)]; exact h _ _ (by omega) (by omega) (by omega)
/-- behind the rotation: four sorted parts, and the lower half below the upper one -/
theorem sym_parts (hS : SWO lt) {s e mid : Nat} (h1 : SortedIn lt a m d) (h2 : SortedIn lt m b d) (has : a ≤ s) (hsm : s ≤ m) (hme : m ≤ e) (heb : e ≤ b) (hn : s + e = mid + m)
    (hA : s = a ∨ e = b ∨ lt d[e]! d[s - 1]! = false) (hB : s = m ∨ e = m ∨ lt d[e - 1]! d[s]! = true) (R : Rot s m e d d') :
    SortedIn lt a s d' ∧ SortedIn lt s mid d' ∧ SortedIn lt mid e d' ∧ SortedIn lt e b d' ∧ ∀ x y, a ≤ x → x < mid → mid ≤ y → y < b → lt d'[y]! d'[x]! = false := by
  have g1 : ∀ t, s ≤ t → t < mid → d'[t]! = d[t + (m - s)]! := fun t x y => R.lo t x (by omega)
  have g2 : ∀ t, mid ≤ t → t < e → d'[t]! = d[t - (e - m)]! := fun t x y => R.hi t (by omega) y
  refine ⟨fun i j hi hij hj => ?_, fun i j hi hij hj => ?_, fun i j hi hij hj => ?_, fun i j hi hij hj => ?_, fun x y hx hxm hy hyb => ?_⟩
  · rw [R.out i (by omega), R.out j (by omega)]; exact h1 _ _ hi hij (by omega)
  · rw [g1 i hi (by omega), g1 j (by omega) hj]; exact h2 _ _ (by omega) (by omega) (by omega)
  · rw [g2 i hi (by omega), g2 j (by omega) hj]; exact h1 _ _ (by omega) (by omega) (by omega)
  · rw [R.out i (by omega), R.out j (by omega)]; exact h2 _ _ (by omega) hij hj
  · by_cases c1 : x < s
    · rw [R.out x (by omega)]
      by_cases c2 : y < e
      · rw [g2 y hy c2]; exact sorted_le hS h1 hx (by omega) (by omega)
      · rw [R.out y (by omega)]
        rcases hA with hA | hA | hA
        · omega
        · omega
        · exact hS.ntrans _ _ _ (sorted_le hS h2 (i := e) (j := y) (by omega) (by omega) hyb) (hS.ntrans _ _ _ hA (sorted_le hS h1 (i := x) (j := s - 1) hx (by omega) (by omega)))
    · rw [g1 x (by omega) hxm]
      by_cases c2 : y < e
      · rw [g2 y hy c2]
        rcases hB with hB | hB | hB
        · omega
        · omega
        · refine hS.asymmA ?_
          cases hz : lt d[x + (m - s)]! d[y - (e - m)]! with
          | true => rfl
          | false =>
            have k1 : lt d[e - 1]! d[x + (m - s)]! = false := sorted_le hS h2 (by omega) (by omega) (by omega)
            have k2 : lt d[y - (e - m)]! d[s]! = false := sorted_le hS h1 has (by omega) (by omega)
            rw [hS.ntrans _ _ _ (hS.ntrans _ _ _ k1 hz) k2] at hB
            cases hB
      · rw [R.out y (by omega)]; exact sorted_le hS h2 (by omega) (by omega) hyb
/-- the two halves sorted: the whole -/
theorem sym_whole (hS : SWO lt) {mid : Nat} (ham : a ≤ mid) (hmb : mid ≤ b) (hb : b ≤ d.size) (hc : ∀ x y, a ≤ x → x < mid → mid ≤ y → y < b → lt d[y]! d[x]! = false)
    (p1 : PermIn a mid d d') (s1 : SortedIn lt a mid d') (p2 : PermIn mid b d' d'') (s2 : SortedIn lt mid b d'') : SortedIn lt a b d'' ∧ PermIn a b d d'' := by
  have hs1 : d'.size = d.size := p1.1
  refine ⟨sorted_join hS ((fun i j hi hij hj => by rw [p2.2.1 i (by omega), p2.2.1 j (by omega)]; exact s1 i j hi hij hj)) s2 ?_, permIn_trans _ _ _ _ _ (permIn_mono _ _ _ _ _ _ (Nat.le_refl _) hmb hb p1) (permIn_mono _ _ _ _ _ _ ham (Nat.le_refl _) (by omega) p2)⟩
  intro x y hx hxm hy hyb
  rw [p2.2.1 x (by omega)]
  have k1 : ∀ i, a ≤ i → i < mid → (fun v => ∀ y, mid ≤ y → y < b → lt d'[y]! v = false) d'[i]! := by
    refine permIn_all d d' a mid (fun v => ∀ y, mid ≤ y → y < b → lt d'[y]! v = false) (by omega) p1 ?_
    intro i hi hi2 y hy hyb
    rw [p1.2.1 y (by omega)]
    exact hc i y hi hi2 hy hyb
  exact permIn_all d' d'' mid b (fun v => lt v d'[x]! = false) (by omega) p2 (fun y hy hyb => k1 x hx hxm y hy hyb) y hy hyb
end
end Go.Proofs.Ytjlnmpjffogpdaa

/- The sort of the library at texts, by name and number (the kit's proved sort is laid here). -/
namespace Go.Proofs.Ytjlnmpjffogpdaa
open Go.Shelf
def sortTe_ren : Go.Shelf.Ren := ⟨fun | 6 => 69 | 15 => 101 | 14 => 100 | 28 => 125 | 29 => 126 | 20 => 117 | 21 => 118 | 22 => 119 | 23 => 120 | 24 => 121 | 25 => 122 | 26 => 123 | 27 => 124 | 46 => 137 | 47 => 138 | 48 => 139 | 49 => 140 | 50 => 141 | 57 => 147 | n => n, fun | 22 => 30 | 24 => 33 | 25 => 107 | 3 => 3 | 39 => 138 | 0 => 0 | 53 => 170 | 55 => 87 | 4 => 4 | 46 => 163 | 45 => 162 | 50 => 167 | 5 => 5 | 9 => 9 | 66 => 180 | 70 => 52 | 76 => 188 | 77 => 189 | n => n, fun | n => n⟩
theorem sortTe : Go.Proofs.SlLaysF.n6 Try.prog sortTe_ren := {
  mixed := by kernel_rfl
  f6 := ⟨Try.f69.name, by decide, Try.func69.trans (congrArg some (by kernel_rfl))⟩
  f14 := ⟨Try.f100.name, by decide, Try.func100.trans (congrArg some (by kernel_rfl))⟩
  f15 := Try.func101.trans (congrArg some (by kernel_rfl))
  f20 := ⟨Try.f117.name, by decide, Try.func117.trans (congrArg some (by kernel_rfl))⟩
  f21 := ⟨Try.f118.name, by decide, Try.func118.trans (congrArg some (by kernel_rfl))⟩
  f22 := ⟨Try.f119.name, by decide, Try.func119.trans (congrArg some (by kernel_rfl))⟩
  f23 := ⟨Try.f120.name, by decide, Try.func120.trans (congrArg some (by kernel_rfl))⟩
  f24 := ⟨Try.f121.name, by decide, Try.func121.trans (congrArg some (by kernel_rfl))⟩
  f25 := ⟨Try.f122.name, by decide, Try.func122.trans (congrArg some (by kernel_rfl))⟩
  f26 := ⟨Try.f123.name, by decide, Try.func123.trans (congrArg some (by kernel_rfl))⟩
  f27 := ⟨Try.f124.name, by decide, Try.func124.trans (congrArg some (by kernel_rfl))⟩
  f28 := Try.func125.trans (congrArg some (by kernel_rfl))
  f29 := Try.func126.trans (congrArg some (by kernel_rfl))
  f46 := ⟨Try.f137.name, by decide, Try.func137.trans (congrArg some (by kernel_rfl))⟩
  f47 := Try.func138.trans (congrArg some (by kernel_rfl))
  f48 := Try.func139.trans (congrArg some (by kernel_rfl))
  f49 := ⟨Try.f140.name, by decide, Try.func140.trans (congrArg some (by kernel_rfl))⟩
  f50 := ⟨Try.f141.name, by decide, Try.func141.trans (congrArg some (by kernel_rfl))⟩
  f57 := ⟨Try.f147.name, by decide, Try.func147.trans (congrArg some (by kernel_rfl))⟩
  t0 := Try.underlying0
  a0 := Try.isAgg0
  z0 := Try.sizeOf0
  v0 := Try.zeroValue0
  t3 := Try.underlying3
  a3 := Try.isAgg3
  z3 := Try.sizeOf3
  v3 := Try.zeroValue3
  t4 := Try.underlying4
  a4 := Try.isAgg4
  z4 := Try.sizeOf4
  v4 := Try.zeroValue4
  t5 := Try.underlying5
  a5 := Try.isAgg5
  z5 := Try.sizeOf5
  v5 := Try.zeroValue5
  t9 := Try.underlying9
  a9 := Try.isAgg9
  z9 := Try.sizeOf9
  v9 := Try.zeroValue9
  t22 := Try.underlying30
  a22 := Try.isAgg30
  z22 := Try.sizeOf30
  v22 := Try.zeroValue30
  a24 := Try.isAgg33
  z24 := Try.sizeOf33
  t25 := Try.underlying107
  a25 := Try.isAgg107
  z25 := Try.sizeOf107
  v25 := Try.zeroValue107
  t39 := Try.underlying138
  a39 := Try.isAgg138
  z39 := Try.sizeOf138
  v39 := Try.zeroValue138
  t45 := Try.underlying162
  a45 := Try.isAgg162
  z45 := Try.sizeOf162
  v45 := Try.zeroValue162
  t46 := Try.underlying163
  a46 := Try.isAgg163
  z46 := Try.sizeOf163
  v46 := Try.zeroValue163
  t50 := Try.underlying167
  a50 := Try.isAgg167
  z50 := Try.sizeOf167
  v50 := Try.zeroValue167
  t53 := Try.underlying170
  a53 := Try.isAgg170
  z53 := Try.sizeOf170
  v53 := Try.zeroValue170
  t55 := Try.underlying87
  a55 := Try.isAgg87
  z55 := Try.sizeOf87
  v55 := Try.zeroValue87
  t66 := Try.underlying180
  a66 := Try.isAgg180
  z66 := Try.sizeOf180
  v66 := Try.zeroValue180
  t70 := Try.underlying52
  a70 := Try.isAgg52
  z70 := Try.sizeOf52
  v70 := Try.zeroValue52
  t76 := Try.underlying188
  a76 := Try.isAgg188
  z76 := Try.sizeOf188
  v76 := Try.zeroValue188
  t77 := Try.underlying189
  a77 := Try.isAgg189
  z77 := Try.sizeOf189
  v77 := Try.zeroValue189 }
end Go.Proofs.Ytjlnmpjffogpdaa
