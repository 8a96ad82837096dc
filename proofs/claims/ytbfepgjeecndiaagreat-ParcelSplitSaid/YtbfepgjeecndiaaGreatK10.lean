/- Merging in place (plain): what exchanges of ranges, rotations and the symmetric merge do to a row. -/
import Derived.Test.YtbfepgjeecndiaaGreatK07
import Derived.Test.YtbfepgjeecndiaaGreatLay
namespace Go.Proofs.YtbfepgjeecndiaaGreat
open Go.Sort
set_option linter.unusedVariables false
section
variable {α : Type} [Inhabited α] {lt : α → α → Bool} {a m b : Nat} {d d' d'' : Array α}
structure Swr (a b n : Nat) (d d' : Array α) : Prop where
 size : d'.size = d.size
 out : ∀ t, ¬ (a ≤ t ∧ t < a + n) → ¬ (b ≤ t ∧ t < b + n) → d'[t]! = d[t]!
 lo : ∀ t, a ≤ t → t < a + n → d'[t]! = d[t - a + b]!
 hi : ∀ t, b ≤ t → t < b + n → d'[t]! = d[t - b + a]!
theorem Swr.zero (a b : Nat) (d : Array α) : Swr a b 0 d d := ⟨rfl, fun _ _ _ => rfl, fun t h1 h2 => by omega, fun t h1 h2 => by omega⟩
theorem Swr.step {n : Nat} (h : Swr a b n d d') (hab : a + n + 1 ≤ b) (hb : b + n < d.size) : Swr a b (n + 1) d (swp d' (a + n) (b + n)) := by
 have g := swp_get d' (i := a + n) (j := b + n) (by rw [h.size]; omega) (by rw [h.size]; omega)
 refine ⟨by rw [size_swp]; exact h.size, fun t h1 h2 => ?_, fun t h1 h2 => ?_, fun t h1 h2 => ?_⟩
 ·rw [g, if_neg (by omega), if_neg (by omega)]; exact h.out t (by omega) (by omega)
 ·rw [g, if_neg (by omega)]
  by_cases e : t = a + n
  ·subst e; rw [if_pos rfl, h.out _ (by omega) (by omega)]; congr 1; omega
  ·rw [if_neg e]; exact h.lo t h1 (by omega)
 ·rw [g]
  by_cases e : t = b + n
  ·subst e; rw [if_pos rfl, h.out _ (by omega) (by omega)]; congr 1; omega
  ·rw [if_neg e, if_neg (by omega)]; exact h.hi t h1 (by omega)
structure Rot (a m b : Nat) (d d' : Array α) : Prop where
 size : d'.size = d.size
 out : ∀ t, t < a ∨ b ≤ t → d'[t]! = d[t]!
 lo : ∀ t, a ≤ t → t < a + (b - m) → d'[t]! = d[t + (m - a)]!
 hi : ∀ t, a + (b - m) ≤ t → t < b → d'[t]! = d[t - (b - m)]!
theorem Rot.left {i j : Nat} (hi : i ≤ m) (hij : j < i) (h : Swr (m - i) m j d d') (k : Rot (m - i + j) m (m + j) d' d'') : Rot (m - i) m (m + j) d d'' := by
 refine ⟨k.size.trans h.size, fun t ht => ?_, fun t h1 h2 => ?_, fun t h1 h2 => ?_⟩
 ·rw [k.out t (by omega)]; exact h.out t (by omega) (by omega)
 ·rw [k.out t (by omega), h.lo t h1 (by omega)]; congr 1; omega
 ·by_cases c : t < m - i + j + j
  ·rw [k.lo t (by omega) (by omega), h.hi _ (by omega) (by omega)]; congr 1; omega
  ·rw [k.hi t (by omega) (by omega), h.out _ (by omega) (by omega)]
theorem Rot.right {i j : Nat} (hi : i ≤ m) (hij : i < j) (h : Swr (m - i) (m + j - i) i d d') (k : Rot (m - i) m (m + (j - i)) d' d'') : Rot (m - i) m (m + j) d d'' := by
 refine ⟨k.size.trans h.size, fun t ht => ?_, fun t h1 h2 => ?_, fun t h1 h2 => ?_⟩
 ·rw [k.out t (by omega)]; exact h.out t (by omega) (by omega)
 ·by_cases c : t < m - i + (j - i)
  ·rw [k.lo t (by omega) (by omega), h.out _ (by omega) (by omega)]
  ·by_cases c2 : t < m + (j - i)
   ·rw [k.hi t (by omega) (by omega), h.lo _ (by omega) (by omega)]; congr 1; omega
   ·omega
 ·by_cases c2 : t < m + (j - i)
  ·rw [k.hi t (by omega) (by omega), h.lo _ (by omega) (by omega)]; congr 1; omega
  ·rw [k.out t (by omega), h.hi t (by omega) (by omega)]; congr 1; omega
theorem Rot.even {i : Nat} (hi : i ≤ m) (h : Swr (m - i) m i d d') : Rot (m - i) m (m + i) d d' := by
 refine ⟨h.size, fun t ht => h.out t (by omega) (by omega), fun t h1 h2 => ?_, fun t h1 h2 => ?_⟩
 ·rw [h.lo t h1 (by omega)]; congr 1; omega
 ·rw [h.hi t (by omega) (by omega)]; congr 1; omega
theorem Rot.up {k : Nat} (h : Rot a (a + 1) (k + 1) d d') (hk : a ≤ k) (hs : k + 1 < d.size) : Rot a (a + 1) (k + 2) d (swp d' k (k + 1)) := by
 have g := swp_get d' (i := k) (j := k + 1) (by rw [h.size]; omega) (by rw [h.size]; omega)
 refine ⟨by rw [size_swp]; exact h.size, fun t ht => ?_, fun t h1 h2 => ?_, fun t h1 h2 => ?_⟩
 ·rw [g, if_neg (by omega), if_neg (by omega)]; exact h.out t (by omega)
 ·rw [g, if_neg (by omega)]
  by_cases e : t = k
  ·subst e; rw [if_pos rfl, h.out _ (by omega)]; congr 1; omega
  ·rw [if_neg e]; exact h.lo t h1 (by omega)
 ·obtain rfl : t = k + 1 := by omega
  rw [g, if_pos rfl, h.hi k (by omega) (by omega)]; congr 1; omega
theorem Rot.none (a m : Nat) (d : Array α) (h : a ≤ m) : Rot a m m d d := ⟨rfl, fun _ _ => rfl, fun t h1 h2 => by omega, fun t h1 h2 => by congr 1; omega⟩
theorem Rot.none' (m b : Nat) (d : Array α) (h : m ≤ b) : Rot m m b d d := ⟨rfl, fun _ _ => rfl, fun t h1 h2 => by congr 1; omega, fun t h1 h2 => by omega⟩
theorem Rot.down {k : Nat} (h : Rot (k + 1) m (m + 1) d d') (hk : k + 1 ≤ m) (hs : m < d.size) : Rot k m (m + 1) d (swp d' (k + 1) k) := by
 have g := swp_get d' (i := k + 1) (j := k) (by rw [h.size]; omega) (by rw [h.size]; omega)
 refine ⟨by rw [size_swp]; exact h.size, fun t ht => ?_, fun t h1 h2 => ?_, fun t h1 h2 => ?_⟩
 ·rw [g, if_neg (by omega), if_neg (by omega)]; exact h.out t (by omega)
 ·obtain rfl : t = k := by omega
  rw [g, if_pos rfl, h.lo _ (by omega) (by omega)]; congr 1; omega
 ·rw [g, if_neg (by omega)]
  by_cases e : t = k + 1
  ·subst e; rw [if_pos rfl, h.out _ (by omega)]; congr 1; omega
  ·rw [if_neg e]; exact h.hi t (by omega) (by omega)
theorem sorted_le (hS : SWO lt) (h : SortedIn lt a b d) {i j : Nat} (hi : a ≤ i) (hij : i ≤ j) (hj : j < b) : lt d[j]! d[i]! = false := by
 by_cases e : i = j
 ·subst e; exact hS.irrefl _
 ·exact h i j hi (by omega) hj
theorem sorted_join (hS : SWO lt) (h1 : SortedIn lt a m d) (h2 : SortedIn lt m b d) (h3 : ∀ x y, a ≤ x → x < m → m ≤ y → y < b → lt d[y]! d[x]! = false) : SortedIn lt a b d := by
 intro i j hi hij hj
 by_cases c : j < m
 ·exact h1 i j hi hij c
 ·by_cases c2 : i < m
  ·exact h3 i j hi c2 (by omega) hj
  ·exact h2 i j (by omega) hij hj
theorem ins_left (hS : SWO lt) {i : Nat} (hm : a + 1 ≤ i) (hib : i ≤ b) (h : SortedIn lt (a + 1) b d) (h1 : i = a + 1 ∨ lt d[i - 1]! d[a]! = true) (h2 : i = b ∨ lt d[i]! d[a]! = false) (R : Rot a (a + 1) i d d') : SortedIn lt a b d' := by
 have lo : ∀ t, a + 1 ≤ t → t < i → lt d[a]! d[t]! = false := by
  intro t ht hti
  rcases h1 with h1 | h1
  ·omega
  ·cases hx : lt d[a]! d[t]! with
   | false => rfl
   | true =>
    have := hS.trans _ _ _ h1 hx
    rw [sorted_le hS h (i := t) (j := i - 1) ht (by omega) (by omega)] at this
    cases this
 have hi : ∀ t, i ≤ t → t < b → lt d[t]! d[a]! = false := by
  intro t ht htb
  rcases h2 with h2 | h2
  ·omega
  ·exact hS.ntrans _ _ _ (sorted_le hS h (i := i) (j := t) (by omega) ht htb) h2
 have g1 : ∀ t, a ≤ t → t < i - 1 → d'[t]! = d[t + 1]! := fun t x y => by rw [R.lo t x (by omega)]; congr 1; omega
 have g2 : d'[i - 1]! = d[a]! := by rw [R.hi (i - 1) (by omega) (by omega)]; congr 1; omega
 intro x y hx hxy hy
 by_cases c1 : y < i - 1
 ·rw [g1 x hx (by omega), g1 y (by omega) c1]; exact h _ _ (by omega) (by omega) (by omega)
 ·by_cases c2 : y = i - 1
  ·subst c2; rw [g2, g1 x hx (by omega)]; exact lo _ (by omega) (by omega)
  ·rw [R.out y (by omega)]
   by_cases c3 : x < i - 1
   ·rw [g1 x hx c3]; exact h _ _ (by omega) (by omega) hy
   ·by_cases c4 : x = i - 1
    ·subst c4; rw [g2]; exact hi y (by omega) hy
    ·rw [R.out x (by omega)]; exact h _ _ (by omega) hxy hy
theorem ins_right (hS : SWO lt) {i : Nat} (hai : a ≤ i) (him : i ≤ m) (h : SortedIn lt a m d) (h1 : i = a ∨ lt d[m]! d[i - 1]! = false) (h2 : i = m ∨ lt d[m]! d[i]! = true) (R : Rot i m (m + 1) d d') : SortedIn lt a (m + 1) d' := by
 have lo : ∀ t, a ≤ t → t < i → lt d[m]! d[t]! = false := by
  intro t ht hti
  rcases h1 with h1 | h1
  ·omega
  ·exact hS.ntrans _ _ _ h1 (sorted_le hS h (i := t) (j := i - 1) ht (by omega) (by omega))
 have hi : ∀ t, i ≤ t → t < m → lt d[t]! d[m]! = false := by
  intro t ht htm
  rcases h2 with h2 | h2
  ·omega
  ·cases hx : lt d[t]! d[m]! with
   | false => rfl
   | true =>
    have := hS.trans _ _ _ hx h2
    rw [sorted_le hS h (i := i) (j := t) (by omega) ht htm] at this
    cases this
 have g1 : d'[i]! = d[m]! := by rw [R.lo i (by omega) (by omega)]; congr 1; omega
 have g2 : ∀ t, i + 1 ≤ t → t < m + 1 → d'[t]! = d[t - 1]! := fun t x y => by rw [R.hi t (by omega) y]; congr 1; omega
 intro x y hx hxy hy
 by_cases c1 : y < i
 ·rw [R.out x (by omega), R.out y (by omega)]; exact h _ _ hx hxy (by omega)
 ·by_cases c2 : y = i
  ·subst c2; rw [g1, R.out x (by omega)]; exact lo x hx hxy
  ·rw [g2 y (by omega) hy]
   by_cases c3 : x < i
   ·rw [R.out x (by omega)]; exact h _ _ hx (by omega) (by omega)
   ·by_cases c4 : x = i
    ·subst c4; rw [g1]; exact hi _ (by omega) (by omega)
    ·rw [g2 x (by omega) (by omega)]; exact h _ _ (by omega) (by omega) (by omega)
theorem sym_parts (hS : SWO lt) {s e mid : Nat} (h1 : SortedIn lt a m d) (h2 : SortedIn lt m b d) (has : a ≤ s) (hsm : s ≤ m) (hme : m ≤ e) (heb : e ≤ b) (hn : s + e = mid + m)
  (hA : s = a ∨ e = b ∨ lt d[e]! d[s - 1]! = false) (hB : s = m ∨ e = m ∨ lt d[e - 1]! d[s]! = true) (R : Rot s m e d d') :
  SortedIn lt a s d' ∧ SortedIn lt s mid d' ∧ SortedIn lt mid e d' ∧ SortedIn lt e b d' ∧ ∀ x y, a ≤ x → x < mid → mid ≤ y → y < b → lt d'[y]! d'[x]! = false := by
 have g1 : ∀ t, s ≤ t → t < mid → d'[t]! = d[t + (m - s)]! := fun t x y => R.lo t x (by omega)
 have g2 : ∀ t, mid ≤ t → t < e → d'[t]! = d[t - (e - m)]! := fun t x y => R.hi t (by omega) y
 refine ⟨fun i j hi hij hj => ?_, fun i j hi hij hj => ?_, fun i j hi hij hj => ?_, fun i j hi hij hj => ?_, fun x y hx hxm hy hyb => ?_⟩
 ·rw [R.out i (by omega), R.out j (by omega)]; exact h1 _ _ hi hij (by omega)
 ·rw [g1 i hi (by omega), g1 j (by omega) hj]; exact h2 _ _ (by omega) (by omega) (by omega)
 ·rw [g2 i hi (by omega), g2 j (by omega) hj]; exact h1 _ _ (by omega) (by omega) (by omega)
 ·rw [R.out i (by omega), R.out j (by omega)]; exact h2 _ _ (by omega) hij hj
 ·by_cases c1 : x < s
  ·rw [R.out x (by omega)]
   by_cases c2 : y < e
   ·rw [g2 y hy c2]; exact sorted_le hS h1 hx (by omega) (by omega)
   ·rw [R.out y (by omega)]
    rcases hA with hA | hA | hA
    ·omega
    ·omega
    ·exact hS.ntrans _ _ _ (sorted_le hS h2 (i := e) (j := y) (by omega) (by omega) hyb) (hS.ntrans _ _ _ hA (sorted_le hS h1 (i := x) (j := s - 1) hx (by omega) (by omega)))
  ·rw [g1 x (by omega) hxm]
   by_cases c2 : y < e
   ·rw [g2 y hy c2]
    rcases hB with hB | hB | hB
    ·omega
    ·omega
    ·refine hS.asymmA ?_
     cases hz : lt d[x + (m - s)]! d[y - (e - m)]! with
     | true => rfl
     | false =>
      have k1 : lt d[e - 1]! d[x + (m - s)]! = false := sorted_le hS h2 (by omega) (by omega) (by omega)
      have k2 : lt d[y - (e - m)]! d[s]! = false := sorted_le hS h1 has (by omega) (by omega)
      rw [hS.ntrans _ _ _ (hS.ntrans _ _ _ k1 hz) k2] at hB
      cases hB
   ·rw [R.out y (by omega)]; exact sorted_le hS h2 (by omega) (by omega) hyb
theorem sym_whole (hS : SWO lt) {mid : Nat} (ham : a ≤ mid) (hmb : mid ≤ b) (hb : b ≤ d.size) (hc : ∀ x y, a ≤ x → x < mid → mid ≤ y → y < b → lt d[y]! d[x]! = false)
  (p1 : PermIn a mid d d') (s1 : SortedIn lt a mid d') (p2 : PermIn mid b d' d'') (s2 : SortedIn lt mid b d'') : SortedIn lt a b d'' ∧ PermIn a b d d'' := by
 have hs1 : d'.size = d.size := p1.1
 refine ⟨sorted_join hS ((fun i j hi hij hj => by rw [p2.2.1 i (by omega), p2.2.1 j (by omega)]; exact s1 i j hi hij hj)) s2 ?_, permIn_trans _ _ _ _ _ (permIn_mono _ _ _ _ _ _ (Nat.le_refl _) hmb hb p1) (permIn_mono _ _ _ _ _ _ ham (Nat.le_refl _) (by omega) p2)⟩
 intro x y hx hxm hy hyb
 rw [p2.2.1 x (by omega)]
 have k1 : ∀ i, a ≤ i → i < mid → (fun v => ∀ y, mid ≤ y → y < b → lt d'[y]! v = false) d'[i]! := by
  refine permIn_all d d' a mid (fun v => ∀ y, mid ≤ y → y < b → lt d'[y]! v = false) (by omega) p1 ?_
  intro i hi hi2 y hy hyb
  rw [p1.2.1 y (by omega)]
  exact hc i y hi hi2 hy hyb
 exact permIn_all d' d'' mid b (fun v => lt v d'[x]! = false) (by omega) p2 (fun y hy hyb => k1 x hx hxm y hy hyb) y hy hyb
end
end Go.Proofs.YtbfepgjeecndiaaGreat

/- Views compared (both sides). -/
namespace Go.Proofs.YtbfepgjeecndiaaGreat
set_option maxRecDepth 100000
set_option maxHeartbeats 4000000
open Go.RowKit
set_option linter.unusedVariables false
set_option linter.unusedSimpArgs false
attribute [local go_sem ↓] Go.wp_at_zero Go.wp_at_succ
def eqVw (L : List SgR) (X : List TeR) (L' : List SgR) (X' : List TeR) : Bool := eqG eqSg L L' && eqG eqTe X X'
theorem vw_facts {w : World} {g : Nat} {t : TypeId} {A : Option Addr} {n c : Nat} {B : Option Addr} {m d : Nat} (h : Blk w g t (vwA A n c B m d)) : w.cell? ⟨g, 0, none⟩ = some (.slice A n c) ∧ w.cell? ⟨g, 1, none⟩ = some (.slice B m d) := ⟨h.cell 0, h.cell 1⟩
theorem sameSigned_any (R Q : SgR) (w : World) (hR : R.ok w) (hQ : Q.ok w) :
  Calls Tryz.prog 27 #[.agg (sgA R), .agg (sgA Q)] w fun e w' => e = .returned (.bool (eqSg R Q)) ∧ Ext w w' := by
 have hE := ((Ext.refl w).alloc' (.cells (sgA R) 48)).alloc' (.cells (sgA Q) 48)
 have HB1 := Lib.hid ((Blk.new w 48 (sgA R)).alloc (.cells (sgA Q) 48))
 have HB2 := Lib.hid (show Blk ((w.alloc (.cells (sgA R) 48)).alloc (.cells (sgA Q) 48)) (w.heap.size + 1) 48 (sgA Q) from Blk.newAt _ _ _ _ (by simp))
 have HE := Lib.hid hE
 have y8 := strV_eq' R.sig Q.sig
 have r8 := run_strV (hR.sig.ext hE)
 have t8 := run_strV (hQ.sig.ext hE)
 have hq := fun W => run_eqVt R.v Q.v hR.v hQ.v W
 have hqi := fun W => eqIn_Vt R.v Q.v hR.v hQ.v W
 have HV := Lib.hid (show eqSg R Q = (decide (R.v = Q.v) && decide (R.sig = Q.sig)) from rfl)
 obtain ⟨w0, hw0⟩ : ∃ w0, (w.alloc (.cells (sgA R) 48)).alloc (.cells (sgA Q) 48) = w0 := ⟨_, rfl⟩
 rw [hw0] at HB1 HB2 HE r8 t8
 have r1 : w0.rangeAt w.heap.size 0 (vtL R.v) := rangeAt_take (k := 22) (rangeAt_of_blk HB1.out)
 have r2 : w0.rangeAt (w.heap.size + 1) 0 (vtL Q.v) := rangeAt_take (k := 22) (rangeAt_of_blk HB2.out)
 have p1 : w0.cell? ⟨w.heap.size, 22, none⟩ = some (.slice R.A R.n R.c) := HB1.out.cell 22
 have p2 : w0.cell? ⟨w.heap.size + 1, 22, none⟩ = some (.slice Q.A Q.n Q.c) := HB2.out.cell 22
 clear hR hQ hE
 by_cases hv : R.v = Q.v
 ·have HV' := Lib.hid (show eqSg R Q = decide (R.sig = Q.sig) by rw [HV.out]; simp [hv])
  rw [decide_eq_true hv] at hq hqi
  obtain ⟨bb, hbb⟩ : ∃ bb, decide (R.sig = Q.sig) = bb := ⟨_, rfl⟩
  rw [hbb] at y8 HV'
  clear hbb
  clear hv HV
  go_enter Tryz.func27, Tryz.ntmps27
  go_wp2_with (first | (with_reducible refine wpList_loadVt rfl (.tmp 5) rfl w.heap.size 0 rfl R.v r1 ?_) | (with_reducible refine wpList_loadVt rfl (.tmp 7) rfl (w.heap.size + 1) 0 rfl Q.v r2 ?_))
  go_ret
  exact ⟨by rw [HV'.out]; rfl, HE.out⟩
 ·have HV' := Lib.hid (show eqSg R Q = false by rw [HV.out]; simp [hv])
  rw [decide_eq_false hv] at hq hqi
  clear y8 r8 t8
  clear hv HV
  go_enter Tryz.func27, Tryz.ntmps27
  go_wp2_with (first | (with_reducible refine wpList_loadVt rfl (.tmp 5) rfl w.heap.size 0 rfl R.v r1 ?_) | (with_reducible refine wpList_loadVt rfl (.tmp 7) rfl (w.heap.size + 1) 0 rfl Q.v r2 ?_))
  go_ret
  exact ⟨by rw [HV'.out]; rfl, HE.out⟩
theorem sameTexts_any (A : Option Addr) (n c : Nat) (L : List TeR) (A' : Option Addr) (n' c' : Nat) (M : List TeR) (w : World) (hS : SlG w A n c L) (hS' : SlG w A' n' c' M) :
  Calls Tryz.prog 16 #[.slice A n c, .slice A' n' c'] w fun e w' => e = .returned (.bool (eqG eqTe L M)) ∧ Ext w w' := by
 have hle := hS.le
 have hcap := hS.cap
 have hle' := hS'.le
 have hcap' := hS'.cap
 have HL := Lib.hid hS.len
 have HM := Lib.hid hS'.len
 by_cases hn : n = n'
 ·subst hn
  have HS := Lib.hid hS
  have HS' := Lib.hid hS'
  have HCA := Lib.hid (show n = 0 ∨ ((∃ b o, A = some ⟨b, o, none⟩ ∧ w.rangeAt b o (gcs L) ∧ b < w.heap.size) ∧ ∃ b o, A' = some ⟨b, o, none⟩ ∧ w.rangeAt b o (gcs M) ∧ b < w.heap.size) from by
   rcases Nat.eq_zero_or_pos n with h0 | h0
   ·exact .inl h0
   ·exact .inr ⟨HS.out.at h0, HS'.out.at h0⟩)
  clear hS hS'
  go_enter Tryz.func16, Tryz.ntmps16
  go_wp2_with fail
  go_loopw [5] (fun i wr => ∃ k : Nat, k ≤ n ∧ i = .int .i64 (k : Int) ∧ Hid (∀ j, j < k → eqTe (nthG L j) (nthG M j) = true) ∧ Ext w wr) (fun i _ => n - (intOf i).toNat)
  case atStart => exact ⟨0, Nat.zero_le _, rfl, Lib.hid (fun j hj => by omega), Ext.refl _⟩
  case round =>
   obtain ⟨k, hk, rfl, HP, hX⟩ := hrel
   have HX := Lib.hid hX
   clear hX
   by_cases hlt : k < n
   ·rcases HCA.out with h0 | ⟨⟨b, of, rfl, hr, hb⟩, b', of', rfl, hr', hb'⟩
    ·omega
    have hr1 : wr.rangeAt b (of + k * 1) (teL (nthG L k)) := el_at (rangeAt_keep hr (HX.out.block b hb)) (k := k) (by rw [HL.out]; exact hlt)
    have hr2 : wr.rangeAt b' (of' + k * 1) (teL (nthG M k)) := el_at (rangeAt_keep hr' (HX.out.block b' hb')) (k := k) (by rw [HM.out]; exact hlt)
    clear hr hr' hb hb' HCA
    have HOK := Lib.hid (HS.out.nth hlt : (nthG L k).ok w)
    have HOK' := Lib.hid (HS'.out.nth hlt : (nthG M k).ok w)
    have HQ := Lib.hid (fun (hx : eqTe (nthG L k) (nthG M k) = true) => show ∀ j, j < k + 1 → eqTe (nthG L j) (nthG M j) = true from fun j hj => by
     rcases Nat.lt_or_ge j k with h | h
     ·exact HP.out j h
     ·obtain rfl : j = k := by omega
      exact hx)
    have HN := Lib.hid (fun (hx : eqTe (nthG L k) (nthG M k) = false) => show eqG eqTe L M = false from eqG_at (by rw [HL.out]; exact hlt) hx)
    have i0 : (0 : Int) ≤ (k : Int) := by omega
    have i1 : (k : Int) < (n : Int) := by omega
    obtain ⟨R, hR⟩ : ∃ R, nthG L k = R := ⟨_, rfl⟩
    obtain ⟨Q, hQ⟩ : ∃ Q, nthG M k = Q := ⟨_, rfl⟩
    rw [hR, hQ] at HQ HN
    rw [hR] at hr1 HOK
    rw [hQ] at hr2 HOK'
    clear hR hQ
    obtain ⟨RA, Rn, Rc, Rl⟩ := R
    obtain ⟨QA, Qn, Qc, Ql⟩ := Q
    have HC := Lib.hid (fun (W : World) (h : Ext wr W) => (⟨by have := rangeAt_keep hr1 (h.block b (rangeAt_lt hr1 (by intro e; cases e))) 0 _ rfl; rwa [Nat.mul_one, Nat.add_zero] at this, by have := rangeAt_keep hr2 (h.block b' (rangeAt_lt hr2 (by intro e; cases e))) 0 _ rfl; rwa [Nat.mul_one, Nat.add_zero] at this, run_strV (SlB.ext HOK.out (HX.out.trans h)), run_strV (SlB.ext HOK'.out (HX.out.trans h))⟩ : W.cell? ⟨b, of + k, none⟩ = some (.slice RA Rn Rc) ∧ W.cell? ⟨b', of' + k, none⟩ = some (.slice QA Qn Qc) ∧ (convert 28 9 (.slice RA Rn Rc)).run Tryz.prog W = .ok (.string (strV Rl)) W ∧ (convert 28 9 (.slice QA Qn Qc)).run Tryz.prog W = .ok (.string (strV Ql)) W))
    have y8 := strV_eq' Rl Ql
    obtain ⟨bb, hbb⟩ : ∃ bb, decide (Rl = Ql) = bb := ⟨_, rfl⟩
    rw [hbb] at y8
    clear hr1 hr2
    go_wp2_with fail
    refine wp_region_plan (S := fun W => Ext wr W) (by kernel_rfl) (by kernel_rfl) ((Ext.refl wr).drew') ?_
    (refine pr 0 (oi := ⟨some 17, .move (.tmp 0), 23, "items.go:273", #[], none⟩) (v := ?_) rfl (by kernel_rfl) (by rfl) ?h ?_; case h => (intro W hSW; go_simp <;> with_reducible rfl))
    try simp only [lays]
    (refine pr 1 (oi := ⟨some 18, .move (.tmp 5), 3, "items.go:273", #[], none⟩) (v := ?_) rfl (by kernel_rfl) (by rfl) ?h ?_; case h => (intro W hSW; go_simp <;> with_reducible rfl))
    try simp only [lays]
    (refine pr 2 (oi := ⟨some 19, .indexAddr 23 (.tmp 17) (.tmp 18), 0, "items.go:273", #[⟨0, .data⟩, ⟨1, .data⟩], none⟩) (v := ?_) rfl (by kernel_rfl) (by rfl) ?h ?_; case h => (intro W hSW; go_simp <;> with_reducible rfl))
    try simp only [lays]
    (refine pr 3 (oi := ⟨some 20, .load 28 (.tmp 19), 28, "items.go:273", #[⟨2, .data⟩], none⟩) (v := ?_) rfl (by kernel_rfl) (by rfl) ?h ?_; case h => (intro W hSW; obtain ⟨s1, s2, s3, s4⟩ := HC.out W hSW; go_simp <;> with_reducible rfl))
    try simp only [lays]
    (refine pr 4 (oi := ⟨some 21, .convert 28 9 (.tmp 20), 9, "items.go:273", #[⟨3, .data⟩], none⟩) (v := ?_) rfl (by kernel_rfl) (by rfl) ?h ?_; case h => (intro W hSW; obtain ⟨s1, s2, s3, s4⟩ := HC.out W hSW; go_simp <;> with_reducible rfl))
    try simp only [lays]
    (refine pr 5 (oi := ⟨some 22, .move (.tmp 1), 23, "items.go:273", #[], none⟩) (v := ?_) rfl (by kernel_rfl) (by rfl) ?h ?_; case h => (intro W hSW; go_simp <;> with_reducible rfl))
    try simp only [lays]
    (refine pr 6 (oi := ⟨some 23, .move (.tmp 5), 3, "items.go:273", #[], none⟩) (v := ?_) rfl (by kernel_rfl) (by rfl) ?h ?_; case h => (intro W hSW; go_simp <;> with_reducible rfl))
    try simp only [lays]
    (refine pr 7 (oi := ⟨some 24, .indexAddr 23 (.tmp 22) (.tmp 23), 0, "items.go:273", #[⟨5, .data⟩, ⟨6, .data⟩], none⟩) (v := ?_) rfl (by kernel_rfl) (by rfl) ?h ?_; case h => (intro W hSW; go_simp <;> with_reducible rfl))
    try simp only [lays]
    (refine pr 8 (oi := ⟨some 25, .load 28 (.tmp 24), 28, "items.go:273", #[⟨7, .data⟩], none⟩) (v := ?_) rfl (by kernel_rfl) (by rfl) ?h ?_; case h => (intro W hSW; obtain ⟨s1, s2, s3, s4⟩ := HC.out W hSW; go_simp <;> with_reducible rfl))
    try simp only [lays]
    (refine pr 9 (oi := ⟨some 26, .convert 28 9 (.tmp 25), 9, "items.go:273", #[⟨8, .data⟩], none⟩) (v := ?_) rfl (by kernel_rfl) (by rfl) ?h ?_; case h => (intro W hSW; obtain ⟨s1, s2, s3, s4⟩ := HC.out W hSW; go_simp <;> with_reducible rfl))
    try simp only [lays]
    (refine pr 10 (oi := ⟨some 27, .binOp .neq 9 (.tmp 21) (.tmp 26) 9, 4, "items.go:273", #[⟨4, .data⟩, ⟨9, .data⟩], none⟩) (v := ?_) rfl (by kernel_rfl) (by rfl) ?h ?_; case h => (intro W hSW; go_simp <;> with_reducible rfl))
    try simp only [lays]
    refine Plan.done (by kernel_rfl) (fun W hSW => ?_)
    have HX1 := Lib.hid (HX.out.trans hSW)
    clear hSW
    cases bb with
    | true =>
     have HQ' := Lib.hid (HQ.out hbb)
     clear hbb
     go_wp2_with fail
     go_roundw
     case rel => exact ⟨k + 1, by omega, by go_num, HQ', HX1.out⟩
     case measure => simp [intOf]; omega
    | false =>
     have HN' := Lib.hid (HN.out hbb)
     clear hbb
     go_wp2_with fail
     go_ret
     exact ⟨by rw [HN'.out]; rfl, HX1.out⟩
   ·obtain rfl : k = n := by omega
    have HV := Lib.hid (show eqG eqTe L M = true from eqG_yes (by rw [HL.out, HM.out]) (fun j hj => HP.out j (by rw [HL.out] at hj; exact hj)))
    go_wp2_with fail
    go_ret
    exact ⟨by rw [HV.out]; rfl, HX.out⟩
 ·have HV := Lib.hid (show eqG eqTe L M = false from eqG_len (by rw [HL.out, HM.out]; exact hn))
  have d1 : ((n : Int) == (n' : Int)) = false := by simp; omega
  have d2 : decide ((n : Int) = (n' : Int)) = false := decide_eq_false (by omega)
  clear hS hS' hn
  go_enter Tryz.func16, Tryz.ntmps16
  go_wp2_with fail
  go_ret
  exact ⟨by rw [HV.out]; rfl, Ext.refl _⟩
end Go.Proofs.YtbfepgjeecndiaaGreat
