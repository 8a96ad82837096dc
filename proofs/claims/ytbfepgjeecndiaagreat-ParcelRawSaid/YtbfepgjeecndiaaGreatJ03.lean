/- Merging in place (plain): what exchanges of ranges, rotations and the symmetric merge do to a row. -/
import Derived.Sort.LotA
import Derived.Test.YtbfepgjeecndiaaGreatJ01
import Derived.Test.YtbfepgjeecndiaaGreatJ02
namespace Go.Proofs.YtbfepgjeecndiaaGreat
open Go.Sort
set_option linter.unusedVariables false
section
variable {α : Type} [Inhabited α] {lt : α → α → Bool} {a m b : Nat} {d d' d'' : Array α}
structure Swr (a b n : Nat) (d d' : Array α) : Prop where
 size : d'.size = d.size
 out : ∀ t, ¬ (a ≤ t ∧ t < a + n) → ¬ (b ≤ t ∧ t < b + n) → d'[t]! = d[t]!
 lo : ∀ t, a ≤ t → t < a + n → d'[t]! = d[t - a + b]!
 hi : ∀ t, b ≤ t → t < b + n → d'[t]! = d[t - b + a]!
theorem Swr.zero (a b : Nat) (d : Array α) : Swr a b 0 d d := ⟨rfl, fun _ _ _ => rfl, fun t h1 h2 => by omega, fun t h1 h2 => by omega⟩
theorem Swr.step {n : Nat} (h : Swr a b n d d') (hab : a + n + 1 ≤ b) (hb : b + n < d.size) : Swr a b (n + 1) d (swp d' (a + n) (b + n)) := by
 have g := swp_get d' (i := a + n) (j := b + n) (by rw [h.size]; omega) (by rw [h.size]; omega)
 refine ⟨by rw [size_swp]; exact h.size, fun t h1 h2 => ?_, fun t h1 h2 => ?_, fun t h1 h2 => ?_⟩
 ·rw [g, if_neg (by omega), if_neg (by omega)]; exact h.out t (by omega) (by omega)
 ·rw [g, if_neg (by omega)]
  by_cases e : t = a + n
  ·subst e; rw [if_pos rfl, h.out _ (by omega) (by omega)]; congr 1; omega
  ·rw [if_neg e]; exact h.lo t h1 (by omega)
 ·rw [g]
  by_cases e : t = b + n
  ·subst e; rw [if_pos rfl, h.out _ (by omega) (by omega)]; congr 1; omega
  ·rw [if_neg e, if_neg (by omega)]; exact h.hi t h1 (by omega)
structure Rot (a m b : Nat) (d d' : Array α) : Prop where
 size : d'.size = d.size
 out : ∀ t, t < a ∨ b ≤ t → d'[t]! = d[t]!
 lo : ∀ t, a ≤ t → t < a + (b - m) → d'[t]! = d[t + (m - a)]!
 hi : ∀ t, a + (b - m) ≤ t → t < b → d'[t]! = d[t - (b - m)]!
theorem Rot.left {i j : Nat} (hi : i ≤ m) (hij : j < i) (h : Swr (m - i) m j d d') (k : Rot (m - i + j) m (m + j) d' d'') : Rot (m - i) m (m + j) d d'' := by
 refine ⟨k.size.trans h.size, fun t ht => ?_, fun t h1 h2 => ?_, fun t h1 h2 => ?_⟩
 ·rw [k.out t (by omega)]; exact h.out t (by omega) (by omega)
 ·rw [k.out t (by omega), h.lo t h1 (by omega)]; congr 1; omega
 ·by_cases c : t < m - i + j + j
  ·rw [k.lo t (by omega) (by omega), h.hi _ (by omega) (by omega)]; congr 1; omega
  ·rw [k.hi t (by omega) (by omega), h.out _ (by omega) (by omega)]
theorem Rot.right {i j : Nat} (hi : i ≤ m) (hij : i < j) (h : Swr (m - i) (m + j - i) i d d') (k : Rot (m - i) m (m + (j - i)) d' d'') : Rot (m - i) m (m + j) d d'' := by
 refine ⟨k.size.trans h.size, fun t ht => ?_, fun t h1 h2 => ?_, fun t h1 h2 => ?_⟩
 ·rw [k.out t (by omega)]; exact h.out t (by omega) (by omega)
 ·by_cases c : t < m - i + (j - i)
  ·rw [k.lo t (by omega) (by omega), h.out _ (by omega) (by omega)]
  ·by_cases c2 : t < m + (j - i)
   ·rw [k.hi t (by omega) (by omega), h.lo _ (by omega) (by omega)]; congr 1; omega
   ·omega
 ·by_cases c2 : t < m + (j - i)
  ·rw [k.hi t (by omega) (by omega), h.lo _ (by omega) (by omega)]; congr 1; omega
  ·rw [k.out t (by omega), h.hi t (by omega) (by omega)]; congr 1; omega
theorem Rot.even {i : Nat} (hi : i ≤ m) (h : Swr (m - i) m i d d') : Rot (m - i) m (m + i) d d' := by
 refine ⟨h.size, fun t ht => h.out t (by omega) (by omega), fun t h1 h2 => ?_, fun t h1 h2 => ?_⟩
 ·rw [h.lo t h1 (by omega)]; congr 1; omega
 ·rw [h.hi t (by omega) (by omega)]; congr 1; omega
theorem Rot.up {k : Nat} (h : Rot a (a + 1) (k + 1) d d') (hk : a ≤ k) (hs : k + 1 < d.size) : Rot a (a + 1) (k + 2) d (swp d' k (k + 1)) := by
 have g := swp_get d' (i := k) (j := k + 1) (by rw [h.size]; omega) (by rw [h.size]; omega)
 refine ⟨by rw [size_swp]; exact h.size, fun t ht => ?_, fun t h1 h2 => ?_, fun t h1 h2 => ?_⟩
 ·rw [g, if_neg (by omega), if_neg (by omega)]; exact h.out t (by omega)
 ·rw [g, if_neg (by omega)]
  by_cases e : t = k
  ·subst e; rw [if_pos rfl, h.out _ (by omega)]; congr 1; omega
  ·rw [if_neg e]; exact h.lo t h1 (by omega)
 ·obtain rfl : t = k + 1 := by omega
  rw [g, if_pos rfl, h.hi k (by omega) (by omega)]; congr 1; omega
theorem Rot.none (a m : Nat) (d : Array α) (h : a ≤ m) : Rot a m m d d := ⟨rfl, fun _ _ => rfl, fun t h1 h2 => by omega, fun t h1 h2 => by congr 1; omega⟩
theorem Rot.none' (m b : Nat) (d : Array α) (h : m ≤ b) : Rot m m b d d := ⟨rfl, fun _ _ => rfl, fun t h1 h2 => by congr 1; omega, fun t h1 h2 => by omega⟩
theorem Rot.down {k : Nat} (h : Rot (k + 1) m (m + 1) d d') (hk : k + 1 ≤ m) (hs : m < d.size) : Rot k m (m + 1) d (swp d' (k + 1) k) := by
 have g := swp_get d' (i := k + 1) (j := k) (by rw [h.size]; omega) (by rw [h.size]; omega)
 refine ⟨by rw [size_swp]; exact h.size, fun t ht => ?_, fun t h1 h2 => ?_, fun t h1 h2 => ?_⟩
 ·rw [g, if_neg (by omega), if_neg (by omega)]; exact h.out t (by omega)
 ·obtain rfl : t = k := by omega
  rw [g, if_pos rfl, h.lo _ (by omega) (by omega)]; congr 1; omega
 ·rw [g, if_neg (by omega)]
  by_cases e : t = k + 1
  ·subst e; rw [if_pos rfl, h.out _ (by omega)]; congr 1; omega
  ·rw [if_neg e]; exact h.hi t (by omega) (by omega)
theorem sorted_le (hS : SWO lt) (h : SortedIn lt a b d) {i j : Nat} (hi : a ≤ i) (hij : i ≤ j) (hj : j < b) : lt d[j]! d[i]! = false := by
 by_cases e : i = j
 ·subst e; exact hS.irrefl _
 ·exact h i j hi (by omega) hj
theorem sorted_join (hS : SWO lt) (h1 : SortedIn lt a m d) (h2 : SortedIn lt m b d) (h3 : ∀ x y, a ≤ x → x < m → m ≤ y → y < b → lt d[y]! d[x]! = false) : SortedIn lt a b d := by
 intro i j hi hij hj
 by_cases c : j < m
 ·exact h1 i j hi hij c
 ·by_cases c2 : i < m
  ·exact h3 i j hi c2 (by omega) hj
  ·exact h2 i j (by omega) hij hj
theorem ins_left (hS : SWO lt) {i : Nat} (hm : a + 1 ≤ i) (hib : i ≤ b) (h : SortedIn lt (a + 1) b d) (h1 : i = a + 1 ∨ lt d[i - 1]! d[a]! = true) (h2 : i = b ∨ lt d[i]! d[a]! = false) (R : Rot a (a + 1) i d d') : SortedIn lt a b d' := by
 have lo : ∀ t, a + 1 ≤ t → t < i → lt d[a]! d[t]! = false := by
  intro t ht hti
  rcases h1 with h1 | h1
  ·omega
  ·cases hx : lt d[a]! d[t]! with
   | false => rfl
   | true =>
    have := hS.trans _ _ _ h1 hx
    rw [sorted_le hS h (i := t) (j := i - 1) ht (by omega) (by omega)] at this
    cases this
 have hi : ∀ t, i ≤ t → t < b → lt d[t]! d[a]! = false := by
  intro t ht htb
  rcases h2 with h2 | h2
  ·omega
  ·exact hS.ntrans _ _ _ (sorted_le hS h (i := i) (j := t) (by omega) ht htb) h2
 have g1 : ∀ t, a ≤ t → t < i - 1 → d'[t]! = d[t + 1]! := fun t x y => by rw [R.lo t x (by omega)]; congr 1; omega
 have g2 : d'[i - 1]! = d[a]! := by rw [R.hi (i - 1) (by omega) (by omega)]; congr 1; omega
 intro x y hx hxy hy
 by_cases c1 : y < i - 1
 ·rw [g1 x hx (by omega), g1 y (by omega) c1]; exact h _ _ (by omega) (by omega) (by omega)
 ·by_cases c2 : y = i - 1
  ·subst c2; rw [g2, g1 x hx (by omega)]; exact lo _ (by omega) (by omega)
  ·rw [R.out y (by omega)]
   by_cases c3 : x < i - 1
   ·rw [g1 x hx c3]; exact h _ _ (by omega) (by omega) hy
   ·by_cases c4 : x = i - 1
    ·subst c4; rw [g2]; exact hi y (by omega) hy
    ·rw [R.out x (by omega)]; exact h _ _ (by omega) hxy hy
theorem ins_right (hS : SWO lt) {i : Nat} (hai : a ≤ i) (him : i ≤ m) (h : SortedIn lt a m d) (h1 : i = a ∨ lt d[m]! d[i - 1]! = false) (h2 : i = m ∨ lt d[m]! d[i]! = true) (R : Rot i m (m + 1) d d') : SortedIn lt a (m + 1) d' := by
 have lo : ∀ t, a ≤ t → t < i → lt d[m]! d[t]! = false := by
  intro t ht hti
  rcases h1 with h1 | h1
  ·omega
  ·exact hS.ntrans _ _ _ h1 (sorted_le hS h (i := t) (j := i - 1) ht (by omega) (by omega))
 have hi : ∀ t, i ≤ t → t < m → lt d[t]! d[m]! = false := by
  intro t ht htm
  rcases h2 with h2 | h2
  ·omega
  ·cases hx : lt d[t]! d[m]! with
   | false => rfl
   | true =>
    have := hS.trans _ _ _ hx h2
    rw [sorted_le hS h (i := i) (j := t) (by omega) ht htm] at this
    cases this
 have g1 : d'[i]! = d[m]! := by rw [R.lo i (by omega) (by omega)]; congr 1; omega
 have g2 : ∀ t, i + 1 ≤ t → t < m + 1 → d'[t]! = d[t - 1]! := fun t x y => by rw [R.hi t (by omega) y]; congr 1; omega
 intro x y hx hxy hy
 by_cases c1 : y < i
 ·rw [R.out x (by omega), R.out y (by omega)]; exact h _ _ hx hxy (by omega)
 ·by_cases c2 : y = i
  ·subst c2; rw [g1, R.out x (by omega)]; exact lo x hx hxy
  ·rw [g2 y (by omega) hy]
   by_cases c3 : x < i
   ·rw [R.out x (by omega)]; exact h _ _ hx (by omega) (by omega)
   ·by_cases c4 : x = i
    ·subst c4; rw [g1]; exact hi _ (by omega) (by omega)
    ·rw [g2 x (by omega) (by omega)]; exact h _ _ (by omega) (by omega) (by omega)
theorem sym_parts (hS : SWO lt) {s e mid : Nat} (h1 : SortedIn lt a m d) (h2 : SortedIn lt m b d) (has : a ≤ s) (hsm : s ≤ m) (hme : m ≤ e) (heb : e ≤ b) (hn : s + e = mid + m)
  (hA : s = a ∨ e = b ∨ lt d[e]! d[s - 1]! = false) (hB : s = m ∨ e = m ∨ lt d[e - 1]! d[s]! = true) (R : Rot s m e d d') :
  SortedIn lt a s d' ∧ SortedIn lt s mid d' ∧ SortedIn lt mid e d' ∧ SortedIn lt e b d' ∧ ∀ x y, a ≤ x → x < mid → mid ≤ y → y < b → lt d'[y]! d'[x]! = false := by
 have g1 : ∀ t, s ≤ t → t < mid → d'[t]! = d[t + (m - s)]! := fun t x y => R.lo t x (by omega)
 have g2 : ∀ t, mid ≤ t → t < e → d'[t]! = d[t - (e - m)]! := fun t x y => R.hi t (by omega) y
 refine ⟨fun i j hi hij hj => ?_, fun i j hi hij hj => ?_, fun i j hi hij hj => ?_, fun i j hi hij hj => ?_, fun x y hx hxm hy hyb => ?_⟩
 ·rw [R.out i (by omega), R.out j (by omega)]; exact h1 _ _ hi hij (by omega)
 ·rw [g1 i hi (by omega), g1 j (by omega) hj]; exact h2 _ _ (by omega) (by omega) (by omega)
 ·rw [g2 i hi (by omega), g2 j (by omega) hj]; exact h1 _ _ (by omega) (by omega) (by omega)
 ·rw [R.out i (by omega), R.out j (by omega)]; exact h2 _ _ (by omega) hij hj
 ·by_cases c1 : x < s
  ·rw [R.out x (by omega)]
   by_cases c2 : y < e
   ·rw [g2 y hy c2]; exact sorted_le hS h1 hx (by omega) (by omega)
   ·rw [R.out y (by omega)]
    rcases hA with hA | hA | hA
    ·omega
    ·omega
    ·exact hS.ntrans _ _ _ (sorted_le hS h2 (i := e) (j := y) (by omega) (by omega) hyb) (hS.ntrans _ _ _ hA (sorted_le hS h1 (i := x) (j := s - 1) hx (by omega) (by omega)))
  ·rw [g1 x (by omega) hxm]
   by_cases c2 : y < e
   ·rw [g2 y hy c2]
    rcases hB with hB | hB | hB
    ·omega
    ·omega
    ·refine hS.asymmA ?_
     cases hz : lt d[x + (m - s)]! d[y - (e - m)]! with
     | true => rfl
     | false =>
      have k1 : lt d[e - 1]! d[x + (m - s)]! = false := sorted_le hS h2 (by omega) (by omega) (by omega)
      have k2 : lt d[y - (e - m)]! d[s]! = false := sorted_le hS h1 has (by omega) (by omega)
      rw [hS.ntrans _ _ _ (hS.ntrans _ _ _ k1 hz) k2] at hB
      cases hB
   ·rw [R.out y (by omega)]; exact sorted_le hS h2 (by omega) (by omega) hyb
theorem sym_whole (hS : SWO lt) {mid : Nat} (ham : a ≤ mid) (hmb : mid ≤ b) (hb : b ≤ d.size) (hc : ∀ x y, a ≤ x → x < mid → mid ≤ y → y < b → lt d[y]! d[x]! = false)
  (p1 : PermIn a mid d d') (s1 : SortedIn lt a mid d') (p2 : PermIn mid b d' d'') (s2 : SortedIn lt mid b d'') : SortedIn lt a b d'' ∧ PermIn a b d d'' := by
 have hs1 : d'.size = d.size := p1.1
 refine ⟨sorted_join hS ((fun i j hi hij hj => by rw [p2.2.1 i (by omega), p2.2.1 j (by omega)]; exact s1 i j hi hij hj)) s2 ?_, permIn_trans _ _ _ _ _ (permIn_mono _ _ _ _ _ _ (Nat.le_refl _) hmb hb p1) (permIn_mono _ _ _ _ _ _ ham (Nat.le_refl _) (by omega) p2)⟩
 intro x y hx hxm hy hyb
 rw [p2.2.1 x (by omega)]
 have k1 : ∀ i, a ≤ i → i < mid → (fun v => ∀ y, mid ≤ y → y < b → lt d'[y]! v = false) d'[i]! := by
  refine permIn_all d d' a mid (fun v => ∀ y, mid ≤ y → y < b → lt d'[y]! v = false) (by omega) p1 ?_
  intro i hi hi2 y hy hyb
  rw [p1.2.1 y (by omega)]
  exact hc i y hi hi2 hy hyb
 exact permIn_all d' d'' mid b (fun v => lt v d'[x]! = false) (by omega) p2 (fun y hy hyb => k1 x hx hxm y hy hyb) y hy hyb
end
end Go.Proofs.YtbfepgjeecndiaaGreat

namespace Go.Proofs.YtbfepgjeecndiaaGreat
set_option maxRecDepth 100000
set_option maxHeartbeats 1000000
open Go.RowKit
set_option linter.unusedVariables false
set_option linter.unusedSimpArgs false
attribute [local go_sem ↓] Go.wp_at_zero Go.wp_at_succ
def tagU (t : UInt8) (l : List UInt8) : UInt64 := sumU (t :: l)
theorem hmk160 (w : World) : (Instr.makeSlice 28 (.int .i64 0) (.int .i64 160)).run Tryz.prog w = .ok (.slice (some ⟨w.heap.size, 0, none⟩) 0 160) (w.alloc (.cells (madeCells (Value.int .u8 0).cells 160) 5)) := by
 obtain ⟨i, hi, hz, hs, hby⟩ := bytesE.get
 have h := run_make (P := Tryz.prog) w 28 5 i (.int .u8 0) bytesE.ut hi hz .i64 .i64 0 160 (by omega) (by omega) (by rw [hby]; omega) (by omega)
 simpa [hs] using h
theorem tagged_any (t : UInt8) (A : Option Addr) (n c : Nat) (l : List UInt8) (w : World) (h : SlB w A n c l) (hm : n < 140737488355328) :
  Calls Tryz.prog 22 #[.int .u8 (t.toNat : Int), .slice A n c] w fun e w' => e = .returned (.agg (nmc (tagU t l))) ∧ Ext w w' := by
 have hmk := hmk160
 go_enter Tryz.func22, Tryz.ntmps22
 go_wp2_with (at_builtin; go_must (refine wpList_appB bytesE rfl (.tmp 7) (.tmp 9) rfl (w.heap.size + 1) _ _ _ [] rfl ((OwnB.made (w.alloc _) (w.heap.size + 1) _ 160 (w.heap.size + 1) (by simp) (Nat.le_refl _) (by omega) (size_madeCells _ _)).alloc _) _ _ _ [t] rfl ?r1 (by omega) ?b1 (w.alloc (.cells zcs.toArray 44)) ?w1 ?_))
 case r1 => exact SlB.new1 _ _ _ t _ (by simp) rfl
 case b1 => simp
 case w1 => exact Below.alloc (Below.alloc (Below.refl _ _) (by simp) _) (by simp) _
 intro A1 c1 w1 ho1 hw1 hs1
 have hsl := h.ext (((Ext.refl w).alloc' _).trans (hw1.mono (by simp)))
 have hsz : w.heap.size + 1 ≤ w1.heap.size := by omega
 go_wp2_with (at_builtin; refine wpList_appB bytesE rfl (.tmp 10) (.tmp 11) rfl (w.heap.size + 1) _ _ _ [t] rfl ho1 _ _ _ l rfl hsl (by omega) hsz (w.alloc (.cells zcs.toArray 44)) hw1 ?_)
 intro A2 c2 w2 ho2 hw2 hs2
 go_wp2_with fail
 refine (sum_any _ _ _ _ _ ho2.sl (by omega)).mono ?_
 rintro e w3 ⟨rfl, he3⟩
 have hE3 : Ext (w.alloc (.cells zcs.toArray 44)) w3 := by have := Below.trans hw2 (he3.mono (B' := w.heap.size + 1) (by omega)); simpa [Ext] using this
 have hb0 : Blk w3 w.heap.size 44 zcs.toArray := (Blk.new w _ _).ext hE3
 go_wp2_with (refine wpList_store_mid rfl 44 _ _ rfl w.heap.size 0 (nmc (sumU ([t] ++ l))) rfl rfl (thereN hb0 _) (size61 _) (nmc_one _) ?_)
 refine bodyPost_ret (v := .agg (nmc (sumU ([t] ++ l)))) (retN rfl _ _ w.heap.size _ rfl (blkN hb0 _)) rfl ⟨rfl, Below.setCells' (((Ext.refl w).alloc' _).trans hE3) (Nat.le_refl _) _ _⟩
end Go.Proofs.YtbfepgjeecndiaaGreat
namespace Go.Proofs.YtbfepgjeecndiaaGreat
open Go.RowKit
set_option linter.unusedVariables false
set_option linter.unusedSimpArgs false
attribute [local go_sem ↓] Go.wp_at_zero Go.wp_at_succ
theorem refTagged_any (t : UInt8) (A : Option Addr) (n c : Nat) (l : List UInt8) (w : World) (h : SlB w A n c l) (hm : n < 140737488355328) :
  Calls Tryz.prog 24 #[.int .u8 (t.toNat : Int), .slice A n c] w fun e w' => e = .returned (.agg (nmc (tagU t l))) ∧ Ext w w' := by
 have hmk := hmk160
 go_enter Tryz.func24, Tryz.ntmps24
 go_wp2_with (at_builtin; go_must (refine wpList_appB bytesE rfl (.tmp 5) (.tmp 7) rfl (w.heap.size + 1) _ _ _ [] rfl ((OwnB.made (w.alloc _) (w.heap.size + 1) _ 160 (w.heap.size + 1) (by simp) (Nat.le_refl _) (by omega) (size_madeCells _ _)).alloc _) _ _ _ [t] rfl ?r1 (by omega) ?b1 (w.alloc (.cells zcs.toArray 44)) ?w1 ?_))
 case r1 => exact SlB.new1 _ _ _ t _ (by simp) rfl
 case b1 => simp
 case w1 => exact Below.alloc (Below.alloc (Below.refl _ _) (by simp) _) (by simp) _
 intro A1 c1 w1 ho1 hw1 hs1
 have hsl := h.ext (((Ext.refl w).alloc' _).trans (hw1.mono (by simp)))
 have hsz : w.heap.size + 1 ≤ w1.heap.size := by omega
 go_wp2_with (at_builtin; refine wpList_appB bytesE rfl (.tmp 8) (.tmp 9) rfl (w.heap.size + 1) _ _ _ [t] rfl ho1 _ _ _ l rfl hsl (by omega) hsz (w.alloc (.cells zcs.toArray 44)) hw1 ?_)
 intro A2 c2 w2 ho2 hw2 hs2
 go_wp2_with fail
 refine (refSum_any _ _ _ _ _ ho2.sl (by omega)).mono ?_
 rintro e w3 ⟨rfl, he3⟩
 have hE3 : Ext (w.alloc (.cells zcs.toArray 44)) w3 := by have := Below.trans hw2 (he3.mono (B' := w.heap.size + 1) (by omega)); simpa [Ext] using this
 have hb0 : Blk w3 w.heap.size 44 zcs.toArray := (Blk.new w _ _).ext hE3
 go_wp2_with (refine wpList_store_mid rfl 44 _ _ rfl w.heap.size 0 (nmc (sumU ([t] ++ l))) rfl rfl (thereN hb0 _) (size61 _) (nmc_one _) ?_)
 refine bodyPost_ret (v := .agg (nmc (sumU ([t] ++ l)))) (retN rfl _ _ w.heap.size _ rfl (blkN hb0 _)) rfl ⟨rfl, Below.setCells' (((Ext.refl w).alloc' _).trans hE3) (Nat.le_refl _) _ _⟩
end Go.Proofs.YtbfepgjeecndiaaGreat
namespace Go.Proofs.YtbfepgjeecndiaaGreat
open Go.RowKit
set_option linter.unusedVariables false
set_option linter.unusedSimpArgs false
attribute [local go_sem ↓] Go.wp_at_zero Go.wp_at_succ
end Go.Proofs.YtbfepgjeecndiaaGreat
namespace Go.Proofs.YtbfepgjeecndiaaGreat
open Go.RowKit
set_option linter.unusedVariables false
set_option linter.unusedSimpArgs false
attribute [local go_sem ↓] Go.wp_at_zero Go.wp_at_succ
theorem Blk.setCells_far {w : World} {g g' : Nat} {t : TypeId} {cs : Array Value} (h : Blk w g t cs) (hne : g ≠ g') (vs : List Value) : ∀ o, Blk (w.setCells g' o vs) g t cs := by
 induction vs generalizing w with
 | nil => intro o; exact h
 | cons v r ih => intro o; exact ih (h.far (p := ⟨g', o, none⟩) hne v) (o + 1)
theorem nmc_get (n : UInt64) (k : Nat) (hk : k < 8) : (nmc n)[k]? = some (.int .u8 (((nmb n).getD k 0).toNat : Int)) := by
 have hl := nmb_length n
 simp [nmc, bcs, bv, hl, hk]
theorem nmb_list (n : UInt64) : nmb n = [(nmb n).getD 0 0, (nmb n).getD 1 0, (nmb n).getD 2 0, (nmb n).getD 3 0, (nmb n).getD 4 0, (nmb n).getD 5 0, (nmb n).getD 6 0, (nmb n).getD 7 0] := by
 have hl := nmb_length n
 match h : nmb n, hl with
 | [a, b, c, d, e, f, g, i], _ => rfl
end Go.Proofs.YtbfepgjeecndiaaGreat

/- codec.Uint and its reference, over every offset and width. -/
namespace Go.Proofs.YtbfepgjeecndiaaGreat
set_option maxRecDepth 100000
set_option maxHeartbeats 1000000
open Go.RowKit
set_option linter.unusedVariables false
set_option linter.unusedSimpArgs false
attribute [local go_sem ↓] Go.wp_at_zero Go.wp_at_succ
def flw (len at_ n : Int) : Bool := decide (0 ≤ at_ ∧ at_ ≤ len ∧ n ≤ len - at_)
theorem codFollow_any (A : Option Addr) (len c : Nat) (at_ n : Int) (w : World) (hl : len ≤ 9223372036854775807) :
  Calls Tryz.prog 101 #[.slice A len c, .int .i64 at_, .int .i64 n] w fun e w' => e = .returned (.bool (flw len at_ n)) ∧ w = w' := by
 by_cases h1 : 0 ≤ at_
 ·by_cases h2 : at_ ≤ (len : Int)
  ·by_cases h3 : n ≤ (len : Int) - at_
   ·have hf : flw len at_ n = true := by unfold flw; simp only [decide_eq_true_eq]; exact ⟨h1, h2, h3⟩
    rw [hf]; clear hf
    go_enter Tryz.func101, Tryz.ntmps101
    go_wp2_with fail
    go_ret
    exact ⟨rfl, rfl⟩
   ·have hf : flw len at_ n = false := by unfold flw; simp only [decide_eq_false_iff_not]; omega
    have h3' : decide (n ≤ (len : Int) - at_) = false := decide_eq_false h3
    rw [hf]; clear hf
    go_enter Tryz.func101, Tryz.ntmps101
    go_wp2_with fail
    go_ret
    exact ⟨rfl, rfl⟩
  ·have hf : flw len at_ n = false := by unfold flw; simp only [decide_eq_false_iff_not]; omega
   have h2' : decide (at_ ≤ (len : Int)) = false := decide_eq_false h2
   rw [hf]; clear hf
   go_enter Tryz.func101, Tryz.ntmps101
   go_wp2_with fail
   go_ret
   exact ⟨rfl, rfl⟩
 ·have hf : flw len at_ n = false := by unfold flw; simp only [decide_eq_false_iff_not]; omega
  have h1' : decide (0 ≤ at_) = false := decide_eq_false h1
  rw [hf]; clear hf
  go_enter Tryz.func101, Tryz.ntmps101
  go_wp2_with fail
  go_ret
  exact ⟨rfl, rfl⟩
theorem or_byte' (a : Nat) (c : UInt8) (ha : a < 72057594037927936) : bits .or .u64 (IntKind.u64.wrap ((a : Int) * 256)) (c.toNat : Int) = ((a * 256 + c.toNat : Nat) : Int) := or_byte a c ha
theorem pow_le7 (a k : Nat) (h : a < 256 ^ k) (hk : k < 8) : a < 72057594037927936 := Nat.lt_of_lt_of_le h (Nat.pow_le_pow_right (n := 256) (j := 7) (by omega) (by omega))
def numAt (l : List UInt8) (at_ width : Nat) : Nat := beNat ((l.drop at_).take width)
theorem uint_yes (A : Option Addr) (n c : Nat) (l : List UInt8) (at_ width : Nat) (w : World) (h : SlB w A n c l) (h1 : 1 ≤ width) (h8 : width ≤ 8) (hf : at_ + width ≤ n) :
  Calls Tryz.prog 82 #[.slice A n c, .int .i64 (at_ : Int), .int .i64 (width : Int)] w fun e w' => e = .returned (.tuple #[.int .u64 (numAt l at_ width : Int), .bool true]) ∧ w = w' := by
 have hle := h.le
 have hcap := h.cap
 have hlen := h.len
 have e1 : decide ((width : Int) < 1) = false := decide_eq_false (by omega)
 have e2 : decide ((8 : Int) < (width : Int)) = false := decide_eq_false (by omega)
 have hfl : flw n at_ width = true := by unfold flw; simp only [decide_eq_true_eq]; omega
 have b1 : ¬ c = at_ := by omega
 obtain ⟨b, o, rfl, hra, hbl⟩ := h.at (by omega)
 go_enter Tryz.func82, Tryz.ntmps82
 go_wp2_with (go_at_call 101; refine (codFollow_any _ _ _ _ _ _ (by omega)).mono ?_; rintro e w1 ⟨rfl, rfl⟩; rw [hfl])
 go_loop [8, 31] (fun v i => ∃ k : Nat, k ≤ width ∧ i = .int .i64 (k : Int) ∧ v = .int .u64 ((numAt l at_ k : Nat) : Int)) (fun _ i => width - (intOf i).toNat)
 case atStart => exact ⟨0, by omega, rfl, by simp [numAt, beNat]⟩
 case round =>
  obtain ⟨k, hk, rfl, rfl⟩ := hrel
  by_cases hlt : k < width
  ·have hcell := byte_at hra (at_ + k) (by omega)
   rw [← Nat.add_assoc] at hcell
   have hd : (l.drop at_)[k]'(by simp; omega) = l[at_ + k]'(by omega) := by simp
   have HS := Lib.hid (show numAt l at_ (k + 1) = numAt l at_ k * 256 + (l[at_ + k]'(by omega)).toNat by unfold numAt; rw [take_at _ _ (by simp; omega), beNat_snoc, hd])
   have hor := or_byte' (numAt l at_ k) (l[at_ + k]'(by omega)) (pow_le7 _ k (beNat_take_lt _ _ (by simp; omega)) (by omega))
   clear hd
   generalize numAt l at_ k = a at *
   generalize (l[at_ + k]'(by omega)) = x at *
   go_wp2_with fail
   go_round
   case rel => exact ⟨k + 1, by omega, by go_num, by rw [HS.out]; go_num⟩
   case measure => simp [intOf]; omega
  ·obtain rfl : k = width := by omega
   go_wp2_with fail
   go_ret2
   exact ⟨rfl, rfl⟩
theorem uint_no (A : Option Addr) (n c : Nat) (at_ width : Int) (w : World) (hn : n ≤ 9223372036854775807) (h1 : 1 ≤ width) (h8 : width ≤ 8) (hf : flw n at_ width = false) :
  Calls Tryz.prog 82 #[.slice A n c, .int .i64 at_, .int .i64 width] w fun e w' => e = .returned (.tuple #[.int .u64 0, .bool false]) ∧ w = w' := by
 have e1 : decide (width < 1) = false := decide_eq_false (by omega)
 have e2 : decide (8 < width) = false := decide_eq_false (by omega)
 go_enter Tryz.func82, Tryz.ntmps82
 go_wp2_with (go_at_call 101; refine (codFollow_any _ _ _ _ _ _ (by omega)).mono ?_; rintro e w1 ⟨rfl, rfl⟩; rw [hf])
 go_ret2
 exact ⟨rfl, rfl⟩
end Go.Proofs.YtbfepgjeecndiaaGreat
