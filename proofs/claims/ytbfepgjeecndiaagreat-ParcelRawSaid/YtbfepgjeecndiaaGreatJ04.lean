/- Stable sorting, plain: blocks put in order, then merged two by two. -/
import Derived.Shelf.SlLaysF
import Derived.Test.YtbfepgjeecndiaaGreatProg
import Derived.Test.YtbfepgjeecndiaaGreatJ03
namespace Go.Proofs.YtbfepgjeecndiaaGreat
open Go.Sort
set_option linter.unusedVariables false
section
variable {α : Type} [Inhabited α] {lt : α → α → Bool} {a m b s n : Nat} {d0 d d' d'' : Array α}
theorem Rot.perm (h : Rot a m b d d') (ham : a ≤ m) (hmb : m ≤ b) (hb : b ≤ d.size) : PermIn a b d d' := by
 refine ⟨h.size, fun i hi => h.out i hi, ?_⟩
 rw [extract_toList d' a b (by rw [h.size]; exact hb), extract_toList d a b hb]
 have e1 : List.range' a (b - a) = List.range' a (b - m) ++ List.range' (a + (b - m)) (m - a) := by
  rw [List.range'_append_1]; congr 1; omega
 have e2 : List.range' a (b - a) = List.range' a (m - a) ++ List.range' m (b - m) := by
  have := List.range'_append_1 (s := a) (m := m - a) (n := b - m)
  rw [show a + (m - a) = m from by omega, show m - a + (b - m) = b - a from by omega] at this
  exact this.symm
 have g1 : (List.range' a (b - m)).map (fun i => d'[i]!) = (List.range' m (b - m)).map (fun i => d[i]!) := by
  refine List.ext_getElem (by simp) fun i h1 h2 => ?_
  simp only [List.length_map, List.length_range'] at h1
  simp only [List.getElem_map, List.getElem_range', Nat.one_mul]
  rw [h.lo (a + i) (by omega) (by omega)]; congr 1; omega
 have g2 : (List.range' (a + (b - m)) (m - a)).map (fun i => d'[i]!) = (List.range' a (m - a)).map (fun i => d[i]!) := by
  refine List.ext_getElem (by simp) fun i h1 h2 => ?_
  simp only [List.length_map, List.length_range'] at h1
  simp only [List.getElem_map, List.getElem_range', Nat.one_mul]
  rw [h.hi (a + (b - m) + i) (by omega) (by omega)]; congr 1; omega
 have k1 : (List.range' a (b - a)).map (fun i => d'[i]!) = (List.range' m (b - m)).map (fun i => d[i]!) ++ (List.range' a (m - a)).map (fun i => d[i]!) := by
  rw [e1, List.map_append, g1, g2]
 have k2 : (List.range' a (b - a)).map (fun i => d[i]!) = (List.range' a (m - a)).map (fun i => d[i]!) ++ (List.range' m (b - m)).map (fun i => d[i]!) := by
  rw [e2, List.map_append]
 have k1' := k1
 have k2' := k2
 exact (List.Perm.of_eq k1).trans (List.perm_append_comm.trans (List.Perm.of_eq k2.symm))
theorem sorted_far {x y : Nat} (p : PermIn a b d d') (h : SortedIn lt x y d) (hd : y ≤ a ∨ b ≤ x) : SortedIn lt x y d' := fun i j hi hij hj => by
 rw [p.2.1 i (by omega), p.2.1 j (by omega)]; exact h i j hi hij hj
structure InsA (lt : α → α → Bool) (a n : Nat) (d0 d : Array α) : Prop where
 perm : PermIn 0 n d0 d
 low : ∃ j, a = j * 20 ∧ ∀ k, k < j → SortedIn lt (k * 20) ((k + 1) * 20) d
structure Runs (lt : α → α → Bool) (s n : Nat) (d0 d : Array α) : Prop where
 perm : PermIn 0 n d0 d
 all : ∀ k, SortedIn lt (k * s) (min ((k + 1) * s) n) d
theorem InsA.start (n : Nat) (d : Array α) : InsA lt 0 n d d := ⟨permIn_refl _ _ _, 0, rfl, fun k hk => absurd hk (Nat.not_lt_zero _)⟩
theorem InsA.step (h : InsA lt a n d0 d) (hb : a + 20 ≤ n) (hn : n ≤ d0.size) (p : PermIn a (a + 20) d d') (q : SortedIn lt a (a + 20) d') : InsA lt (a + 20) n d0 d' := by
 obtain ⟨hp, j, rfl, hl⟩ := h
 have hs := hp.1
 refine ⟨permIn_trans _ _ _ _ _ hp (permIn_mono _ _ _ _ _ _ (by omega) hb (by omega) p), j + 1, by omega, fun k hk => ?_⟩
 by_cases e : k = j
 ·subst e; rw [show (k + 1) * 20 = k * 20 + 20 from by omega]; exact q
 ·exact sorted_far p (hl k (by omega)) (.inl (by omega))
theorem InsA.last (h : InsA lt a n d0 d) (ha : a ≤ n) (hb : n < a + 20) (hn : n ≤ d0.size) (p : PermIn a n d d') (q : SortedIn lt a n d') : Runs lt 20 n d0 d' := by
 obtain ⟨hp, j, rfl, hl⟩ := h
 have hs := hp.1
 refine ⟨permIn_trans _ _ _ _ _ hp (permIn_mono _ _ _ _ _ _ (by omega) (Nat.le_refl _) (by omega) p), fun k => ?_⟩
 by_cases e : k = j
 ·subst e; rw [show min ((k + 1) * 20) n = n from by omega]; exact q
 ·by_cases e2 : k < j
  ·rw [show min ((k + 1) * 20) n = (k + 1) * 20 from by omega]; exact sorted_far p (hl k e2) (.inl (by omega))
  ·intro x y h1 h2 h3; omega
theorem Runs.whole (h : Runs lt s n d0 d) (hs : n ≤ s) : SortedIn lt 0 n d := by
 have := h.all 0
 rw [Nat.zero_mul, Nat.zero_add, Nat.one_mul, Nat.min_eq_right hs] at this
 exact this
structure MerA (lt : α → α → Bool) (s a n : Nat) (d0 d : Array α) : Prop where
 perm : PermIn 0 n d0 d
 run : ∃ j, a = j * (2 * s) ∧ (∀ k, k < j → SortedIn lt (k * (2 * s)) ((k + 1) * (2 * s)) d) ∧ ∀ k, 2 * j ≤ k → SortedIn lt (k * s) (min ((k + 1) * s) n) d
theorem MerA.start (h : Runs lt s n d0 d) : MerA lt s 0 n d0 d := ⟨h.perm, 0, by simp, fun k hk => absurd hk (Nat.not_lt_zero _), fun k _ => h.all k⟩
theorem two_mul_s (j s : Nat) : 2 * j * s = j * (2 * s) := by rw [Nat.mul_comm 2 j, Nat.mul_assoc]
theorem succ_mul_s (j s : Nat) : (j + 1) * (2 * s) = j * (2 * s) + 2 * s := by rw [Nat.add_mul, Nat.one_mul]
theorem MerA.left (h : MerA lt s a n d0 d) (hb : a + s ≤ n) : SortedIn lt a (a + s) d := by
 obtain ⟨hp, j, rfl, hl, hh⟩ := h
 have := hh (2 * j) (Nat.le_refl _)
 rw [Nat.add_mul, Nat.one_mul, two_mul_s, Nat.min_eq_left hb] at this
 exact this
theorem MerA.right (h : MerA lt s a n d0 d) : SortedIn lt (a + s) (min (a + 2 * s) n) d := by
 obtain ⟨hp, j, rfl, hl, hh⟩ := h
 have := hh (2 * j + 1) (by omega)
 rw [Nat.add_mul (2 * j + 1) 1, Nat.one_mul, Nat.add_mul, Nat.one_mul, two_mul_s, show j * (2 * s) + s + s = j * (2 * s) + 2 * s from by omega] at this
 exact this
theorem MerA.step (h : MerA lt s a n d0 d) (hb : a + 2 * s ≤ n) (hn : n ≤ d0.size) (p : PermIn a (a + 2 * s) d d') (q : SortedIn lt a (a + 2 * s) d') : MerA lt s (a + 2 * s) n d0 d' := by
 obtain ⟨hp, j, rfl, hl, hh⟩ := h
 have hs := hp.1
 refine ⟨permIn_trans _ _ _ _ _ hp (permIn_mono _ _ _ _ _ _ (by omega) hb (by omega) p), j + 1, (succ_mul_s j s).symm, fun k hk => ?_, fun k hk => ?_⟩
 ·by_cases e : k = j
  ·subst e; rw [succ_mul_s]; exact q
  ·exact sorted_far p (hl k (by omega)) (.inl (Nat.mul_le_mul_right _ (by omega)))
 ·refine sorted_far p (hh k (by omega)) (.inr ?_)
  have := Nat.mul_le_mul_right s hk
  rw [two_mul_s, succ_mul_s] at this
  exact this
theorem MerA.last (h : MerA lt s a n d0 d) (ha : a ≤ n) (hb : n < a + 2 * s) (hn : n ≤ d0.size) (p : PermIn a n d d') (q : SortedIn lt a n d') : Runs lt (2 * s) n d0 d' := by
 obtain ⟨hp, j, rfl, hl, hh⟩ := h
 have hs := hp.1
 refine ⟨permIn_trans _ _ _ _ _ hp (permIn_mono _ _ _ _ _ _ (by omega) (Nat.le_refl _) (by omega) p), fun k => ?_⟩
 by_cases e : k = j
 ·subst e; rw [succ_mul_s, Nat.min_eq_right (by omega)]; exact q
 ·by_cases e2 : k < j
  ·have h1 : (k + 1) * (2 * s) ≤ j * (2 * s) := Nat.mul_le_mul_right _ (by omega)
   rw [Nat.min_eq_left (by omega)]; exact sorted_far p (hl k e2) (.inl h1)
  ·intro x y h1 h2 h3
   have h4 : (j + 1) * (2 * s) ≤ k * (2 * s) := Nat.mul_le_mul_right _ (by omega)
   rw [succ_mul_s] at h4
   omega
theorem MerA.rest (h : MerA lt s a n d0 d) (hb : n ≤ a + s) (ha : a ≤ n) (hn : n ≤ d0.size) : Runs lt (2 * s) n d0 d := by
 have hs := h.perm.1
 rcases Nat.eq_zero_or_pos s with e | e
 ·subst e
  have ha : a = n := by omega
  obtain ⟨hp, j, rfl, hl, hh⟩ := h
  refine ⟨hp, fun k => ?_⟩
  intro x y h1 h2 h3; omega
 ·have hl := h.right
  have h0 : SortedIn lt a n d := by
   obtain ⟨hp, j, rfl, hl, hh⟩ := h
   have := hh (2 * j) (Nat.le_refl _)
   rw [Nat.add_mul, Nat.one_mul, two_mul_s, Nat.min_eq_right hb] at this
   exact this
  exact h.last ha (by omega) hn (permIn_refl _ _ _) h0
end
end Go.Proofs.YtbfepgjeecndiaaGreat

/- The sort of the library at texts, by name and number (the kit's proved sort is laid here). -/
namespace Go.Proofs.YtbfepgjeecndiaaGreat
open Go.Shelf
def sortTe_ren : Go.Shelf.Ren := ⟨fun | 6 => 62 | 15 => 92 | 14 => 91 | 28 => 112 | 29 => 113 | 20 => 104 | 21 => 105 | 22 => 106 | 23 => 107 | 24 => 108 | 25 => 109 | 26 => 110 | 27 => 111 | 46 => 119 | 47 => 120 | 48 => 121 | 49 => 122 | 50 => 123 | 57 => 125 | n => n, fun | 22 => 23 | 24 => 28 | 25 => 83 | 3 => 3 | 39 => 96 | 0 => 0 | 53 => 130 | 55 => 61 | 4 => 4 | 46 => 123 | 45 => 122 | 50 => 127 | 5 => 5 | 9 => 9 | 66 => 134 | 70 => 138 | 76 => 140 | 77 => 141 | n => n, fun | n => n⟩
theorem sortTe : Go.Proofs.SlLaysF.n6 Tryz.prog sortTe_ren := {
 mixed := by kernel_rfl
 f6 := ⟨Tryz.f62.name, by decide, Tryz.func62.trans (congrArg some (by kernel_rfl))⟩
 f14 := ⟨Tryz.f91.name, by decide, Tryz.func91.trans (congrArg some (by kernel_rfl))⟩
 f15 := Tryz.func92.trans (congrArg some (by kernel_rfl))
 f20 := ⟨Tryz.f104.name, by decide, Tryz.func104.trans (congrArg some (by kernel_rfl))⟩
 f21 := ⟨Tryz.f105.name, by decide, Tryz.func105.trans (congrArg some (by kernel_rfl))⟩
 f22 := ⟨Tryz.f106.name, by decide, Tryz.func106.trans (congrArg some (by kernel_rfl))⟩
 f23 := ⟨Tryz.f107.name, by decide, Tryz.func107.trans (congrArg some (by kernel_rfl))⟩
 f24 := ⟨Tryz.f108.name, by decide, Tryz.func108.trans (congrArg some (by kernel_rfl))⟩
 f25 := ⟨Tryz.f109.name, by decide, Tryz.func109.trans (congrArg some (by kernel_rfl))⟩
 f26 := ⟨Tryz.f110.name, by decide, Tryz.func110.trans (congrArg some (by kernel_rfl))⟩
 f27 := ⟨Tryz.f111.name, by decide, Tryz.func111.trans (congrArg some (by kernel_rfl))⟩
 f28 := Tryz.func112.trans (congrArg some (by kernel_rfl))
 f29 := Tryz.func113.trans (congrArg some (by kernel_rfl))
 f46 := ⟨Tryz.f119.name, by decide, Tryz.func119.trans (congrArg some (by kernel_rfl))⟩
 f47 := Tryz.func120.trans (congrArg some (by kernel_rfl))
 f48 := Tryz.func121.trans (congrArg some (by kernel_rfl))
 f49 := ⟨Tryz.f122.name, by decide, Tryz.func122.trans (congrArg some (by kernel_rfl))⟩
 f50 := ⟨Tryz.f123.name, by decide, Tryz.func123.trans (congrArg some (by kernel_rfl))⟩
 f57 := ⟨Tryz.f125.name, by decide, Tryz.func125.trans (congrArg some (by kernel_rfl))⟩
 t0 := Tryz.underlying0
 a0 := Tryz.isAgg0
 z0 := Tryz.sizeOf0
 v0 := Tryz.zeroValue0
 t3 := Tryz.underlying3
 a3 := Tryz.isAgg3
 z3 := Tryz.sizeOf3
 v3 := Tryz.zeroValue3
 t4 := Tryz.underlying4
 a4 := Tryz.isAgg4
 z4 := Tryz.sizeOf4
 v4 := Tryz.zeroValue4
 t5 := Tryz.underlying5
 a5 := Tryz.isAgg5
 z5 := Tryz.sizeOf5
 v5 := Tryz.zeroValue5
 t9 := Tryz.underlying9
 a9 := Tryz.isAgg9
 z9 := Tryz.sizeOf9
 v9 := Tryz.zeroValue9
 t22 := Tryz.underlying23
 a22 := Tryz.isAgg23
 z22 := Tryz.sizeOf23
 v22 := Tryz.zeroValue23
 a24 := Tryz.isAgg28
 z24 := Tryz.sizeOf28
 t25 := Tryz.underlying83
 a25 := Tryz.isAgg83
 z25 := Tryz.sizeOf83
 v25 := Tryz.zeroValue83
 t39 := Tryz.underlying96
 a39 := Tryz.isAgg96
 z39 := Tryz.sizeOf96
 v39 := Tryz.zeroValue96
 t45 := Tryz.underlying122
 a45 := Tryz.isAgg122
 z45 := Tryz.sizeOf122
 v45 := Tryz.zeroValue122
 t46 := Tryz.underlying123
 a46 := Tryz.isAgg123
 z46 := Tryz.sizeOf123
 v46 := Tryz.zeroValue123
 t50 := Tryz.underlying127
 a50 := Tryz.isAgg127
 z50 := Tryz.sizeOf127
 v50 := Tryz.zeroValue127
 t53 := Tryz.underlying130
 a53 := Tryz.isAgg130
 z53 := Tryz.sizeOf130
 v53 := Tryz.zeroValue130
 t55 := Tryz.underlying61
 a55 := Tryz.isAgg61
 z55 := Tryz.sizeOf61
 v55 := Tryz.zeroValue61
 t66 := Tryz.underlying134
 a66 := Tryz.isAgg134
 z66 := Tryz.sizeOf134
 v66 := Tryz.zeroValue134
 t70 := Tryz.underlying138
 a70 := Tryz.isAgg138
 z70 := Tryz.sizeOf138
 v70 := Tryz.zeroValue138
 t76 := Tryz.underlying140
 a76 := Tryz.isAgg140
 z76 := Tryz.sizeOf140
 v76 := Tryz.zeroValue140
 t77 := Tryz.underlying141
 a77 := Tryz.isAgg141
 z77 := Tryz.sizeOf141
 v77 := Tryz.zeroValue141 }
end Go.Proofs.YtbfepgjeecndiaaGreat

namespace Go.Proofs.YtbfepgjeecndiaaGreat
open Go.RowKit
set_option linter.unusedVariables false
set_option linter.unusedSimpArgs false
attribute [local go_sem ↓] Go.wp_at_zero Go.wp_at_succ
/-! slices of names -/
theorem nmb_zero : nmb 0 = List.replicate 8 0 := by decide
end Go.Proofs.YtbfepgjeecndiaaGreat
/- A slice literal of one name; a struct or array built of parts. -/
namespace Go.Proofs.YtbfepgjeecndiaaGreat
open Go.RowKit
set_option linter.unusedVariables false
set_option linter.unusedSimpArgs false
theorem fold_arr (ds cs : Array Value) (o : Nat) : ds.zipIdx.foldl (fun cs (x : Value × Nat) => cs.setIfInBounds (o + x.2) x.1) cs = (ds.toList.zipIdx 0).foldl (fun a p => a.setIfInBounds (o + p.2) p.1) cs := by
 rw [← Array.foldl_toList, Array.toList_zipIdx]
theorem fold_whole (ds cs : Array Value) (h : ds.size = cs.size) : (ds.toList.zipIdx 0).foldl (fun a p => a.setIfInBounds (0 + p.2) p.1) cs = ds := by
 apply Array.ext_getElem?
 intro j
 rw [foldl_set_get]
 by_cases hj : j < ds.size
 ·rw [if_pos (by simp; omega)]; simp
 ·rw [if_neg (by simp; omega), Array.getElem?_eq_none (by omega), Array.getElem?_eq_none (by omega)]
@[go_sem] theorem fold_nmc (n : UInt64) (Z : Array Value) (hZ : Z.size = 8) : Array.foldl (fun cs x => cs.setIfInBounds x.snd x.fst) Z (nmc n).zipIdx 0 (nmc n).size = nmc n := by
 have h := fold_arr (nmc n) Z 0
 rw [fold_whole _ _ (by rw [nmc_size, hZ])] at h
 simpa using h
@[go_sem] theorem fold_nmc8 (n : UInt64) (Z : Array Value) (hZ : Z.size = 8) : Array.foldl (fun cs x => cs.setIfInBounds x.snd x.fst) Z (nmc n).zipIdx 0 8 = nmc n := by
 have h := fold_nmc n Z hZ
 rwa [nmc_size] at h
attribute [go_sem] nmc_size
def nb8 (n : UInt64) (i : Nat) : Int := (((nmb n).getD i 0).toNat : Int)
theorem nmc_nb8 (n : UInt64) : #[.int .u8 (nb8 n 0), .int .u8 (nb8 n 1), .int .u8 (nb8 n 2), .int .u8 (nb8 n 3), .int .u8 (nb8 n 4), .int .u8 (nb8 n 5), .int .u8 (nb8 n 6), .int .u8 (nb8 n 7)] = nmc n := by
 unfold nmc nb8
 rw [show bcs (nmb n) = bcs [(nmb n).getD 0 0, (nmb n).getD 1 0, (nmb n).getD 2 0, (nmb n).getD 3 0, (nmb n).getD 4 0, (nmb n).getD 5 0, (nmb n).getD 6 0, (nmb n).getD 7 0] from congrArg bcs (nmb_list n)]
 rfl
attribute [go_sem] nmc_nb8
theorem cells8 {w : World} {g : Nat} {t : TypeId} {n : UInt64} (h : Blk w g t (nmc n)) : ∀ i, i < 8 → w.cell? ⟨g, i, none⟩ = some (.int .u8 (nb8 n i)) := fun i hi => by
 rw [h.cell i]; exact nmc_get n i hi
end Go.Proofs.YtbfepgjeecndiaaGreat

/- The cursors, the program's: New, Uint, Done. -/
namespace Go.Proofs.YtbfepgjeecndiaaGreat
set_option maxRecDepth 100000
set_option maxHeartbeats 2000000
open Go.RowKit
set_option linter.unusedVariables false
set_option linter.unusedSimpArgs false
attribute [local go_sem ↓] Go.wp_at_zero Go.wp_at_succ
/-! what a cursor reads: 'some r': the bytes r are left; 'none': it has failed -/
def rNum (k : Nat) (s : Option (List UInt8)) : Int := match s with
 | none => 0
 | some r => if r.length < k then 0 else (beNat (r.take k) : Int)
def rRest (k : Nat) (s : Option (List UInt8)) : Option (List UInt8) := match s with
 | none => none
 | some r => if r.length < k then none else some (r.drop k)
theorem rNum_bd (k : Nat) (s : Option (List UInt8)) : 0 ≤ rNum k s ∧ rNum k s < 256 ^ k := by
 have hp : (0 : Int) < 256 ^ k := Int.pow_pos (by omega)
 unfold rNum
 split
 ·exact ⟨Int.le_refl _, hp⟩
 ·split
  ·exact ⟨Int.le_refl _, hp⟩
  ·rename_i r h
   have := beNat_lt (r.take k)
   rw [List.length_take, Nat.min_eq_left (by omega)] at this
   refine ⟨by omega, ?_⟩
   have h2 : ((256 ^ k : Nat) : Int) = (256 : Int) ^ k := by simp
   rw [← h2]; omega
def LowB (D : Nat) (A : Option Addr) (n : Nat) : Prop := n = 0 ∨ ∃ b o, A = some ⟨b, o, none⟩ ∧ b < D
def CurAt (t : TypeId) (D : Nat) (w : World) (B : Nat) (s : Option (List UInt8)) : Prop :=
 ∃ A n c l k, Blk w B t #[.slice A n c, .int .i64 ((k : Nat) : Int), .bool s.isNone] ∧ SlB w A n c l ∧ k ≤ n ∧ n ≤ 140737488355328 ∧ (∀ r, s = some r → r = l.drop k) ∧ LowB D A n
theorem low_kept {w w' : World} {D : Nat} {A : Option Addr} {n c : Nat} {l : List UInt8} (h : SlB w A n c l) (hD : LowB D A n) (hk : ∀ b, b < D → w'.heap[b]? = w.heap[b]?) : SlB w' A n c l := by
 refine ⟨h.len, h.le, h.cap, ?_⟩
 rcases hD with rfl | ⟨b, o, rfl, hb⟩
 ·exact .inl (by rw [List.eq_nil_of_length_eq_zero h.len]; rfl)
 ·by_cases hx : bcs l = []
  ·exact .inl hx
  ·obtain ⟨b', o', e, hr, _⟩ := h.rd.at hx
   injection e with e
   injection e with e1 e2
   subst e1; subst e2
   exact .inr ⟨b, o, rfl, rangeAt_keep hr (hk b hb)⟩
theorem grown_set (w : World) (B i : Nat) (u : Value) : w.grownBy (w.setCell ⟨B, i, none⟩ u) (some B) :=
 ⟨rfl, rfl, rfl, by simp [World.setCell], fun k _ hk => Below.heap_setCell _ _ _ _ (fun e => hk (by rw [e]))⟩
theorem grown_drew {w w' : World} {row : Option Nat} (h : w.grownBy w' row) : w.grownBy w'.drew row := ⟨h.os, h.tape, h.output, h.size, h.block⟩
theorem grown_refl (w : World) (row : Option Nat) : w.grownBy w row := ⟨rfl, rfl, rfl, Nat.le_refl _, fun _ _ _ => rfl⟩
theorem grown_ext {w w' : World} (h : Ext w w') (row : Option Nat) : w.grownBy w' row := ⟨h.os, h.tape, h.output, h.size, fun k hk _ => h.block k hk⟩
theorem slb_kept {w w' : World} {A : Option Addr} {n c : Nat} {l : List UInt8} {B : Nat} {t : TypeId} {A0 : Option Addr} {n0 c0 : Nat} {z : Int} {q : Bool} (h : SlB w A n c l) (hB : Blk w B t #[.slice A0 n0 c0, .int .i64 z, .bool q]) (hg : w.grownBy w' (some B)) : SlB w' A n c l := by
 refine ⟨h.len, h.le, h.cap, ?_⟩
 by_cases hx : bcs l = []
 ·exact .inl hx
 ·obtain ⟨b, o, rfl, hr, hb⟩ := h.rd.at hx
  refine .inr ⟨b, o, rfl, rangeAt_keep hr (hg.block b hb ?_)⟩
  intro e
  injection e with e
  subst e
  cases l with
  | nil => exact hx rfl
  | cons x r =>
   have h0 := hr 0 (bv x) rfl
   rw [Nat.add_zero, hB.cell o] at h0
   match o, h0 with
   | 0, h0 => simp [bv] at h0
   | 1, h0 => simp [bv] at h0
   | 2, h0 => simp [bv] at h0
   | o + 3, h0 => simp at h0
section
variable {t : TypeId} {D : Nat} {w w' : World} {B : Nat} {s : Option (List UInt8)}
theorem CurAt.lt (h : CurAt t D w B s) : B < w.heap.size := by
 obtain ⟨A, n, c, l, k, hB, _⟩ := h
 exact hB.lt
theorem CurAt.kept {row : Option Nat} (h : CurAt t D w B s) (hg : w.grownBy w' row) (hne : some B ≠ row) (hd : ∀ A n c l, SlB w A n c l → SlB w' A n c l) : CurAt t D w' B s := by
 obtain ⟨A, n, c, l, k, hB, hS, r⟩ := h
 exact ⟨A, n, c, l, k, hB.grown hg hne, hd _ _ _ _ hS, r⟩
theorem CurAt.low (h : CurAt t D w B s) (hb : w'.heap[B]? = w.heap[B]?) (hk : ∀ b, b < D → w'.heap[b]? = w.heap[b]?) : CurAt t D w' B s := by
 obtain ⟨A, n, c, l, k, hB, hS, h1, h2, h3, h4⟩ := h
 exact ⟨A, n, c, l, k, hb.trans hB, low_kept hS h4 hk, h1, h2, h3, h4⟩
theorem CurAt.ext (h : CurAt t D w B s) (he : Ext w w') : CurAt t D w' B s :=
 h.kept (grown_ext he none) (by simp) fun _ _ _ _ hs => hs.ext he
theorem cur_store (A : Option Addr) (n c k : Nat) (l : List UInt8) (b b' : Bool) (s : Option (List UInt8)) (hB : Blk w B t #[.slice A n c, .int .i64 ((k : Nat) : Int), .bool b]) (hS : SlB w A n c l) (hk : k ≤ n) (hn : n ≤ 140737488355328) (hb : s.isNone = b') (hr : ∀ r, s = some r → r = l.drop k) (hD : LowB D A n) : CurAt t D (w.setCell ⟨B, 2, none⟩ (.bool b')).drew B s := by
 refine ⟨A, n, c, l, k, ?_, ?_, hk, hn, hr, hD⟩
 ·rw [hb]; exact hB.set 2 _
 ·exact slb_kept hS hB (grown_drew (grown_set w B 2 _))
theorem cur_move (A : Option Addr) (n c k j : Nat) (l : List UInt8) (r : List UInt8) (hB : Blk w B t #[.slice A n c, .int .i64 ((k : Nat) : Int), .bool false]) (hS : SlB w A n c l) (hk : j ≤ n) (hn : n ≤ 140737488355328) (hr : r = l.drop j) (z : Int) (hz : z = (j : Int)) (hD : LowB D A n) : CurAt t D (w.setCell ⟨B, 1, none⟩ (.int .i64 z)).drew B (some r) := by
 subst hz
 refine ⟨A, n, c, l, j, ?_, ?_, hk, hn, fun r' h => by injection h with h; rw [← h]; exact hr, hD⟩
 ·exact hB.set 1 _
 ·exact slb_kept hS hB (grown_drew (grown_set w B 1 _))
end
variable {D : Nat}
theorem cnew_any (A : Option Addr) (n c : Nat) (l : List UInt8) (w : World) (h : SlB w A n c l) (hn : n ≤ 140737488355328) (hD : LowB D A n) :
  Calls Tryz.prog 47 #[.slice A n c] w fun e w' => ∃ B, e = .returned (.pointer (some ⟨B, 0, none⟩)) ∧ CurAt 101 D w' B (some l) ∧ w.heap.size ≤ B ∧ Ext w w' := by
 have HC := Lib.hid (show CurAt 101 D (w.alloc (.cells #[.slice A n c, .int .i64 0, .bool false] 101)) w.heap.size (some l) from
  ⟨A, n, c, l, 0, Blk.new _ _ _, h.ext ((Ext.refl w).alloc' _), Nat.zero_le _, hn, (fun r h => by injection h with h; rw [← h]; rfl), hD⟩)
 clear h
 go_enter Tryz.func47, Tryz.ntmps47
 go_wp2_with fail
 go_ret
 exact ⟨_, rfl, HC.out, Nat.le_refl _, (Ext.refl w).alloc' _⟩
theorem numAt_eq (l : List UInt8) (k wd : Nat) : numAt l k wd = beNat ((l.drop k).take wd) := rfl
theorem numAt_small (l : List UInt8) (k wd : Nat) (hw : wd ≤ 6) : numAt l k wd < 281474976710656 := by
 have h := beNat_lt ((l.drop k).take wd)
 have h2 : ((l.drop k).take wd).length ≤ wd := List.length_take_le _ _
 have h3 : 256 ^ ((l.drop k).take wd).length ≤ 256 ^ 6 := Nat.pow_le_pow_right (by omega) (by omega)
 rw [numAt_eq]; omega
theorem cuint_any (wd : Nat) (h1 : 1 ≤ wd) (h6 : wd ≤ 6) (B : Nat) (s : Option (List UInt8)) (w : World) (h : CurAt 101 D w B s) :
  Calls Tryz.prog 48 #[.pointer (some ⟨B, 0, none⟩), .int .i64 (wd : Int)] w fun e w' => e = .returned (.int .i64 (rNum wd s)) ∧ CurAt 101 D w' B (rRest wd s) ∧ w.grownBy w' (some B) := by
 obtain ⟨A, n, c, l, k, hB, hS, hk, hn, hr, hD⟩ := h
 have hlen := hS.len
 have hc0 : w.cell? ⟨B, 0, none⟩ = some (.slice A n c) := hB.cell 0
 have hc1 : w.cell? ⟨B, 1, none⟩ = some (.int .i64 (k : Int)) := hB.cell 1
 have hc2 : w.cell? ⟨B, 2, none⟩ = some (.bool s.isNone) := hB.cell 2
 have hf1 := hB.frozen 1
 have hf2 := hB.frozen 2
 have HB := Lib.hid hB
 have HS := Lib.hid hS
 have HR := Lib.hid hr
 have hS' := hS.ext (Ext.refl w).drew'
 have k0 : (0 : Int) ≤ (k : Int) := by omega
 have w0 : (0 : Int) ≤ (wd : Int) := by omega
 by_cases hfit : k + wd ≤ n
 ·have HU := Lib.hid (uint_yes A n c l k wd w.drew hS' h1 (by omega) hfit)
  have hsm := numAt_small l k wd h6
  have HV := Lib.hid (numAt_eq l k wd)
  obtain ⟨v, hv⟩ : ∃ v, v = numAt l k wd := ⟨_, rfl⟩
  rw [← hv] at HU hsm HV
  clear hv hB hS hr hS' hlen
  cases s with
  | none =>
   have hc2 : w.cell? ⟨B, 2, none⟩ = some (.bool true) := hc2
   go_enter Tryz.func48, Tryz.ntmps48
   go_wp2_with fail
   go_region_held3 (fun w' => w'.cell? ⟨B, 0, none⟩ = some (.slice A n c) ∧ w'.cell? ⟨B, 1, none⟩ = some (.int .i64 (k : Int))) (first | exact ⟨hc0, hc1⟩ | fail "CELLS") (first | (go_at_call 82; (with_reducible refine HU.out.mono ?_); rintro e wv ⟨rfl, rfl⟩) | fail "ARM")
   go_wp2_with fail
   go_ret
   exact ⟨rfl, cur_store A n c k l true true none HB.out HS.out hk hn rfl (fun _ h => by cases h) hD, grown_drew (grown_set w B 2 _)⟩
  | some r =>
   have hc2 : w.cell? ⟨B, 2, none⟩ = some (.bool false) := hc2
   have hvw : IntKind.i64.wrap (v : Int) = (v : Int) := by rw [IntKind.wrap_i64]; omega
   have HL := Lib.hid (show ¬ r.length < wd by rw [HR.out r rfl, List.length_drop, HS.out.len]; omega)
   go_enter Tryz.func48, Tryz.ntmps48
   go_wp2_with fail
   go_region_held3 (fun w' => w'.cell? ⟨B, 0, none⟩ = some (.slice A n c) ∧ w'.cell? ⟨B, 1, none⟩ = some (.int .i64 (k : Int))) (first | exact ⟨hc0, hc1⟩ | fail "CELLS") (first | (go_at_call 82; (with_reducible refine HU.out.mono ?_); rintro e wv ⟨rfl, rfl⟩) | fail "ARM")
   go_wp2_with fail
   go_ret
   refine ⟨?_, ?_, grown_drew (grown_set w B 1 _)⟩
   ·show _ = Ending.returned (Value.int .i64 (if r.length < wd then 0 else (beNat (r.take wd) : Int)))
    rw [if_neg HL.out, HR.out r rfl, ← HV.out]; rfl
   ·show CurAt _ _ _ _ (if r.length < wd then none else some (r.drop wd))
    rw [if_neg HL.out]
    exact cur_move A n c k (k + wd) l _ HB.out HS.out hfit hn (by rw [HR.out r rfl, List.drop_drop]) _ (by omega) hD
 ·have HU := Lib.hid (uint_no A n c (k : Int) (wd : Int) w.drew (by omega) (by omega) (by omega) (by unfold flw; simp only [decide_eq_false_iff_not]; omega))
  have HN := Lib.hid (show rNum wd s = 0 ∧ rRest wd s = none by
   cases s with
   | none => exact ⟨rfl, rfl⟩
   | some r =>
    have : r.length < wd := by rw [hr r rfl, List.length_drop, hlen]; omega
    simp [rNum, rRest, this])
  clear hB hS hr hS' hlen
  cases s with
  | none =>
   have hc2 : w.cell? ⟨B, 2, none⟩ = some (.bool true) := hc2
   go_enter Tryz.func48, Tryz.ntmps48
   go_wp2_with fail
   go_region_held3 (fun w' => w'.cell? ⟨B, 0, none⟩ = some (.slice A n c) ∧ w'.cell? ⟨B, 1, none⟩ = some (.int .i64 (k : Int))) (first | exact ⟨hc0, hc1⟩ | fail "CELLS") (first | (go_at_call 82; (with_reducible refine HU.out.mono ?_); rintro e wv ⟨rfl, rfl⟩) | fail "ARM")
   go_wp2_with fail
   go_ret
   exact ⟨rfl, cur_store A n c k l true true none HB.out HS.out hk hn rfl (fun _ h => by cases h) hD, grown_drew (grown_set w B 2 _)⟩
  | some r =>
   have hc2 : w.cell? ⟨B, 2, none⟩ = some (.bool false) := hc2
   go_enter Tryz.func48, Tryz.ntmps48
   go_wp2_with fail
   go_region_held3 (fun w' => w'.cell? ⟨B, 0, none⟩ = some (.slice A n c) ∧ w'.cell? ⟨B, 1, none⟩ = some (.int .i64 (k : Int))) (first | exact ⟨hc0, hc1⟩ | fail "CELLS") (first | (go_at_call 82; (with_reducible refine HU.out.mono ?_); rintro e wv ⟨rfl, rfl⟩) | fail "ARM")
   go_wp2_with fail
   go_ret
   refine ⟨by rw [HN.out.1]; rfl, ?_, grown_drew (grown_set w B 2 _)⟩
   rw [HN.out.2]
   exact cur_store A n c k l false true none HB.out HS.out hk hn rfl (fun _ h => by cases h) hD
theorem cdone_any (B : Nat) (s : Option (List UInt8)) (w : World) (h : CurAt 101 D w B s) :
  Calls Tryz.prog 53 #[.pointer (some ⟨B, 0, none⟩)] w fun e w' => e = .returned (.bool (decide (s = some []))) ∧ ∃ n, w' = w.drewN n := by
 obtain ⟨A, n, c, l, k, hB, hS, hk, hn, hr, hD⟩ := h
 have hlen := hS.len
 have hc0 : w.cell? ⟨B, 0, none⟩ = some (.slice A n c) := hB.cell 0
 have hc1 : w.cell? ⟨B, 1, none⟩ = some (.int .i64 (k : Int)) := hB.cell 1
 have hc2 : w.cell? ⟨B, 2, none⟩ = some (.bool s.isNone) := hB.cell 2
 cases s with
 | none =>
  have hc2 : w.cell? ⟨B, 2, none⟩ = some (.bool true) := hc2
  clear hB hS hr hlen
  go_enter Tryz.func53, Tryz.ntmps53
  go_wp2_with fail
  go_quiet (fail)
  go_wp2_with fail
  go_ret
  exact ⟨rfl, _, rfl⟩
 | some r =>
  have hc2 : w.cell? ⟨B, 2, none⟩ = some (.bool false) := hc2
  have hrr : r.length = n - k := by rw [hr r rfl, List.length_drop, hlen]
  by_cases hd : k = n
  ·have HR := Lib.hid (show decide (some r = some ([] : List UInt8)) = true by
    rw [decide_eq_true_eq]; rw [List.eq_nil_of_length_eq_zero (l := r) (by omega)])
   subst hd
   clear hB hS hr hlen hrr
   go_enter Tryz.func53, Tryz.ntmps53
   go_wp2_with fail
   go_quiet (fail)
   go_wp2_with fail
   go_ret
   exact ⟨by rw [HR.out]; rfl, _, rfl⟩
  ·have HR := Lib.hid (show decide (some r = some ([] : List UInt8)) = false by
    rw [decide_eq_false_iff_not]; intro e; injection e with e; rw [e] at hrr; simp at hrr; omega)
   have d1 : ((k : Int) == (n : Int)) = false := by simp; omega
   have d2 : decide ((k : Int) = (n : Int)) = false := by simp; omega
   clear hB hS hr hlen hrr
   go_enter Tryz.func53, Tryz.ntmps53
   go_wp2_with fail
   go_quiet (fail)
   go_wp2_with fail
   go_ret
   exact ⟨by rw [HR.out]; rfl, _, rfl⟩
end Go.Proofs.YtbfepgjeecndiaaGreat
