/- Corrupt, over two networks side by side. -/
import Derived.Test.YtengpfpeeihaoaaPl2
namespace Go.Proofs.Ytengpfpeeihaoaa
open Go.RowKit
set_option linter.unusedVariables false
set_option linter.unusedSimpArgs false

theorem RNet.bytes {w w' : World} {base base' b : Nat} {p : Int} {A : Option Addr} {n c : Nat} {L : List Pc} {a : Option Addr} {m k : Nat} {l : List UInt8} (h : RNet w base b p A n c L) (ho : OwnB w base' 5 a m k l) (hg : w.grownBy w' (Value.ownBlock (.slice a m k))) : RNet w' base b p A n c L :=
  ⟨h.le, h.blk.grown hg (fun e => own_blk_apart ho h.blk (by decide) e.symm), own_grown' h.own hg (fun g e => own_apart ho h.own (by decide) e)⟩
theorem mem_set {X : List Rec} {i : Nat} {x' x : Rec} (h : x ∈ X.set i x') : x = x' ∨ ∃ j, j ≠ i ∧ ∃ hj : j < X.length, x = X[j] := by
  obtain ⟨j, hj, rfl⟩ := List.mem_iff_getElem.1 h
  rw [List.length_set] at hj
  rw [List.getElem_set]
  split
  · exact .inl rfl
  · rename_i hne; exact .inr ⟨j, fun e => hne e.symm, hj, rfl⟩
section
variable {w w' : World} {B b b2 : Nat} {p : Int} {X Y : List Rec}
theorem pw_ne (h : X.Pairwise (fun x y => Ap x.1.sl y.1.sl)) {i j : Nat} (hi : i < X.length) (hj : j < X.length) (hne : j ≠ i) : Ap X[i].1.sl X[j].1.sl := by
  rw [List.pairwise_iff_getElem] at h
  rcases Nat.lt_or_ge i j with h1 | h1
  · exact h i j hi hj h1
  · exact (h j i hj hi (by omega)).symm
/-- bytes of the program's parcel i were stored over -/
theorem Play.cor (h : Play w B b b2 p X Y) {i : Nat} (hi : i < X.length) {l' : List UInt8} (hO : OwnB w' B 5 (nthX X i).1.a (nthX X i).1.n (nthX X i).1.c l') (hg : w.grownBy w' (Value.ownBlock (nthX X i).1.sl)) (hl : l'.length = (nthX X i).2.length) :
    Play w' B b b2 p (X.set i ((nthX X i).1, l')) Y := by
  obtain ⟨A, c, hN⟩ := h.net
  obtain ⟨A2, c2, hR⟩ := h.rnet
  have hx := h.own _ (nthX_mem X hi)
  have hm : (X.set i ((nthX X i).1, l')).map (·.1) = X.map (·.1) := by
    rw [List.map_set]
    apply List.ext_getElem?
    intro j
    rw [List.getElem?_set]
    split
    · rename_i hj; subst hj
      rw [if_pos (by simpa using hi), List.getElem?_map, List.getElem?_eq_getElem hi, Option.map_some, nthX_get X hi]
    · rfl
  refine ⟨⟨A, c, ?_⟩, ⟨A2, c2, hR.bytes hx hg⟩, ?_, ?_, ?_, ?_, ?_, h.rok, ?_, h.rlen⟩
  · rw [hm, List.length_set]; exact hN.bytes hx hg
  · intro x hxm
    rcases mem_set hxm with rfl | ⟨j, hne, hj, rfl⟩
    · exact hO
    · refine own_grown' (h.own _ (List.getElem_mem hj)) hg (fun g e e' => ?_)
      have := pw_ne h.pw hi hj hne
      rw [nthX_get X hi] at this
      exact this g e e'
  · intro y hy
    exact own_grown' (h.rown y hy) hg (fun g e e' => h.sep _ (nthX_mem X hi) y hy g e e')
  · have h1 : (X.map (·.1)).Pairwise (fun x y => Ap x.sl y.sl) := List.pairwise_map.2 h.pw
    rw [← hm] at h1
    exact (List.pairwise_map (f := fun x : Rec => x.1) (R := fun x y => Ap x.sl y.sl)).1 h1
  · intro x hxm y hy
    rcases mem_set hxm with rfl | ⟨j, hne, hj, rfl⟩
    · exact h.sep _ (nthX_mem X hi) y hy
    · exact h.sep _ (List.getElem_mem hj) y hy
  · intro x hxm
    rcases mem_set hxm with rfl | ⟨j, hne, hj, rfl⟩
    · exact h.ok (nthX X i) (nthX_mem X hi)
    · exact h.ok _ (List.getElem_mem hj)
  · intro x hxm
    rcases mem_set hxm with rfl | ⟨j, hne, hj, rfl⟩
    · show l'.length ≤ 1000; rw [hl]; exact h.len _ (nthX_mem X hi)
    · exact h.len _ (List.getElem_mem hj)
/-- the reference's parcel i got other bytes, in a new block -/
theorem Play.rcor (h : Play w B b b2 p X Y) {i : Nat} (hi : i < Y.length) {a' : Option Addr} {k' : Nat} {l' : List UInt8} {A : Option Addr} {n c : Nat} (hN : RNet w' B b2 p A n c ((Y.map (·.1)).set i ⟨(nthX Y i).1.f, (nthX Y i).1.t, a', (nthX Y i).1.n, k'⟩)) (hk : KR w w')
    (hO : OwnB w' w.heap.size 5 a' (nthX Y i).1.n k' l') (hl : l'.length = (nthX Y i).2.length) :
    Play w' B b b2 p X (Y.set i (⟨(nthX Y i).1.f, (nthX Y i).1.t, a', (nthX Y i).1.n, k'⟩, l')) := by
  obtain ⟨A2, c2, hR⟩ := h.net
  have hlen := hN.len
  rw [List.length_set, List.length_map] at hlen
  subst hlen
  refine ⟨⟨A2, c2, hR.keep hk⟩, ⟨A, c, ?_⟩, h.own.keptT hk (by decide) (by decide), ?_, h.pw, ?_, h.ok, ?_, h.len, ?_⟩
  · rw [List.map_set, List.length_set]; exact hN
  · intro y hym
    rcases mem_set hym with rfl | ⟨j, hne, hj, rfl⟩
    · exact own_mono hO h.B_le
    · exact h.rown.keptT hk (by decide) (by decide) _ (List.getElem_mem hj)
  · intro x hxm y hym
    rcases mem_set hym with rfl | ⟨j, hne, hj, rfl⟩
    · exact ap_new (h.own x hxm) (Nat.le_refl _) hO
    · exact h.sep x hxm _ (List.getElem_mem hj)
  · intro y hym
    rcases mem_set hym with rfl | ⟨j, hne, hj, rfl⟩
    · exact h.rok (nthX Y i) (nthX_mem Y hi)
    · exact h.rok _ (List.getElem_mem hj)
  · intro y hym
    rcases mem_set hym with rfl | ⟨j, hne, hj, rfl⟩
    · show l'.length ≤ 1000; rw [hl]; exact h.rlen _ (nthX_mem Y hi)
    · exact h.rlen _ (List.getElem_mem hj)
/-- all blocks but those of bytes -/
def KB (w w' : World) : Prop := w.heap.size ≤ w'.heap.size ∧ ∀ (g : Nat) (t : TypeId) (cs : Array Value), t ≠ 5 → Blk w g t cs → Blk w' g t cs
theorem pCor (h : Play w B b b2 p X Y) (z q y : Int) (i at' : Nat) (yb : UInt8) (hz : z = (i : Int)) (hq : q = (at' : Int)) (hy : y = (yb.toNat : Int)) (hi : i < X.length) (hn : X.length ≤ 4096) (hat : at' < (nthX X i).2.length) (hy0 : yb ≠ 0) :
    Calls Try.prog 23 #[.pointer (some ⟨b, 0, none⟩), .int .i64 z, .int .i64 q, .int .u8 y] w fun e w' => e = .returned (.int .i64 0) ∧ Play w' B b b2 p (X.set i ((nthX X i).1, (nthX X i).2.set at' (xorB (nthB (nthX X i).2 at') yb))) Y ∧ Below B w w' ∧ KB w w' := by
  subst hz; subst hq; subst hy
  obtain ⟨A, c, hN⟩ := h.net
  have hx := h.own _ (nthX_mem X hi)
  have := corrupt_ok i at' yb B B b p A X.length c _ (nthX X i).2 w hN hi hn (by rw [nthX_map X hi]; exact hx) (by rw [nthX_map X hi, ← hx.sl.len]; exact hat) hy0
  rw [nthX_map X hi] at this
  refine this.mono ?_
  rintro e w' ⟨rfl, hO, hg⟩
  refine ⟨rfl, h.cor hi hO hg (List.length_set ..), Below.grown (Below.refl B w) hg h.B_le (fun k hk => (row_lt hx k hk).1), hg.size, fun g t cs ht hb => hb.grown hg (fun e => own_blk_apart hx hb (fun e => ht e.symm) e.symm)⟩
theorem rCor (h : Play w B b b2 p X Y) (z q y : Int) (i at' : Nat) (yb : UInt8) (hz : z = (i : Int)) (hq : q = (at' : Int)) (hy : y = (yb.toNat : Int)) (hi : i < Y.length) (hn : Y.length ≤ 4096) (hat : at' < (nthX Y i).2.length) (hy0 : yb ≠ 0) :
    Calls Try.prog 31 #[.pointer (some ⟨b2, 0, none⟩), .int .i64 z, .int .i64 q, .int .u8 y] w fun e w' => ∃ y' : Rec, e = .returned (.int .i64 0) ∧ Play w' B b b2 p X (Y.set i y') ∧ y'.key = ((nthX Y i).1.f, (nthX Y i).1.t, (nthX Y i).2.set at' (xorB (nthB (nthX Y i).2 at') yb)) ∧ Below B w w' ∧ KR w w' := by
  subst hz; subst hq; subst hy
  obtain ⟨A, c, hN⟩ := h.rnet
  have hx := h.rown _ (nthX_mem Y hi)
  have hsm := h.rsmall hi
  have := rcorrupt_ok i at' yb B b2 p A Y.length c _ (nthX Y i).2 w hN hi hn (by rw [nthX_map Y hi]; exact hx.sl) (by rw [nthX_map Y hi]; omega) (by rw [nthX_map Y hi, ← hx.sl.len]; exact hat) hy0
  rw [nthX_map Y hi] at this
  refine this.mono ?_
  rintro e w' ⟨a', k', rfl, hN', hO, hB, hK⟩
  have hk := hN.keptT hK
  exact ⟨_, rfl, h.rcor hi hN' hk hO (List.length_set ..), rfl, hB, hk⟩
theorem pCorNo (h : Play w B b b2 p X Y) (z q y : Int) (hz : z < 0 ∨ (X.length : Int) ≤ z) (hn : X.length ≤ 4096) :
    Calls Try.prog 23 #[.pointer (some ⟨b, 0, none⟩), .int .i64 z, .int .i64 q, .int .u8 y] w fun e w' => e = .returned (.int .i64 6) ∧ w = w' := by
  obtain ⟨A, c, hN⟩ := h.net
  exact corrupt_no z q y B b p A X.length c _ w hN hz hn
theorem rCorNo (h : Play w B b b2 p X Y) (z q y : Int) (hz : z < 0 ∨ (Y.length : Int) ≤ z) (hn : Y.length ≤ 4096) :
    Calls Try.prog 31 #[.pointer (some ⟨b2, 0, none⟩), .int .i64 z, .int .i64 q, .int .u8 y] w fun e w' => e = .returned (.int .i64 6) ∧ w = w' := by
  obtain ⟨A, c, hN⟩ := h.rnet
  exact rcorrupt_no z q y B b2 p A Y.length c _ w hN hz hn
theorem pCorArg (h : Play w B b b2 p X Y) (z q y : Int) (i : Nat) (hz : z = (i : Int)) (hi : i < X.length) (hn : X.length ≤ 4096) (hat : y = 0 ∨ q < 0 ∨ ((nthX X i).2.length : Int) ≤ q) :
    Calls Try.prog 23 #[.pointer (some ⟨b, 0, none⟩), .int .i64 z, .int .i64 q, .int .u8 y] w fun e w' => e = .returned (.int .i64 1) ∧ w = w' := by
  subst hz
  obtain ⟨A, c, hN⟩ := h.net
  have hsm := h.small hi
  have hx := (h.own _ (nthX_mem X hi)).sl.len
  exact corrupt_arg i q y B b p A X.length c _ w hN hi hn (by rw [nthX_map X hi]; omega) (by rw [nthX_map X hi, ← hx]; exact hat)
theorem rCorArg (h : Play w B b b2 p X Y) (z q y : Int) (i : Nat) (hz : z = (i : Int)) (hi : i < Y.length) (hn : Y.length ≤ 4096) (hat : y = 0 ∨ q < 0 ∨ ((nthX Y i).2.length : Int) ≤ q) :
    Calls Try.prog 31 #[.pointer (some ⟨b2, 0, none⟩), .int .i64 z, .int .i64 q, .int .u8 y] w fun e w' => e = .returned (.int .i64 1) ∧ w = w' := by
  subst hz
  obtain ⟨A, c, hN⟩ := h.rnet
  have hsm := h.rsmall hi
  have hx := (h.rown _ (nthX_mem Y hi)).sl.len
  exact rcorrupt_arg i q y B b2 p A Y.length c _ w hN hi hn (by rw [nthX_map Y hi]; omega) (by rw [nthX_map Y hi, ← hx]; exact hat)
end
end Go.Proofs.Ytengpfpeeihaoaa
