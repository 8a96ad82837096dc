/- Small facts on numbers, bytes, names and memory that no text of the program is needed for. -/
import Derived.WalkKit
import Derived.WalkSpells
import Derived.WalkLawsBesides
import Derived.Lib.Hide
import Derived.Deep.QuietTactic
import Derived.BigQuiet
import Derived.RegionTactic
import Derived.StillTailTactics
import Derived.Deep.RegionHeld3
import Derived.Deep.DrawnRows
import Derived.Deep.MidRow
import Derived.Laws.BitsAllLaws
import Derived.Test.YtfklmcfanhnfpaaRows
namespace Go.Proofs.Ytfklmcfanhnfpaa
open Go.RowKit
set_option linter.unusedVariables false
set_option linter.unusedSimpArgs false

/-! numbers of 64 bits: 'un x' is what the walk sees; the operations stand behind names of their own, so that nothing opens them -/
def un (x : UInt64) : Int := (x.toNat : Int)
theorem un_nonneg (x : UInt64) : 0 ≤ un x := Int.natCast_nonneg _
theorem un_lt (x : UInt64) : un x < 18446744073709551616 := by unfold un; have := x.toNat_lt; omega
theorem un_inj {x y : UInt64} (h : un x = un y) : x = y := by unfold un at h; exact UInt64.toNat_inj.1 (by omega)
def addU (x y : UInt64) : UInt64 := x + y
def xorU (x y : UInt64) : UInt64 := x ^^^ y
def mulU (x y : UInt64) : UInt64 := x * y
/-- the rotation, as both texts reckon it: by the two powers of two -/
def rotP (x a b : UInt64) : UInt64 := (x * a) ||| (x / b)
theorem un_add (x y : UInt64) : IntKind.u64.wrap (un x + un y) = un (addU x y) := by
  unfold un addU; rw [IntKind.wrap_u64, UInt64.toNat_add]; omega
theorem un_xor (x y : UInt64) : bits .xor .u64 (un x) (un y) = un (xorU x y) := by
  unfold un xorU; rw [u64_xor_nat _ _ x.toNat_lt y.toNat_lt, UInt64.toNat_xor]
theorem un_mul (x a : UInt64) : IntKind.u64.wrap (un x * (a.toNat : Int)) = un (mulU x a) := by
  unfold un mulU; rw [IntKind.wrap_u64, UInt64.toNat_mul]; omega
theorem un_rot (x a b : UInt64) : bits .or .u64 (IntKind.u64.wrap (un x * (a.toNat : Int))) (un x / (b.toNat : Int)) = un (rotP x a b) := by
  rw [un_mul]; unfold un rotP mulU
  have e : (x.toNat : Int) / (b.toNat : Int) = ((x / b).toNat : Int) := by rw [UInt64.toNat_div]; omega
  rw [e, u64_or_nat _ _ (UInt64.toNat_lt _) (UInt64.toNat_lt _), UInt64.toNat_or]
def rot13 (x : UInt64) : UInt64 := rotP x 8192 2251799813685248
def rot32 (x : UInt64) : UInt64 := rotP x 4294967296 4294967296
def mulK (x : UInt64) : UInt64 := mulU x 11400714819323198485
theorem un_rot13 (x : UInt64) : bits .or .u64 (IntKind.u64.wrap (un x * 8192)) (un x / 2251799813685248) = un (rot13 x) := un_rot x 8192 2251799813685248
theorem un_rot32 (x : UInt64) : bits .or .u64 (IntKind.u64.wrap (un x * 4294967296)) (un x / 4294967296) = un (rot32 x) := un_rot x 4294967296 4294967296
theorem un_mulK (x : UInt64) : IntKind.u64.wrap (un x * 11400714819323198485) = un (mulK x) := un_mul x 11400714819323198485

/-- one step of the hash function on its two numbers -/
def mixX (x y : UInt64) : UInt64 := mulK (rot32 (addU x y))
def mixY (x y : UInt64) : UInt64 := xorU (rot13 y) (addU x y)
def mixTo : Nat → UInt64 → UInt64 → UInt64 × UInt64
  | 0, x, y => (x, y)
  | n + 1, x, y => (mixX (mixTo n x y).1 (mixTo n x y).2, mixY (mixTo n x y).1 (mixTo n x y).2)

/-! memory: a block that is known whole -/
def Blk (w : World) (g : Nat) (t : TypeId) (cs : Array Value) : Prop := w.heap[g]? = some (.cells cs t (0, 0))
section
variable {w w' : World} {g : Nat} {t : TypeId} {cs : Array Value}
theorem Blk.lt (h : Blk w g t cs) : g < w.heap.size := (Array.getElem?_eq_some_iff.1 h).1
theorem Blk.cell (h : Blk w g t cs) (i : Nat) : w.cell? ⟨g, i, none⟩ = cs[i]? := cell_of_row w g i cs t (0, 0) h
theorem Blk.frozen (h : Blk w g t cs) (i : Nat) : w.frozen? ⟨g, i, none⟩ = false := frozen_of_row w g i cs t h
theorem Blk.drew (h : Blk w g t cs) : Blk w.drew g t cs := h
theorem Blk.alloc (h : Blk w g t cs) (o : Obj) : Blk (w.alloc o) g t cs := (Below.heap_alloc w o g h.lt).trans h
theorem Blk.new (w : World) (t : TypeId) (cs : Array Value) : Blk (w.alloc (.cells cs t)) w.heap.size t cs := heap_alloc_new w _
theorem Blk.newAt (w : World) (t : TypeId) (cs : Array Value) (g : Nat) (hg : w.heap.size = g) : Blk (w.alloc (.cells cs t)) g t cs := by subst hg; exact heap_alloc_new w _
theorem Blk.set (h : Blk w g t cs) (i : Nat) (u : Value) : Blk (w.setCell ⟨g, i, none⟩ u) g t (cs.setIfInBounds i u) := by
  unfold Blk at h ⊢
  simp [World.setCell, Array.getElem?_modify, h]
theorem Blk.far (h : Blk w g t cs) {p : Addr} (hp : g ≠ p.block) (u : Value) : Blk (w.setCell p u) g t cs := (Below.heap_setCell w p u g hp).trans h
theorem Blk.below {B : Nat} (h : Blk w g t cs) (hb : Below B w w') (hg : g < B) : Blk w' g t cs := (hb.block g hg).trans h
theorem Blk.ext (h : Blk w g t cs) (hb : Below w.heap.size w w') : Blk w' g t cs := h.below hb h.lt
theorem Blk.grown {row : Option Nat} (h : Blk w g t cs) (hb : w.grownBy w' row) (hg : some g ≠ row) : Blk w' g t cs := (hb.block g h.lt hg).trans h
end
/-! a world in which one block alone may differ -/
structure Only (g : Nat) (w w' : World) : Prop where
  os : w'.os = w.os
  tape : w'.tape = w.tape
  output : w'.output = w.output
  size : w'.heap.size = w.heap.size
  block : ∀ k, k ≠ g → w'.heap[k]? = w.heap[k]?
section
variable {w w1 w2 : World} {g : Nat}
theorem Only.refl (g : Nat) (w : World) : Only g w w := ⟨rfl, rfl, rfl, rfl, fun _ _ => rfl⟩
theorem Only.trans (h : Only g w w1) (k : Only g w1 w2) : Only g w w2 :=
  ⟨k.os.trans h.os, k.tape.trans h.tape, k.output.trans h.output, k.size.trans h.size, fun i hi => (k.block i hi).trans (h.block i hi)⟩
theorem Only.drew (h : Only g w w1) : Only g w w1.drew := ⟨h.os, h.tape, h.output, h.size, h.block⟩
theorem Only.set (h : Only g w w1) (i : Nat) (u : Value) : Only g w (w1.setCell ⟨g, i, none⟩ u) :=
  h.trans ⟨rfl, rfl, rfl, by simp [World.setCell], fun k hk => Below.heap_setCell _ _ _ _ hk⟩
theorem Only.below (h : Only g w w1) {B : Nat} (hB : B ≤ g) : Below B w w1 := ⟨h.os, h.tape, h.output, by rw [h.size]; exact Nat.le_refl _, fun k hk => h.block k (by omega)⟩
end

end Go.Proofs.Ytfklmcfanhnfpaa
