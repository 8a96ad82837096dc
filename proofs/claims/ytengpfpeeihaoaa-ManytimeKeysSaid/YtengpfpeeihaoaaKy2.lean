/- tree (the program's): the trees that a key keeps. -/
import Derived.Test.YtengpfpeeihaoaaKy1
import Derived.Test.YtengpfpeeihaoaaSig2
import Derived.Test.YtengpfpeeihaoaaVer1
import Derived.DeepKeys4
import Derived.Maps.Own
import Derived.Lib.LazyBuf
namespace Go.Proofs.Ytengpfpeeihaoaa
open Go.RowKit
set_option linter.unusedVariables false
set_option linter.unusedSimpArgs false
/-! a map whose keys are pairs of numbers -/
theorem laidP : laidOutB Try.prog = true := by kernel_rfl
theorem rowPair : (116 : TypeId) < Try.prog.types.size := of_decide_eq_true (by kernel_rfl)
theorem widePair : (match Try.prog.underlying 116 with | some (.array _ _) | some (.struct _) => true | _ => false) = true := by rw [Try.underlying116]
set_option maxRecDepth 100000 in
theorem lawPair : WideMaps.KeyLaw Try.prog 116 := deep_law_laid laidP (m := 2) (by omega) rowPair (by kernel_rfl) widePair
theorem cellsPair : Try.prog.cellsOf 116 = 2 := by kernel_rfl
theorem cellsI : Try.prog.cellsOf 3 = 1 := by kernel_rfl
theorem keyTyPair : Try.prog.keyType 116 = true := by kernel_rfl
def pairV (a b : Int) : Value := .agg #[.int .i64 a, .int .i64 b]
theorem keyPair (a b : Int) (ha : (Lit.int .i64 a).wf = true) (hb : (Lit.int .i64 b).wf = true) : ∃ l, keyOf Try.prog 116 (pairV a b) = some l := by
  have hf : (pairV a b).formed Try.prog 116 = true := by simp [pairV, Value.formed, Try.underlying116, cellsPair]
  unfold keyOf
  rw [Try.underlying116]
  simp only [keyTyPair, hf, Bool.and_self, if_true]
  obtain ⟨m, hm⟩ : ∃ m, Try.prog.types.size + 1 = m + 2 := ⟨Try.prog.types.size - 1, by
    have h : (116 : Nat) < Try.prog.types.size := rowPair
    generalize Try.prog.types.size = s at *
    omega⟩
  rw [hm]
  refine ⟨_, by simp [pairV, Program.keyLits, Try.underlying116, Try.underlying3, cellsPair, cellsI, Value.cells, List.range_succ, ha, hb]; rfl⟩
section
variable {P : Program} {t k e : TypeId} {w : World} {M : Nat} {es : Array MapEntry} {clock : Nat} {key z : Value} {l : Lit}
theorem look_or (K : WideMaps.KeyLaw P k) (ht : P.underlying t = some (.map k e)) (hb : w.heap[M]? = some (.map es clock)) (hks : ∀ x ∈ es.toList, ∃ l, keyOf P k x.key = some l) (hkey : keyOf P k key = some l) (hz : (zeroValue e).run P w = .ok z w) :
    ((Instr.lookup t (.map (some M)) key false).run P w = .ok z w ∧ ∀ x ∈ es.toList, x.key ≠ key) ∨ ∃ x ∈ es.toList, x.key = key ∧ (Instr.lookup t (.map (some M)) key false).run P w = .ok x.val w := by
  rcases K.find w hkey es.toList hks with ⟨h1, h2⟩ | ⟨j, e0, h1, h2, h3⟩
  · refine .inl ⟨?_, h2⟩
    simp [Instr.lookup, run_underlying ht, MapKept.run_getObj_map hb, K.check w _ hkey, h1, hz]
  · refine .inr ⟨e0, List.mem_of_getElem? h2, h3, ?_⟩
    simp [Instr.lookup, run_underlying ht, MapKept.run_getObj_map hb, K.check w _ hkey, h1]
theorem update_new (K : WideMaps.KeyLaw P k) (ht : P.underlying t = some (.map k e)) (hb : w.heap[M]? = some (.map es clock)) (hks : ∀ x ∈ es.toList, ∃ l, keyOf P k x.key = some l) (hkey : keyOf P k key = some l) (hno : ∀ x ∈ es.toList, x.key ≠ key) (val : Value) :
    (Instr.mapUpdate t (.map (some M)) key val).run P w = .ok () (ChangeMaps.setBlock w M (.map (es.push ⟨key, val, clock⟩) (clock + 1))) := by
  rcases K.find w hkey es.toList hks with ⟨h1, h2⟩ | ⟨j, e0, h1, h2, h3⟩
  · simp [Instr.mapUpdate, run_underlying ht, MapKept.run_getObj_map hb, K.check w false hkey, h1, MapKept.run_setObj_map _ hb, Result.andThen, ChangeMaps.setBlock]
  · exact absurd h3 (hno e0 (List.mem_of_getElem? h2))
end
/-- the cells of a key -/
def keyP (seed : UInt64) (lv : Int) (M : Nat) : Array Value := #[.int .u8 (nb8 seed 0), .int .u8 (nb8 seed 1), .int .u8 (nb8 seed 2), .int .u8 (nb8 seed 3), .int .u8 (nb8 seed 4), .int .u8 (nb8 seed 5), .int .u8 (nb8 seed 6), .int .u8 (nb8 seed 7), .int .i64 lv, .map (some M)]
/-- the block of a tree -/
def TreeB (w : World) (seed : UInt64) (a b : Int) (g : Nat) : Prop := Blk w g 61 (ncs (leavesU seed a b)).toArray
def Trees (w : World) (seed : UInt64) (es : Array MapEntry) : Prop := ∀ x ∈ es.toList, ∃ (a b : Int) (g : Nat), x.key = pairV a b ∧ (Lit.int .i64 a).wf = true ∧ (Lit.int .i64 b).wf = true ∧ x.val = .slice (some ⟨g, 0, none⟩) 32 32 ∧ TreeB w seed a b g
structure KeyAt (w : World) (B M : Nat) (seed : UInt64) (lv : Int) : Prop where
  blk : Blk w B 99 (keyP seed lv M)
  map : ∃ es clock, w.heap[M]? = some (.map es clock) ∧ Trees w seed es
theorem TreeB.sl {w : World} {seed : UInt64} {a b : Int} {g : Nat} (h : TreeB w seed a b g) : SlN w (some ⟨g, 0, none⟩) 32 32 (leavesU seed a b) := SlN.of_blk h (leavesU_length seed a b) (by omega)
theorem Trees.ext {w w' : World} {seed : UInt64} {es : Array MapEntry} (h : Trees w seed es) (he : Ext w w') : Trees w' seed es := fun x hx => by
  obtain ⟨a, b, g, h1, h2, h3, h4, h5⟩ := h x hx
  exact ⟨a, b, g, h1, h2, h3, h4, Blk.ext h5 he⟩
theorem KeyAt.ext {w w' : World} {B M : Nat} {seed : UInt64} {lv : Int} (h : KeyAt w B M seed lv) (he : Ext w w') : KeyAt w' B M seed lv := by
  obtain ⟨es, clock, hm, ht⟩ := h.map
  exact ⟨h.blk.ext he, es, clock, (he.block M (Array.getElem?_eq_some_iff.1 hm).1).trans hm, ht.ext he⟩
/-- what is written into a row of bytes does not touch a key -/
theorem KeyAt.row {w w' : World} {B M : Nat} {seed : UInt64} {lv : Int} {row : Option Nat} (h : KeyAt w B M seed lv) (hg : w.grownBy w' row) (hr : ∀ r, row = some r → ∃ cur p, w.heap[r]? = some (.cells cur 5 p)) : KeyAt w' B M seed lv := by
  obtain ⟨es, clock, hm, ht⟩ := h.map
  have key : ∀ (g : Nat) (o : Obj), w.heap[g]? = some o → (∀ cur p, o ≠ .cells cur 5 p) → w'.heap[g]? = some o := fun g o ho hne => by
    rw [hg.block g (Array.getElem?_eq_some_iff.1 ho).1 (fun e => by
      obtain ⟨cur, p, hc⟩ := hr g e.symm
      rw [ho] at hc
      injection hc with hc
      exact hne cur p hc), ho]
  refine ⟨key B _ h.blk (fun cur p e => by injection e with _ e2; exact absurd e2 (by decide)), es, clock, key M _ hm (fun cur p e => by cases e), fun x hx => ?_⟩
  obtain ⟨a, b, g, h1, h2, h3, h4, h5⟩ := ht x hx
  exact ⟨a, b, g, h1, h2, h3, h4, key g _ h5 (fun cur p e => by injection e with _ e2; exact absurd e2 (by decide))⟩
theorem own_typed {w : World} {base : Nat} {e : TypeId} {size : Nat} {v : Value} {n : Nat} {xs : List Value} (h : w.ownsRow base e size v n xs) : ∀ r, Value.ownBlock v = some r → ∃ cur p, w.heap[r]? = some (.cells cur e p) := fun r hr => by
  rcases h.2 with ⟨rfl, _⟩ | ⟨g, cap, cur, rfl, _, hh, _⟩
  · cases hr
  · have : g = r := by simpa [Value.ownBlock] using hr
    subst this; exact ⟨_, _, hh⟩
theorem nmb_nb8 (n : UInt64) : bcs (nmb n) = [.int .u8 (nb8 n 0), .int .u8 (nb8 n 1), .int .u8 (nb8 n 2), .int .u8 (nb8 n 3), .int .u8 (nb8 n 4), .int .u8 (nb8 n 5), .int .u8 (nb8 n 6), .int .u8 (nb8 n 7)] := by
  rw [← nmc_toList, ← nmc_nb8]
theorem KeyAt.seed {w : World} {B M : Nat} {seed : UInt64} {lv : Int} (h : KeyAt w B M seed lv) : SlB w (some ⟨B, 0, none⟩) 8 8 (nmb seed) := by
  refine ⟨nmb_length _, Nat.le_refl _, by omega, .inr ⟨B, 0, rfl, ?_⟩⟩
  have := rangeAt_take (k := 8) (rangeAt_of_blk h.blk)
  rw [nmb_nb8]; exact this
theorem KeyAt.trees {w : World} {B M : Nat} {seed : UInt64} {lv : Int} (h : KeyAt w B M seed lv) : w.cell? ⟨B, 9, none⟩ = some (.map (some M)) := by rw [h.blk.cell]; rfl
theorem KeyAt.levels {w : World} {B M : Nat} {seed : UInt64} {lv : Int} (h : KeyAt w B M seed lv) : w.cell? ⟨B, 8, none⟩ = some (.int .i64 lv) := by rw [h.blk.cell]; rfl
theorem grown_block (w : World) (M : Nat) (o : Obj) : w.grownBy (ChangeMaps.setBlock w M o) (some M) :=
  ⟨rfl, rfl, rfl, by simp [ChangeMaps.setBlock], fun k hk hne => by
    simp only [ChangeMaps.setBlock]
    rw [Array.getElem?_setIfInBounds_ne (fun e => hne (by rw [e]))]⟩
/-- a tree more -/
theorem KeyAt.more {w : World} {B M : Nat} {seed : UInt64} {lv : Int} {es : Array MapEntry} {clock : Nat} (hB : Blk w B 99 (keyP seed lv M)) (hm : w.heap[M]? = some (.map es clock)) (ht : Trees w seed es) {a b : Int} (ha : (Lit.int .i64 a).wf = true) (hb : (Lit.int .i64 b).wf = true) {g0 : Nat} (hs : TreeB w seed a b g0) :
    KeyAt (ChangeMaps.setBlock w M (.map (es.push ⟨pairV a b, .slice (some ⟨g0, 0, none⟩) 32 32, clock⟩) (clock + 1))) B M seed lv ∧ TreeB (ChangeMaps.setBlock w M (.map (es.push ⟨pairV a b, .slice (some ⟨g0, 0, none⟩) 32 32, clock⟩) (clock + 1))) seed a b g0 := by
  have g := grown_block w M (.map (es.push ⟨pairV a b, .slice (some ⟨g0, 0, none⟩) 32 32, clock⟩) (clock + 1))
  have hlt := (Array.getElem?_eq_some_iff.1 hm).1
  have hne : ∀ {q : Nat} {t : TypeId} {cs : Array Value}, Blk w q t cs → some q ≠ some M := fun {q t cs} hq e => by
    injection e with e; subst e; unfold Blk at hq; rw [hm] at hq; cases hq
  have hs' : TreeB (ChangeMaps.setBlock w M (.map (es.push ⟨pairV a b, .slice (some ⟨g0, 0, none⟩) 32 32, clock⟩) (clock + 1))) seed a b g0 := Blk.grown hs g (hne hs)
  refine ⟨⟨hB.grown g (hne hB), es.push ⟨pairV a b, .slice (some ⟨g0, 0, none⟩) 32 32, clock⟩, clock + 1, ?_, ?_⟩, hs'⟩
  · simp [ChangeMaps.setBlock, hlt]
  · intro x hx
    simp only [Array.toList_push, List.mem_append, List.mem_singleton] at hx
    rcases hx with hx | rfl
    · obtain ⟨a', b', g', h1, h2, h3, h4, h5⟩ := ht x hx
      exact ⟨a', b', g', h1, h2, h3, h4, Blk.grown h5 g (hne h5)⟩
    · exact ⟨a, b, g0, rfl, ha, hb, rfl, hs'⟩
end Go.Proofs.Ytengpfpeeihaoaa
