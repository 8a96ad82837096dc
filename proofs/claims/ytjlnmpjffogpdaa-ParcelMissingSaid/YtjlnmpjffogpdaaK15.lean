/- What a law is told of its arguments: names and bytes that came in. -/
import Derived.Test.YtjlnmpjffogpdaaK04
import Derived.WalkKit
import Derived.ProofKit
import Derived.OpenShut
import Derived.ShutString
import Derived.ChangeOld
import Derived.Below
import Derived.SizedLaws
import Derived.Test.YtjlnmpjffogpdaaK07
import Derived.Deep.Slices
import Derived.Test.YtjlnmpjffogpdaaK08
import Derived.Test.YtjlnmpjffogpdaaK13
namespace Go.Proofs.Ytjlnmpjffogpdaa
open Go.ChangeShapes Go.WideShapes Go.ChangeAt Go.RowKit
set_option linter.unusedVariables false
set_option linter.unusedSimpArgs false
theorem cellsNm : Try.prog.cellsOf 26 = 8 := by kernel_rfl
theorem cellsB1 : Try.prog.cellsOf 5 = 1 := by kernel_rfl
set_option maxRecDepth 100000 in
/-- the cells of a name that came in -/
theorem open_nmc {H : Type} {enc : TypeId × Value → H} {W : World} {base fuel : Nat} {held : Bool} {cs : List Value} {x : DataW H × List MemPlace}
    (h : DataW.trod enc Try.prog W base (fun _ => true) held fuel 26 cs = some x) : ∃ n : UInt64, cs = (nmc n).toList := by
  obtain ⟨xs, m, _, _, hl, hxl, hf⟩ := DataW.trod_array Try.underlying26 h
  rw [cellsNm] at hl
  rw [cellsB1] at hf
  have hb : ∀ i, i < 8 → ∃ b : UInt8, cs[i]? = some (.int .u8 (b.toNat : Int)) := by
    intro i hi
    have h1 := hf i hi
    rw [List.getElem?_eq_getElem (by omega)] at h1
    obtain ⟨z, e, _, wz⟩ := DataW.trod_int Try.underlying5 h1
    have h2 := wf_u8 wz
    refine ⟨toB z, ?_⟩
    rw [← toB_eq, Int.emod_eq_of_lt h2.1 h2.2]
    have h3 : ((cs.drop (i * 1)).take 1)[0]? = some (.int .u8 z) := by rw [e]; rfl
    rw [List.getElem?_take_of_lt (by omega), List.getElem?_drop] at h3
    simpa using h3
  have hc : ∃ l : List UInt8, l.length = 8 ∧ cs = bcs l := by
    match cs, hl, hb with
    | [c0, c1, c2, c3, c4, c5, c6, c7], _, hb =>
      obtain ⟨b0, e0⟩ := hb 0 (by omega)
      have e0 : c0 = .int .u8 (b0.toNat : Int) := Option.some.inj e0
      obtain ⟨b1, e1⟩ := hb 1 (by omega)
      have e1 : c1 = .int .u8 (b1.toNat : Int) := Option.some.inj e1
      obtain ⟨b2, e2⟩ := hb 2 (by omega)
      have e2 : c2 = .int .u8 (b2.toNat : Int) := Option.some.inj e2
      obtain ⟨b3, e3⟩ := hb 3 (by omega)
      have e3 : c3 = .int .u8 (b3.toNat : Int) := Option.some.inj e3
      obtain ⟨b4, e4⟩ := hb 4 (by omega)
      have e4 : c4 = .int .u8 (b4.toNat : Int) := Option.some.inj e4
      obtain ⟨b5, e5⟩ := hb 5 (by omega)
      have e5 : c5 = .int .u8 (b5.toNat : Int) := Option.some.inj e5
      obtain ⟨b6, e6⟩ := hb 6 (by omega)
      have e6 : c6 = .int .u8 (b6.toNat : Int) := Option.some.inj e6
      obtain ⟨b7, e7⟩ := hb 7 (by omega)
      have e7 : c7 = .int .u8 (b7.toNat : Int) := Option.some.inj e7
      exact ⟨[b0, b1, b2, b3, b4, b5, b6, b7], rfl, by rw [e0, e1, e2, e3, e4, e5, e6, e7]; rfl⟩
  obtain ⟨l, hl8, rfl⟩ := hc
  exact ⟨ofNm l, by rw [nmc_toList, nmb_ofNm l hl8]⟩
theorem bytesB1 : Try.prog.bytesOf 5 = 1 := by kernel_rfl
end Go.Proofs.Ytjlnmpjffogpdaa
/- What a law is told of an argument of the type api.Block. -/
namespace Go.Proofs.Ytjlnmpjffogpdaa
open Go.ChangeShapes Go.WideShapes Go.ChangeAt Go.RowKit Go.Deep
set_option linter.unusedVariables false
set_option linter.unusedSimpArgs false
theorem cellsI1 : Try.prog.cellsOf 3 = 1 := by kernel_rfl
theorem spot_none' {w : World} {x : Addr} {k : IntKind} {n : Int} (h : w.cell? x = some (.int k n)) : x.spot = none := by
  unfold World.cell? at h
  cases hs : x.spot with
  | none => rfl
  | some p => rw [hs] at h; split at h <;> simp at h
end Go.Proofs.Ytjlnmpjffogpdaa
/- What a law is told of arguments of the types api.Tx, api.SignedTx, api.Payload. -/
namespace Go.Proofs.Ytjlnmpjffogpdaa
open Go.ChangeShapes Go.WideShapes Go.ChangeAt Go.RowKit Go.Deep
set_option linter.unusedVariables false
set_option linter.unusedSimpArgs false
theorem cellsSB : Try.prog.cellsOf 33 = 1 := by kernel_rfl
section
variable {H : Type} {enc : TypeId × Value → H} {w : World} {base fuel : Nat} {held : Bool} {cs : List Value} {x : DataW H × List MemPlace}
/-- bytes inside something that came in -/
theorem open_rowB (h : DataW.trod enc Try.prog w base (fun _ => true) held fuel 33 cs = some x) : ∃ a n c l, cs = [.slice a n c] ∧ SlB w a n c l := by
  rcases open_ints Try.underlying33 Try.underlying5 cellsB1 h with ⟨hcs, _⟩ | ⟨x, l, c, zs, hcs, _, hl, hm, hz, _, hcell, hwz⟩
  · exact ⟨_, _, _, [], hcs, SlB.nil w⟩
  · obtain ⟨l', hs⟩ := slb_of_row (.inr ⟨_, rfl, hl, hm, by simpa using hz, hcell, hwz⟩)
    exact ⟨_, _, _, l', hcs, hs⟩
theorem cut_at {α : Type} (cs : List α) (a n : Nat) : cs.drop a = (cs.drop a).take n ++ cs.drop (a + n) := by
  rw [← List.drop_drop, List.take_append_drop]
theorem list2 {α : Type} {l : List α} (h : l.length = 2) : ∃ a b, l = [a, b] := by
  match l, h with
  | [a, b], _ => exact ⟨a, b, rfl⟩
end
end Go.Proofs.Ytjlnmpjffogpdaa

/- Lists in ascending order without repetitions: the insertion, the compaction, one answer. Plain: no program in sight. -/
namespace Go.Proofs.Ytjlnmpjffogpdaa
open Go.RowKit
set_option linter.unusedVariables false
set_option linter.unusedSimpArgs false
set_option linter.unusedSectionVars false

section
variable {β : Type} [DecidableEq β]
/-- a strict order in which any two elements can be told apart -/
structure STO (lt : β → β → Bool) : Prop where
  irrefl : ∀ x, lt x x = false
  trans : ∀ x y z, lt x y = true → lt y z = true → lt x z = true
  total : ∀ x y, lt x y = false → lt y x = false → x = y
variable {lt : β → β → Bool}
theorem STO.asymm (h : STO lt) {x y : β} (hxy : lt x y = true) : lt y x = false := by
  cases hyx : lt y x with
  | false => rfl
  | true => have := h.trans x y x hxy hyx; rw [h.irrefl] at this; cases this
theorem STO.ntrans (h : STO lt) {x y z : β} (h1 : lt x y = false) (h2 : lt y z = false) : lt x z = false := by
  cases hxz : lt x z with
  | false => rfl
  | true =>
    cases hyx : lt y x with
    | true => have := h.trans y x z hyx hxz; rw [h2] at this; cases this
    | false =>
      obtain rfl := h.total x y h1 hyx
      rw [h2] at hxz; cases hxz
/-- strictly ascending -/
def Asc (lt : β → β → Bool) (L : List β) : Prop := L.Pairwise fun x y => lt x y = true
/-- an element put where it belongs, unless it is there -/
def insO (lt : β → β → Bool) (x : β) : List β → List β
  | [] => [x]
  | y :: r => if lt y x = true then y :: insO lt x r else if y = x then y :: r else x :: y :: r
def insAll (lt : β → β → Bool) (acc L : List β) : List β := L.foldl (fun acc x => insO lt x acc) acc
/-- ascending, without repetitions -/
def canonO (lt : β → β → Bool) (L : List β) : List β := insAll lt [] L
theorem mem_insO (h : STO lt) (x y : β) (L : List β) : y ∈ insO lt x L ↔ y = x ∨ y ∈ L := by
  induction L with
  | nil => simp [insO]
  | cons z r ih =>
    unfold insO
    split
    · simp only [List.mem_cons, ih]
      constructor
      · rintro (h | h | h) <;> simp [h]
      · rintro (h | h | h) <;> simp [h]
    · split
      · rename_i h1 h2; subst h2; simp only [List.mem_cons]
        constructor
        · rintro (h | h) <;> simp [h]
        · rintro (h | h | h) <;> simp [h]
      · simp only [List.mem_cons]
theorem asc_insO (h : STO lt) (x : β) (L : List β) (hL : Asc lt L) : Asc lt (insO lt x L) := by
  induction L with
  | nil => simp [insO, Asc]
  | cons z r ih =>
    unfold Asc at hL ih ⊢
    obtain ⟨h1, h2⟩ := List.pairwise_cons.1 hL
    unfold insO
    split
    · rename_i hz
      refine List.pairwise_cons.2 ⟨fun y hy => ?_, ih h2⟩
      rcases (mem_insO h x y r).1 hy with rfl | hy
      · exact hz
      · exact h1 y hy
    · rename_i hz
      split
      · exact hL
      · rename_i hne
        have hxz : lt x z = true := by
          cases hh : lt x z with
          | true => rfl
          | false => exact absurd (h.total z x (by simpa using hz) hh) hne
        refine List.pairwise_cons.2 ⟨fun y hy => ?_, hL⟩
        rcases List.mem_cons.1 hy with rfl | hy
        · exact hxz
        · exact h.trans _ _ _ hxz (h1 y hy)
theorem mem_insAll (h : STO lt) (y : β) (L acc : List β) : y ∈ insAll lt acc L ↔ y ∈ acc ∨ y ∈ L := by
  induction L generalizing acc with
  | nil => simp [insAll]
  | cons x r ih =>
    show y ∈ insAll lt (insO lt x acc) r ↔ _
    rw [ih, mem_insO h, List.mem_cons]
    constructor
    · rintro ((h | h) | h) <;> simp [h]
    · rintro (h | h | h) <;> simp [h]
theorem asc_insAll (h : STO lt) (L acc : List β) (ha : Asc lt acc) : Asc lt (insAll lt acc L) := by
  induction L generalizing acc with
  | nil => exact ha
  | cons x r ih => exact ih _ (asc_insO h x acc ha)
theorem mem_canonO (h : STO lt) (y : β) (L : List β) : y ∈ canonO lt L ↔ y ∈ L := by
  unfold canonO; rw [mem_insAll h]; simp
theorem asc_canonO (h : STO lt) (L : List β) : Asc lt (canonO lt L) := asc_insAll h L [] List.Pairwise.nil
/-- two ascending lists of the same elements are one -/
theorem asc_uniq (h : STO lt) : ∀ (L M : List β), Asc lt L → Asc lt M → (∀ y, y ∈ L ↔ y ∈ M) → L = M
  | [], [], _, _, _ => rfl
  | [], y :: s, _, _, he => by have := (he y).2 (by simp); simp at this
  | x :: r, [], _, _, he => by have := (he x).1 (by simp); simp at this
  | x :: r, y :: s, hL, hM, he => by
    unfold Asc at hL hM
    obtain ⟨a1, a2⟩ := List.pairwise_cons.1 hL
    obtain ⟨b1, b2⟩ := List.pairwise_cons.1 hM
    have hxy : x = y := by
      rcases List.mem_cons.1 ((he x).1 (by simp)) with e | e
      · exact e
      · rcases List.mem_cons.1 ((he y).2 (by simp)) with e' | e'
        · exact e'.symm
        · have h1 := b1 x e
          have h2 := a1 y e'
          rw [h.asymm h1] at h2; cases h2
    subst hxy
    rw [asc_uniq h r s a2 b2 (fun z => by
      have hz := he z
      simp only [List.mem_cons] at hz
      constructor
      · intro hr
        rcases hz.1 (Or.inr hr) with e | e
        · subst e; have := a1 z hr; rw [h.irrefl] at this; cases this
        · exact e
      · intro hs
        rcases hz.2 (Or.inr hs) with e | e
        · subst e; have := b1 z hs; rw [h.irrefl] at this; cases this
        · exact e)]
theorem canonO_congr (h : STO lt) {L M : List β} (he : ∀ y, y ∈ L ↔ y ∈ M) : canonO lt L = canonO lt M :=
  asc_uniq h _ _ (asc_canonO h L) (asc_canonO h M) (fun y => by rw [mem_canonO h, mem_canonO h, he])
/-- repetitions that stand side by side are struck -/
def compA : β → List β → List β
  | _, [] => []
  | p, y :: r => if y = p then compA p r else y :: compA y r
def compO : List β → List β
  | [] => []
  | x :: r => x :: compA x r
theorem mem_compA (y : β) : ∀ (L : List β) (p : β), y ∈ p :: compA p L ↔ y ∈ p :: L := by
  intro L
  induction L with
  | nil => intro p; rfl
  | cons x r ih =>
    intro p
    unfold compA
    split
    · rename_i e; subst e
      rw [ih x]; simp
    · rename_i e
      rw [List.mem_cons, ih x, List.mem_cons, List.mem_cons, List.mem_cons]
theorem mem_compO (y : β) (L : List β) : y ∈ compO L ↔ y ∈ L := by
  cases L with
  | nil => rfl
  | cons x r => exact mem_compA y r x
/-- ascending, repetitions allowed -/
def Wsc (lt : β → β → Bool) (L : List β) : Prop := L.Pairwise fun x y => lt y x = false
theorem asc_compA (h : STO lt) : ∀ (L : List β) (p : β), Wsc lt (p :: L) → Asc lt (p :: compA p L) := by
  intro L
  induction L with
  | nil => intro p _; exact List.pairwise_singleton _ _
  | cons x r ih =>
    intro p hW
    unfold Wsc at hW
    obtain ⟨h1, h2⟩ := List.pairwise_cons.1 hW
    obtain ⟨h3, h4⟩ := List.pairwise_cons.1 h2
    unfold compA
    split
    · rename_i e; subst e; exact ih x h2
    · rename_i e
      have hx := ih x h2
      have hpx : lt p x = true := by
        cases hh : lt p x with
        | true => rfl
        | false => exact absurd (h.total x p (h1 x (by simp)) hh) e
      refine List.pairwise_cons.2 ⟨fun y hy => ?_, hx⟩
      rcases List.mem_cons.1 hy with rfl | hy
      · exact hpx
      · exact h.trans _ _ _ hpx ((List.pairwise_cons.1 hx).1 y hy)
theorem asc_compO (h : STO lt) {L : List β} (hW : Wsc lt L) : Asc lt (compO L) := by
  cases L with
  | nil => exact List.Pairwise.nil
  | cons x r => exact asc_compA h r x hW
/-- a sorted list of the same elements, compacted -/
theorem compO_canon (h : STO lt) {L M : List β} (hW : Wsc lt M) (he : ∀ y, y ∈ M ↔ y ∈ L) : compO M = canonO lt L :=
  asc_uniq h _ _ (asc_compO h hW) (asc_canonO h L) (fun y => by rw [mem_compO, mem_canonO h, he])
theorem compO_snoc (L : List β) (x y : β) : compO (L ++ [x, y]) = if y = x then compO (L ++ [x]) else compO (L ++ [x]) ++ [y] := by
  have key : ∀ (L : List β) (p x : β), compA p (L ++ [x, y]) = if y = x then compA p (L ++ [x]) else compA p (L ++ [x]) ++ [y] := by
    intro L
    induction L with
    | nil =>
      intro p x
      simp only [List.nil_append, compA]
      by_cases h1 : x = p
      · subst h1; by_cases h2 : y = x <;> simp [h2]
      · by_cases h2 : y = x <;> simp [h1, h2]
    | cons z r ih =>
      intro p x
      simp only [List.cons_append, compA]
      split
      · exact ih p x
      · rw [ih z x]; split <;> simp
  cases L with
  | nil => simp only [List.nil_append, compO, compA]; split <;> simp
  | cons z r =>
    simp only [List.cons_append, compO]
    rw [key]; split <;> simp
end
end Go.Proofs.Ytjlnmpjffogpdaa
