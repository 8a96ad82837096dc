/- Lists in ascending order without repetitions: the insertion, the compaction, one answer. Plain: no program in sight. -/
import Derived.Test.YtbfepgjeecndiaaGreatJ07
namespace Go.Proofs.YtbfepgjeecndiaaGreat
open Go.RowKit
set_option linter.unusedVariables false
set_option linter.unusedSimpArgs false
set_option linter.unusedSectionVars false
section
variable {β : Type} [DecidableEq β]
structure STO (lt : β → β → Bool) : Prop where
 irrefl : ∀ x, lt x x = false
 trans : ∀ x y z, lt x y = true → lt y z = true → lt x z = true
 total : ∀ x y, lt x y = false → lt y x = false → x = y
variable {lt : β → β → Bool}
theorem STO.asymm (h : STO lt) {x y : β} (hxy : lt x y = true) : lt y x = false := by
 cases hyx : lt y x with
 | false => rfl
 | true => have := h.trans x y x hxy hyx; rw [h.irrefl] at this; cases this
theorem STO.ntrans (h : STO lt) {x y z : β} (h1 : lt x y = false) (h2 : lt y z = false) : lt x z = false := by
 cases hxz : lt x z with
 | false => rfl
 | true =>
  cases hyx : lt y x with
  | true => have := h.trans y x z hyx hxz; rw [h2] at this; cases this
  | false =>
   obtain rfl := h.total x y h1 hyx
   rw [h2] at hxz; cases hxz
def Asc (lt : β → β → Bool) (L : List β) : Prop := L.Pairwise fun x y => lt x y = true
def insO (lt : β → β → Bool) (x : β) : List β → List β
 | [] => [x]
 | y :: r => if lt y x = true then y :: insO lt x r else if y = x then y :: r else x :: y :: r
def insAll (lt : β → β → Bool) (acc L : List β) : List β := L.foldl (fun acc x => insO lt x acc) acc
def canonO (lt : β → β → Bool) (L : List β) : List β := insAll lt [] L
theorem mem_insO (h : STO lt) (x y : β) (L : List β) : y ∈ insO lt x L ↔ y = x ∨ y ∈ L := by
 induction L with
 | nil => simp [insO]
 | cons z r ih =>
  unfold insO
  split
  ·simp only [List.mem_cons, ih]
   constructor
   ·rintro (h | h | h) <;> simp [h]
   ·rintro (h | h | h) <;> simp [h]
  ·split
   ·rename_i h1 h2; subst h2; simp only [List.mem_cons]
    constructor
    ·rintro (h | h) <;> simp [h]
    ·rintro (h | h | h) <;> simp [h]
   ·simp only [List.mem_cons]
theorem asc_insO (h : STO lt) (x : β) (L : List β) (hL : Asc lt L) : Asc lt (insO lt x L) := by
 induction L with
 | nil => simp [insO, Asc]
 | cons z r ih =>
  unfold Asc at hL ih ⊢
  obtain ⟨h1, h2⟩ := List.pairwise_cons.1 hL
  unfold insO
  split
  ·rename_i hz
   refine List.pairwise_cons.2 ⟨fun y hy => ?_, ih h2⟩
   rcases (mem_insO h x y r).1 hy with rfl | hy
   ·exact hz
   ·exact h1 y hy
  ·rename_i hz
   split
   ·exact hL
   ·rename_i hne
    have hxz : lt x z = true := by
     cases hh : lt x z with
     | true => rfl
     | false => exact absurd (h.total z x (by simpa using hz) hh) hne
    refine List.pairwise_cons.2 ⟨fun y hy => ?_, hL⟩
    rcases List.mem_cons.1 hy with rfl | hy
    ·exact hxz
    ·exact h.trans _ _ _ hxz (h1 y hy)
theorem mem_insAll (h : STO lt) (y : β) (L acc : List β) : y ∈ insAll lt acc L ↔ y ∈ acc ∨ y ∈ L := by
 induction L generalizing acc with
 | nil => simp [insAll]
 | cons x r ih =>
  show y ∈ insAll lt (insO lt x acc) r ↔ _
  rw [ih, mem_insO h, List.mem_cons]
  constructor
  ·rintro ((h | h) | h) <;> simp [h]
  ·rintro (h | h | h) <;> simp [h]
theorem asc_insAll (h : STO lt) (L acc : List β) (ha : Asc lt acc) : Asc lt (insAll lt acc L) := by
 induction L generalizing acc with
 | nil => exact ha
 | cons x r ih => exact ih _ (asc_insO h x acc ha)
theorem mem_canonO (h : STO lt) (y : β) (L : List β) : y ∈ canonO lt L ↔ y ∈ L := by
 unfold canonO; rw [mem_insAll h]; simp
theorem asc_canonO (h : STO lt) (L : List β) : Asc lt (canonO lt L) := asc_insAll h L [] List.Pairwise.nil
theorem asc_uniq (h : STO lt) : ∀ (L M : List β), Asc lt L → Asc lt M → (∀ y, y ∈ L ↔ y ∈ M) → L = M
 | [], [], _, _, _ => rfl
 | [], y :: s, _, _, he => by have := (he y).2 (by simp); simp at this
 | x :: r, [], _, _, he => by have := (he x).1 (by simp); simp at this
 | x :: r, y :: s, hL, hM, he => by
  unfold Asc at hL hM
  obtain ⟨a1, a2⟩ := List.pairwise_cons.1 hL
  obtain ⟨b1, b2⟩ := List.pairwise_cons.1 hM
  have hxy : x = y := by
   rcases List.mem_cons.1 ((he x).1 (by simp)) with e | e
   ·exact e
   ·rcases List.mem_cons.1 ((he y).2 (by simp)) with e' | e'
    ·exact e'.symm
    ·have h1 := b1 x e
     have h2 := a1 y e'
     rw [h.asymm h1] at h2; cases h2
  subst hxy
  rw [asc_uniq h r s a2 b2 (fun z => by
   have hz := he z
   simp only [List.mem_cons] at hz
   constructor
   ·intro hr
    rcases hz.1 (Or.inr hr) with e | e
    ·subst e; have := a1 z hr; rw [h.irrefl] at this; cases this
    ·exact e
   ·intro hs
    rcases hz.2 (Or.inr hs) with e | e
    ·subst e; have := b1 z hs; rw [h.irrefl] at this; cases this
    ·exact e)]
theorem canonO_congr (h : STO lt) {L M : List β} (he : ∀ y, y ∈ L ↔ y ∈ M) : canonO lt L = canonO lt M :=
 asc_uniq h _ _ (asc_canonO h L) (asc_canonO h M) (fun y => by rw [mem_canonO h, mem_canonO h, he])
def compA : β → List β → List β
 | _, [] => []
 | p, y :: r => if y = p then compA p r else y :: compA y r
def compO : List β → List β
 | [] => []
 | x :: r => x :: compA x r
theorem mem_compA (y : β) : ∀ (L : List β) (p : β), y ∈ p :: compA p L ↔ y ∈ p :: L := by
 intro L
 induction L with
 | nil => intro p; rfl
 | cons x r ih =>
  intro p
  unfold compA
  split
  ·rename_i e; subst e
   rw [ih x]; simp
  ·rename_i e
   rw [List.mem_cons, ih x, List.mem_cons, List.mem_cons, List.mem_cons]
theorem mem_compO (y : β) (L : List β) : y ∈ compO L ↔ y ∈ L := by
 cases L with
 | nil => rfl
 | cons x r => exact mem_compA y r x
def Wsc (lt : β → β → Bool) (L : List β) : Prop := L.Pairwise fun x y => lt y x = false
theorem asc_compA (h : STO lt) : ∀ (L : List β) (p : β), Wsc lt (p :: L) → Asc lt (p :: compA p L) := by
 intro L
 induction L with
 | nil => intro p _; exact List.pairwise_singleton _ _
 | cons x r ih =>
  intro p hW
  unfold Wsc at hW
  obtain ⟨h1, h2⟩ := List.pairwise_cons.1 hW
  obtain ⟨h3, h4⟩ := List.pairwise_cons.1 h2
  unfold compA
  split
  ·rename_i e; subst e; exact ih x h2
  ·rename_i e
   have hx := ih x h2
   have hpx : lt p x = true := by
    cases hh : lt p x with
    | true => rfl
    | false => exact absurd (h.total x p (h1 x (by simp)) hh) e
   refine List.pairwise_cons.2 ⟨fun y hy => ?_, hx⟩
   rcases List.mem_cons.1 hy with rfl | hy
   ·exact hpx
   ·exact h.trans _ _ _ hpx ((List.pairwise_cons.1 hx).1 y hy)
theorem asc_compO (h : STO lt) {L : List β} (hW : Wsc lt L) : Asc lt (compO L) := by
 cases L with
 | nil => exact List.Pairwise.nil
 | cons x r => exact asc_compA h r x hW
theorem compO_canon (h : STO lt) {L M : List β} (hW : Wsc lt M) (he : ∀ y, y ∈ M ↔ y ∈ L) : compO M = canonO lt L :=
 asc_uniq h _ _ (asc_compO h hW) (asc_canonO h L) (fun y => by rw [mem_compO, mem_canonO h, he])
theorem compO_snoc (L : List β) (x y : β) : compO (L ++ [x, y]) = if y = x then compO (L ++ [x]) else compO (L ++ [x]) ++ [y] := by
 have key : ∀ (L : List β) (p x : β), compA p (L ++ [x, y]) = if y = x then compA p (L ++ [x]) else compA p (L ++ [x]) ++ [y] := by
  intro L
  induction L with
  | nil =>
   intro p x
   simp only [List.nil_append, compA]
   by_cases h1 : x = p
   ·subst h1; by_cases h2 : y = x <;> simp [h2]
   ·by_cases h2 : y = x <;> simp [h1, h2]
  | cons z r ih =>
   intro p x
   simp only [List.cons_append, compA]
   split
   ·exact ih p x
   ·rw [ih z x]; split <;> simp
 cases L with
 | nil => simp only [List.nil_append, compO, compA]; split <;> simp
 | cons z r =>
  simp only [List.cons_append, compO]
  rw [key]; split <;> simp
end
end Go.Proofs.YtbfepgjeecndiaaGreat

/- Signed votes and texts compared; lists of them. -/
namespace Go.Proofs.YtbfepgjeecndiaaGreat
set_option maxRecDepth 100000
set_option maxHeartbeats 4000000
open Go.RowKit
set_option linter.unusedVariables false
set_option linter.unusedSimpArgs false
attribute [local go_sem ↓] Go.wp_at_zero Go.wp_at_succ
theorem strV_eq' (p q : List UInt8) : ((strV p).toList == (strV q).toList) = decide (p = q) := by
 rw [Bool.eq_iff_iff]
 simp only [beq_iff_eq, decide_eq_true_eq]
 exact ⟨fun h => strV_list h, fun h => by rw [h]⟩
theorem bEqual_any (A : Option Addr) (n c : Nat) (p : List UInt8) (A' : Option Addr) (n' c' : Nat) (q : List UInt8) (w : World) (h : SlB w A n c p) (h' : SlB w A' n' c' q) :
  Calls Tryz.prog 25 #[.slice A n c, .slice A' n' c'] w fun e w' => e = .returned (.bool (decide (p = q))) ∧ w = w' := by
 have r1 := run_strV h
 have r2 := run_strV h'
 have HV := Lib.hid (strV_eq' p q)
 clear h h'
 go_enter Tryz.func25, Tryz.ntmps25
 go_wp2_with fail
 go_ret
 exact ⟨by rw [← HV.out]; rfl, rfl⟩
theorem equalVotes_any (R Q : SgR) (w : World) (hR : R.ok w) (hQ : Q.ok w) :
  Calls Tryz.prog 65 #[.agg (sgA R), .agg (sgA Q)] w fun e w' => e = .returned (.bool (eqSg R Q)) ∧ Ext w w' := by
 have hE := ((Ext.refl w).alloc' (.cells (sgA R) 48)).alloc' (.cells (sgA Q) 48)
 have HB1 := Lib.hid ((Blk.new w 48 (sgA R)).alloc (.cells (sgA Q) 48))
 have HB2 := Lib.hid (show Blk ((w.alloc (.cells (sgA R) 48)).alloc (.cells (sgA Q) 48)) (w.heap.size + 1) 48 (sgA Q) from Blk.newAt _ _ _ _ (by simp))
 have HE := Lib.hid hE
 have HX := Lib.hid (fun (W : World) (h : Ext w W) => bEqual_any R.A R.n R.c R.sig Q.A Q.n Q.c Q.sig W (hR.sig.ext h) (hQ.sig.ext h))
 have hq := fun W => run_eqVt R.v Q.v hR.v hQ.v W
 have hqi := fun W => eqIn_Vt R.v Q.v hR.v hQ.v W
 have HV := Lib.hid (show eqSg R Q = (decide (R.v = Q.v) && decide (R.sig = Q.sig)) from rfl)
 obtain ⟨w0, hw0⟩ : ∃ w0, (w.alloc (.cells (sgA R) 48)).alloc (.cells (sgA Q) 48) = w0 := ⟨_, rfl⟩
 rw [hw0] at HB1 HB2 HE
 have r1 : w0.rangeAt w.heap.size 0 (vtL R.v) := rangeAt_take (k := 22) (rangeAt_of_blk HB1.out)
 have r2 : w0.rangeAt (w.heap.size + 1) 0 (vtL Q.v) := rangeAt_take (k := 22) (rangeAt_of_blk HB2.out)
 have p1 : w0.cell? ⟨w.heap.size, 22, none⟩ = some (.slice R.A R.n R.c) := HB1.out.cell 22
 have p2 : w0.cell? ⟨w.heap.size + 1, 22, none⟩ = some (.slice Q.A Q.n Q.c) := HB2.out.cell 22
 clear hR hQ hE
 by_cases hv : R.v = Q.v
 ·have HV' := Lib.hid (show eqSg R Q = decide (R.sig = Q.sig) by rw [HV.out]; simp [hv])
  rw [decide_eq_true hv] at hq hqi
  clear hv HV
  go_enter Tryz.func65, Tryz.ntmps65
  go_wp2_with (first | (with_reducible refine wpList_loadVt rfl (.tmp 5) rfl w.heap.size 0 rfl R.v r1 ?_) | (with_reducible refine wpList_loadVt rfl (.tmp 7) rfl (w.heap.size + 1) 0 rfl Q.v r2 ?_) | (go_at_call 25; refine (HX.out _ HE.out).mono ?_; rintro e w1 ⟨rfl, rfl⟩))
  go_ret
  exact ⟨by rw [HV'.out]; rfl, HE.out⟩
 ·have HV' := Lib.hid (show eqSg R Q = false by rw [HV.out]; simp [hv])
  rw [decide_eq_false hv] at hq hqi
  clear hv HV
  go_enter Tryz.func65, Tryz.ntmps65
  go_wp2_with (first | (with_reducible refine wpList_loadVt rfl (.tmp 5) rfl w.heap.size 0 rfl R.v r1 ?_) | (with_reducible refine wpList_loadVt rfl (.tmp 7) rfl (w.heap.size + 1) 0 rfl Q.v r2 ?_))
  go_ret
  exact ⟨by rw [HV'.out]; rfl, HE.out⟩
end Go.Proofs.YtbfepgjeecndiaaGreat

/- Votes, signed votes, texts and views that came in. -/
namespace Go.Proofs.YtbfepgjeecndiaaGreat
open Go.ChangeShapes Go.WideShapes Go.ChangeAt Go.RowKit Go.Deep
set_option linter.unusedVariables false
set_option linter.unusedSimpArgs false
section
variable {H : Type} {enc : TypeId × Value → H} {w : World} {base fuel : Nat} {held : Bool} {cs : List Value} {x : DataW H × List MemPlace}
theorem spot_slice {a : Addr} {A : Option Addr} {n c : Nat} (h : w.cell? a = some (.slice A n c)) : a.spot = none := by
 unfold World.cell? at h
 cases hs : a.spot with
 | none => rfl
 | some p => rw [hs] at h; split at h <;> simp at h
theorem open_rowsG {α : Type} [RowT α] {t e : TypeId} (ht : Tryz.prog.underlying t = some (.slice e)) (hsz : Tryz.prog.cellsOf e = RowT.sz α)
  (hel : ∀ {fuel : Nat} {cs : List Value} {x : DataW H × List MemPlace}, DataW.trod enc Tryz.prog w base (fun _ => true) held fuel e cs = some x → ∃ y : α, cs = RowT.enc y ∧ RowT.ok y w)
  (hone : ∀ (y : α) (a : Addr) (v : Value), (RowT.enc y)[0]? = some v → w.cell? a = some v → a.spot = none)
  (h : DataW.trod enc Tryz.prog w base (fun _ => true) held fuel t cs = some x) : ∃ A n c, ∃ L : List α, cs = [.slice A n c] ∧ SlG w A n c L := by
 rcases open_slice ht h with ⟨hcs, _⟩ | ⟨x, l, c', m, n, D, Pl, hcs, _, hl, hm, hmm, _, hi⟩
 ·exact ⟨none, 0, 0, [], hcs, SlG.nil w⟩
 ·rw [if_pos rfl] at hmm
  subst hmm
  have hcell : ∀ j, j < l → ∃ y : α, (∀ q v, (RowT.enc y)[q]? = some v → w.cell? ((x.add (j * RowT.sz α)).add q) = some v) ∧ RowT.ok y w := by
   intro j hj
   obtain ⟨cs', hc, ht⟩ := hi j (by omega)
   obtain ⟨y, rfl, hyo⟩ := hel ht
   rw [hsz] at hc
   obtain ⟨_, hln, hat⟩ := World.cells?_some hc
   refine ⟨y, fun q v hv => ?_, hyo⟩
   have hq := (List.getElem?_eq_some_iff.1 hv).1
   have := hat q (by rw [RowT.len] at hq; omega)
   rw [this, hv]
  rcases Nat.eq_zero_or_pos l with rfl | h0
  ·exact ⟨_, 0, _, [], hcs, rfl, Nat.zero_le _, by unfold maxLen at hm; omega, .nil, fun R hR => by cases hR⟩
  ·have hx : x.spot = none := by
    obtain ⟨y, hy, _⟩ := hcell 0 h0
    have hp : 0 < (RowT.enc y).length := by rw [RowT.len]; exact RowT.pos
    have := hy 0 _ (List.getElem?_eq_getElem hp)
    have e0 : ((x.add (0 * RowT.sz α)).add 0) = x := by simp [Addr.add]
    rw [e0] at this
    exact hone y x _ (List.getElem?_eq_getElem hp) this
   obtain ⟨bl, ol, sp⟩ := x
   simp only at hx
   subst hx
   obtain ⟨L, hL, hr, hok⟩ := rows_G (α := α) (w := w) (b := bl) (o := ol) rfl l (fun j hj => by
    obtain ⟨y, hy, hyo⟩ := hcell j hj
    refine ⟨y, fun q v hv => ?_, hyo⟩
    have := hy q v hv
    rwa [Addr.add_mid, Addr.add_mid] at this)
   exact ⟨_, l, _, L, hcs, hL, hl, by unfold maxLen at hm; omega, .inr ⟨bl, ol, rfl, hr⟩, hok⟩
theorem open_tec (h : DataW.trod enc Tryz.prog w base (fun _ => true) held fuel 28 cs = some x) : ∃ T : TeR, cs = teL T ∧ T.ok w := by
 obtain ⟨A, n, c, l, e, hs⟩ := open_rowB h
 exact ⟨⟨A, n, c, l⟩, e, hs⟩
theorem open_tes (h : DataW.trod enc Tryz.prog w base (fun _ => true) held fuel 23 cs = some x) : ∃ A n c, ∃ L : List TeR, cs = [.slice A n c] ∧ SlG w A n c L :=
 open_rowsG Tryz.underlying23 cellsSB (fun h => open_tec h) (fun y a v hv hc => spot_slice (by have e := Option.some.inj hv; subst e; exact hc)) h
end
end Go.Proofs.YtbfepgjeecndiaaGreat
