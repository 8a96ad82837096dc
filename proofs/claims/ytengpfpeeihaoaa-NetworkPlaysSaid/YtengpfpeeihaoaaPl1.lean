/- Two networks side by side: the program's and the reference's. -/
import Derived.Test.YtengpfpeeihaoaaR3
import Derived.Test.YtengpfpeeihaoaaR5
import Derived.Test.YtengpfpeeihaoaaR6
import Derived.Test.YtengpfpeeihaoaaNet17
namespace Go.Proofs.Ytengpfpeeihaoaa
open Go.RowKit
set_option linter.unusedVariables false
set_option linter.unusedSimpArgs false

/-- all that stood stands, but for the blocks of two types -/
structure KeptT (w w' : World) (t1 t2 : TypeId) : Prop where
  size : w.heap.size ≤ w'.heap.size
  block : ∀ (k : Nat) (cs : Array Value) (t : TypeId) (r : Nat × Nat), w.heap[k]? = some (Obj.cells cs t r) → t ≠ t1 → t ≠ t2 → w'.heap[k]? = w.heap[k]?
theorem KeptT.of_ext {w w' : World} (h : Ext w w') (t1 t2 : TypeId) : KeptT w w' t1 t2 := ⟨h.size, fun k cs t r hk _ _ => h.block k (Array.getElem?_eq_some_iff.1 hk).1⟩
theorem own_type {w : World} {base : Nat} {e : TypeId} {size : Nat} {v : Value} {n : Nat} {xs : List Value} (h : w.ownsRow base e size v n xs) {g : Nat} (hg : Value.ownBlock v = some g) : ∃ cs, w.heap[g]? = some (.cells cs e (0, 0)) := by
  rcases h.2 with ⟨rfl, _⟩ | ⟨g1, cap, cur, rfl, _, hh, _⟩
  · cases hg
  · have : g1 = g := by simpa [Value.ownBlock] using hg
    subst this; exact ⟨cur, hh⟩
theorem Net.keptT {w w' : World} {base b : Nat} {p : Int} {A : Option Addr} {n c : Nat} {L : List Pc} (hN : Net w base b p A n c L) (hK : Kept w w' b (Value.ownBlock (.slice A n c))) : KeptT w w' 77 35 := by
  refine ⟨hK.size, fun k cs t r hk h1 h2 => hK.block k (Array.getElem?_eq_some_iff.1 hk).1 ?_ ?_⟩
  · rintro rfl; have := hN.blk; unfold Blk at this; rw [hk] at this; injection this with this; injection this with _ e; exact h1 e
  · intro e; obtain ⟨cs', h⟩ := own_type hN.own e.symm; rw [hk] at h; injection h with h; injection h with _ e'; exact h2 e'
theorem RNet.keptT {w w' : World} {base b : Nat} {p : Int} {A : Option Addr} {n c : Nat} {L : List Pc} (hN : RNet w base b p A n c L) (hK : Kept w w' b (Value.ownBlock (.slice A n c))) : KeptT w w' 57 48 := by
  refine ⟨hK.size, fun k cs t r hk h1 h2 => hK.block k (Array.getElem?_eq_some_iff.1 hk).1 ?_ ?_⟩
  · rintro rfl; have := hN.blk; unfold Blk at this; rw [hk] at this; injection this with this; injection this with _ e; exact h1 e
  · intro e; obtain ⟨cs', h⟩ := own_type hN.own e.symm; rw [hk] at h; injection h with h; injection h with _ e'; exact h2 e'
theorem Blk.keptT {w w' : World} {g : Nat} {t t1 t2 : TypeId} {cs : Array Value} (h : Blk w g t cs) (hk : KeptT w w' t1 t2) (h1 : t ≠ t1) (h2 : t ≠ t2) : Blk w' g t cs := (hk.block g cs t _ h h1 h2).trans h
theorem own_keptT {w w' : World} {base : Nat} {e t1 t2 : TypeId} {size : Nat} {v : Value} {n : Nat} {xs : List Value} (h : w.ownsRow base e size v n xs) (hk : KeptT w w' t1 t2) (h1 : e ≠ t1) (h2 : e ≠ t2) : w'.ownsRow base e size v n xs := by
  refine ⟨h.1, ?_⟩
  rcases h.2 with h3 | ⟨g, cap, cur, hv, hb, hh, r⟩
  · exact .inl h3
  · exact .inr ⟨g, cap, cur, hv, hb, (hk.block g _ _ _ hh h1 h2).trans hh, r⟩

/-- a parcel and its bytes -/
abbrev Rec := Pc × List UInt8
def Rec.key (x : Rec) : Int × Int × List UInt8 := (x.1.f, x.1.t, x.2)
def Pc.sl (x : Pc) : Value := .slice x.a x.n x.c
def Has (w : World) (B : Nat) (X : List Rec) : Prop := ∀ x ∈ X, OwnB w B 5 x.1.a x.1.n x.1.c x.2
theorem Has.keptT {w w' : World} {B : Nat} {X : List Rec} {t1 t2 : TypeId} (h : Has w B X) (hk : KeptT w w' t1 t2) (h1 : 5 ≠ t1) (h2 : 5 ≠ t2) : Has w' B X := fun x hx => own_keptT (h x hx) hk h1 h2
theorem Has.ext {w w' : World} {B : Nat} {X : List Rec} (h : Has w B X) (e : Ext w w') : Has w' B X := fun x hx => (h x hx).ext e
/-- the two networks, with their parcels X and Y -/
structure Play (w : World) (B b b2 : Nat) (p : Int) (X Y : List Rec) : Prop where
  net : ∃ A c, Net w B b p A X.length c (X.map (·.1))
  rnet : ∃ A c, RNet w B b2 p A Y.length c (Y.map (·.1))
  own : Has w B X
  rown : Has w B Y
  pw : X.Pairwise (fun x y => Ap x.1.sl y.1.sl)
  sep : ∀ x ∈ X, ∀ y ∈ Y, Ap x.1.sl y.1.sl
  ok : ∀ x ∈ X, sendable p x.1.f x.1.t
  rok : ∀ y ∈ Y, sendable p y.1.f y.1.t
  len : ∀ x ∈ X, x.2.length ≤ 1000
  rlen : ∀ y ∈ Y, y.2.length ≤ 1000
section
variable {w w' : World} {B b b2 : Nat} {p : Int} {X Y : List Rec}
theorem Play.ext (h : Play w B b b2 p X Y) (e : Ext w w') : Play w' B b b2 p X Y := by
  obtain ⟨A, c, hN⟩ := h.net
  obtain ⟨A2, c2, hR⟩ := h.rnet
  exact ⟨⟨A, c, hN.ext e⟩, ⟨A2, c2, hR.ext e⟩, h.own.ext e, h.rown.ext e, h.pw, h.sep, h.ok, h.rok, h.len, h.rlen⟩
theorem RNet.keep {A : Option Addr} {n c : Nat} {L : List Pc} (h : RNet w B b2 p A n c L) (hk : KeptT w w' 77 35) : RNet w' B b2 p A n c L := ⟨h.le, h.blk.keptT hk (by decide) (by decide), own_keptT h.own hk (by decide) (by decide)⟩
theorem Net.keep {A : Option Addr} {n c : Nat} {L : List Pc} (h : Net w B b p A n c L) (hk : KeptT w w' 57 48) : Net w' B b p A n c L := ⟨h.le, h.blk.keptT hk (by decide) (by decide), own_keptT h.own hk (by decide) (by decide)⟩
/-- the program's parcels were replaced by some of them -/
theorem Play.sub (h : Play w B b b2 p X Y) {X' : List Rec} (hs : X'.Sublist X) {A : Option Addr} {n c : Nat} (hN : Net w' B b p A n c (X'.map (·.1))) (hk : KeptT w w' 77 35) : Play w' B b b2 p X' Y := by
  obtain ⟨A2, c2, hR⟩ := h.rnet
  have hl := hN.len
  rw [List.length_map] at hl
  subst hl
  exact ⟨⟨A, c, hN⟩, ⟨A2, c2, hR.keep hk⟩, fun x hx => h.own.keptT hk (by decide) (by decide) x (hs.subset hx), h.rown.keptT hk (by decide) (by decide), h.pw.sublist hs, fun x hx => h.sep x (hs.subset hx), fun x hx => h.ok x (hs.subset hx), h.rok, fun x hx => h.len x (hs.subset hx), h.rlen⟩
theorem Play.rsub (h : Play w B b b2 p X Y) {Y' : List Rec} (hs : Y'.Sublist Y) {A : Option Addr} {n c : Nat} (hN : RNet w' B b2 p A n c (Y'.map (·.1))) (hk : KeptT w w' 57 48) : Play w' B b b2 p X Y' := by
  obtain ⟨A2, c2, hR⟩ := h.net
  have hl := hN.len
  rw [List.length_map] at hl
  subst hl
  exact ⟨⟨A2, c2, hR.keep hk⟩, ⟨A, c, hN⟩, h.own.keptT hk (by decide) (by decide), fun x hx => h.rown.keptT hk (by decide) (by decide) x (hs.subset hx), h.pw, fun x hx y hy => h.sep x hx y (hs.subset hy), h.ok, fun x hx => h.rok x (hs.subset hx), h.len, fun x hx => h.rlen x (hs.subset hx)⟩
/-- bytes in a new block lie apart from all that stood -/
theorem ap_new {x : Rec} {a : Option Addr} {m k : Nat} {l : List UInt8} {H : Nat} (hx : OwnB w B 5 x.1.a x.1.n x.1.c x.2) (hH : w.heap.size ≤ H) (hO : OwnB w' H 5 a m k l) : Ap x.1.sl (.slice a m k) := fun g h1 h2 => by
  have := (row_lt hx g h1).2; have := (row_lt hO g h2).1; omega
/-- the program got a parcel more -/
theorem Play.add (h : Play w B b b2 p X Y) {f t : Int} {a : Option Addr} {m k : Nat} {l : List UInt8} {A : Option Addr} {n c : Nat} (hN : Net w' B b p A n c (X.map (·.1) ++ [⟨f, t, a, m, k⟩])) (hk : KeptT w w' 77 35)
    (hO : OwnB w' w.heap.size 5 a m k l) (hB : B ≤ w.heap.size) (hsd : sendable p f t) (hl : l.length ≤ 1000) : Play w' B b b2 p (X ++ [(⟨f, t, a, m, k⟩, l)]) Y := by
  obtain ⟨A2, c2, hR⟩ := h.rnet
  have hlen := hN.len
  rw [List.length_append, List.length_map] at hlen
  refine ⟨⟨A, c, ?_⟩, ⟨A2, c2, hR.keep hk⟩, ?_, h.rown.keptT hk (by decide) (by decide), ?_, ?_, ?_, h.rok, ?_, h.rlen⟩
  · rw [List.map_append, List.length_append]; subst hlen; exact hN
  · intro x hx
    rcases List.mem_append.1 hx with hx | hx
    · exact h.own.keptT hk (by decide) (by decide) x hx
    · rw [List.mem_singleton] at hx; subst hx; exact own_mono hO hB
  · refine List.pairwise_append.2 ⟨h.pw, List.pairwise_singleton _ _, fun x hx y hy => ?_⟩
    rw [List.mem_singleton] at hy; subst hy; exact ap_new (h.own x hx) (Nat.le_refl _) hO
  · intro x hx y hy
    rcases List.mem_append.1 hx with hx | hx
    · exact h.sep x hx y hy
    · rw [List.mem_singleton] at hx; subst hx; exact (ap_new (h.rown y hy) (Nat.le_refl _) hO).symm
  · intro x hx
    rcases List.mem_append.1 hx with hx | hx
    · exact h.ok x hx
    · rw [List.mem_singleton] at hx; subst hx; exact hsd
  · intro x hx
    rcases List.mem_append.1 hx with hx | hx
    · exact h.len x hx
    · rw [List.mem_singleton] at hx; subst hx; exact hl
theorem Play.radd (h : Play w B b b2 p X Y) {f t : Int} {a : Option Addr} {m k : Nat} {l : List UInt8} {A : Option Addr} {n c : Nat} (hN : RNet w' B b2 p A n c (Y.map (·.1) ++ [⟨f, t, a, m, k⟩])) (hk : KeptT w w' 57 48)
    (hO : OwnB w' w.heap.size 5 a m k l) (hB : B ≤ w.heap.size) (hsd : sendable p f t) (hl : l.length ≤ 1000) : Play w' B b b2 p X (Y ++ [(⟨f, t, a, m, k⟩, l)]) := by
  obtain ⟨A2, c2, hR⟩ := h.net
  have hlen := hN.len
  rw [List.length_append, List.length_map] at hlen
  refine ⟨⟨A2, c2, hR.keep hk⟩, ⟨A, c, ?_⟩, h.own.keptT hk (by decide) (by decide), ?_, h.pw, ?_, h.ok, ?_, h.len, ?_⟩
  · rw [List.map_append, List.length_append]; subst hlen; exact hN
  · intro x hx
    rcases List.mem_append.1 hx with hx | hx
    · exact h.rown.keptT hk (by decide) (by decide) x hx
    · rw [List.mem_singleton] at hx; subst hx; exact own_mono hO hB
  · intro x hx y hy
    rcases List.mem_append.1 hy with hy | hy
    · exact h.sep x hx y hy
    · rw [List.mem_singleton] at hy; subst hy; exact ap_new (h.own x hx) (Nat.le_refl _) hO
  · intro x hx
    rcases List.mem_append.1 hx with hx | hx
    · exact h.rok x hx
    · rw [List.mem_singleton] at hx; subst hx; exact hsd
  · intro x hx
    rcases List.mem_append.1 hx with hx | hx
    · exact h.rlen x hx
    · rw [List.mem_singleton] at hx; subst hx; exact hl
end
end Go.Proofs.Ytengpfpeeihaoaa
