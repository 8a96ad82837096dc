/- The calls, over two networks side by side. -/
import Derived.Test.YtengpfpeeihaoaaPl1
namespace Go.Proofs.Ytengpfpeeihaoaa
open Go.RowKit
set_option linter.unusedVariables false
set_option linter.unusedSimpArgs false

abbrev KP (w w' : World) : Prop := KeptT w w' 77 35
abbrev KR (w w' : World) : Prop := KeptT w w' 57 48
def nthX (X : List Rec) (i : Nat) : Rec := X.getD i (⟨0, 0, none, 0, 0⟩, [])
theorem nthX_map (X : List Rec) {i : Nat} (h : i < X.length) : nthP (X.map (·.1)) i = (nthX X i).1 := by
  unfold nthP nthX; simp [h]
theorem nthX_mem (X : List Rec) {i : Nat} (h : i < X.length) : nthX X i ∈ X := by
  unfold nthX; simp [h]
theorem nthX_get (X : List Rec) {i : Nat} (h : i < X.length) : X[i] = nthX X i := by
  unfold nthX; simp [h]
theorem keys_len {X Y : List Rec} (h : X.map Rec.key = Y.map Rec.key) : Y.length = X.length := by
  have := congrArg List.length h; simpa using this.symm
theorem keys_nth {X Y : List Rec} (h : X.map Rec.key = Y.map Rec.key) {i : Nat} (hi : i < X.length) : (nthX X i).key = (nthX Y i).key := by
  have hl := keys_len h
  have := congrArg (fun l : List (Int × Int × List UInt8) => l[i]?) h
  simp only [List.getElem?_map, List.getElem?_eq_getElem hi, List.getElem?_eq_getElem (show i < Y.length by omega), Option.map_some, Option.some.injEq] at this
  rwa [nthX_get X hi, nthX_get Y (by omega)] at this
theorem erase_map {α β : Type} (f : α → β) (l : List α) : ∀ i : Nat, (l.map f).eraseIdx i = (l.eraseIdx i).map f := by
  induction l with
  | nil => intro i; simp
  | cons a r ih => intro i; cases i with
    | zero => simp
    | succ i => simp [ih i]
theorem keys_erase {X Y : List Rec} (h : X.map Rec.key = Y.map Rec.key) (i : Nat) : (X.eraseIdx i).map Rec.key = (Y.eraseIdx i).map Rec.key := by
  rw [← erase_map, ← erase_map, h]
theorem keys_add {X Y : List Rec} (h : X.map Rec.key = Y.map Rec.key) {x y : Rec} (hxy : x.key = y.key) : (X ++ [x]).map Rec.key = (Y ++ [y]).map Rec.key := by
  simp [h, hxy]
theorem keys_set {X Y : List Rec} (h : X.map Rec.key = Y.map Rec.key) {x y : Rec} (hxy : x.key = y.key) (i : Nat) : (X.set i x).map Rec.key = (Y.set i y).map Rec.key := by
  rw [List.map_set, List.map_set, h, hxy]
theorem keys_filter {X Y : List Rec} (h : X.map Rec.key = Y.map Rec.key) (q : Int × Int × List UInt8 → Bool) : (X.filter (fun x => q x.key)).map Rec.key = (Y.filter (fun y => q y.key)).map Rec.key := by
  have e : ∀ Z : List Rec, (Z.filter (fun x => q x.key)).map Rec.key = (Z.map Rec.key).filter q := fun Z => by rw [List.filter_map]; rfl
  rw [e, e, h]
theorem map_filter (X : List Rec) (q : Pc → Bool) : (X.map (·.1)).filter q = (X.filter (fun x => q x.1)).map (·.1) := by rw [List.filter_map]; rfl
section
variable {w : World} {B b b2 : Nat} {p : Int} {X Y : List Rec}
theorem Play.B_le (h : Play w B b b2 p X Y) : B ≤ w.heap.size := by
  obtain ⟨A, c, hN⟩ := h.net
  have := hN.le; have := hN.blk.lt; omega
theorem Play.oks (h : Play w B b b2 p X Y) (hp : p ≤ 62) : ∀ x ∈ X.map (·.1), x.ok := fun x hx => by
  obtain ⟨y, hy, rfl⟩ := List.mem_map.1 hx
  obtain ⟨h1, h2, h3, h4⟩ := h.ok y hy
  exact ⟨h1, by omega, h3, by omega⟩
theorem Play.roks (h : Play w B b b2 p X Y) (hp : p ≤ 62) : ∀ x ∈ Y.map (·.1), x.ok := fun x hx => by
  obtain ⟨y, hy, rfl⟩ := List.mem_map.1 hx
  obtain ⟨h1, h2, h3, h4⟩ := h.rok y hy
  exact ⟨h1, by omega, h3, by omega⟩
theorem Play.small (h : Play w B b b2 p X Y) {i : Nat} (hi : i < X.length) : (nthX X i).1.n ≤ 1000 := by
  have h1 := (h.own _ (nthX_mem X hi)).sl.len
  have h2 := h.len _ (nthX_mem X hi)
  omega
theorem Play.rsmall (h : Play w B b b2 p X Y) {i : Nat} (hi : i < Y.length) : (nthX Y i).1.n ≤ 1000 := by
  have h1 := (h.rown _ (nthX_mem Y hi)).sl.len
  have h2 := h.rlen _ (nthX_mem Y hi)
  omega
theorem pSend (h : Play w B b b2 p X Y) (f t : Int) (a : Option Addr) (m k : Nat) (l : List UInt8) (hs : SlB w a m k l) (hm : m ≤ 1000) (hsd : sendable p f t) (hn : X.length < 4096) :
    Calls Try.prog 20 #[.pointer (some ⟨b, 0, none⟩), pcv f t a m k] w fun e w' => ∃ x : Rec, e = .returned (.int .i64 0) ∧ Play w' B b b2 p (X ++ [x]) Y ∧ x.key = (f, t, l) ∧ Below B w w' ∧ KP w w' := by
  obtain ⟨A, c, hN⟩ := h.net
  obtain ⟨h1, h2, h3, h4⟩ := hsd
  refine (send_ok B b p A X.length c _ f t a m k l w hN hs (by omega) h1 h2 h3 h4 hn).mono ?_
  rintro e w' ⟨a', k', A', c', rfl, hN', hO, hB, hK⟩
  have hk := hN.keptT hK
  exact ⟨_, rfl, h.add hN' hk hO h.B_le ⟨h1, h2, h3, h4⟩ (by have := hs.len; omega), rfl, hB, hk⟩
theorem rSend (h : Play w B b b2 p X Y) (f t : Int) (a : Option Addr) (m k : Nat) (l : List UInt8) (hs : SlB w a m k l) (hm : m ≤ 1000) (hsd : sendable p f t) (hn : Y.length < 4096) :
    Calls Try.prog 27 #[.pointer (some ⟨b2, 0, none⟩), pcv f t a m k] w fun e w' => ∃ y : Rec, e = .returned (.int .i64 0) ∧ Play w' B b b2 p X (Y ++ [y]) ∧ y.key = (f, t, l) ∧ Below B w w' ∧ KR w w' := by
  obtain ⟨A, c, hN⟩ := h.rnet
  obtain ⟨h1, h2, h3, h4⟩ := hsd
  refine (rsend_ok B b2 p A Y.length c _ f t a m k l w hN hs (by omega) h1 h2 h3 h4 hn).mono ?_
  rintro e w' ⟨a', k', A', c', rfl, hN', hO, hB, hK⟩
  have hk := hN.keptT hK
  exact ⟨_, rfl, h.radd hN' hk hO h.B_le ⟨h1, h2, h3, h4⟩ (by have := hs.len; omega), rfl, hB, hk⟩
theorem pSendNo (h : Play w B b b2 p X Y) (f t : Int) (a : Option Addr) (m k : Nat) (hsd : ¬ sendable p f t) :
    Calls Try.prog 20 #[.pointer (some ⟨b, 0, none⟩), pcv f t a m k] w fun e w' => e = .returned (.int .i64 1) ∧ Ext w w' := by
  obtain ⟨A, c, hN⟩ := h.net
  exact send_no B b p A X.length c _ f t a m k w hN hsd
theorem rSendNo (h : Play w B b b2 p X Y) (f t : Int) (a : Option Addr) (m k : Nat) (hsd : ¬ sendable p f t) :
    Calls Try.prog 27 #[.pointer (some ⟨b2, 0, none⟩), pcv f t a m k] w fun e w' => e = .returned (.int .i64 1) ∧ Ext w w' := by
  obtain ⟨A, c, hN⟩ := h.rnet
  exact rsend_no B b2 p A Y.length c _ f t a m k w hN hsd
theorem pTake (h : Play w B b b2 p X Y) (z : Int) (i : Nat) (hz : z = (i : Int)) (hi : i < X.length) (hn : X.length ≤ 4096) :
    Calls Try.prog 24 #[.pointer (some ⟨b, 0, none⟩), .int .i64 z] w fun e w' => ∃ a' c', e = .returned (.tuple #[pcv (nthX X i).1.f (nthX X i).1.t a' (nthX X i).1.n c', .bool true]) ∧ OwnB w' w.heap.size 5 a' (nthX X i).1.n c' (nthX X i).2 ∧ Play w' B b b2 p (X.eraseIdx i) Y ∧ Below B w w' ∧ KP w w' := by
  subst hz
  obtain ⟨A, c, hN⟩ := h.net
  have hsm := h.small hi
  have := take_ok i B b p A X.length c _ (nthX X i).2 w hN hi hn (by rw [nthX_map X hi]; exact (h.own _ (nthX_mem X hi)).sl) (by rw [nthX_map X hi]; omega)
  rw [nthX_map X hi] at this
  refine this.mono ?_
  rintro e w' ⟨a', c', rfl, hO, hN', hB, hK⟩
  have hk := hN.keptT hK
  rw [erase_map] at hN'
  exact ⟨a', c', rfl, hO, h.sub (List.eraseIdx_sublist ..) hN' hk, hB, hk⟩
theorem rTake (h : Play w B b b2 p X Y) (z : Int) (i : Nat) (hz : z = (i : Int)) (hi : i < Y.length) (hn : Y.length ≤ 4096) :
    Calls Try.prog 28 #[.pointer (some ⟨b2, 0, none⟩), .int .i64 z] w fun e w' => e = .returned (.tuple #[pcv (nthX Y i).1.f (nthX Y i).1.t (nthX Y i).1.a (nthX Y i).1.n (nthX Y i).1.c, .bool true]) ∧ SlB w' (nthX Y i).1.a (nthX Y i).1.n (nthX Y i).1.c (nthX Y i).2 ∧ Play w' B b b2 p X (Y.eraseIdx i) ∧ Below B w w' ∧ KR w w' := by
  subst hz
  obtain ⟨A, c, hN⟩ := h.rnet
  have := rtake_ok i B b2 p A Y.length c _ w hN hi hn
  rw [nthX_map Y hi] at this
  refine this.mono ?_
  rintro e w' ⟨A', c', rfl, hN', hB, hK⟩
  have hk := hN.keptT hK
  rw [erase_map] at hN'
  exact ⟨rfl, (h.rown.keptT hk (by decide) (by decide) _ (nthX_mem Y hi)).sl, h.rsub (List.eraseIdx_sublist ..) hN' hk, hB, hk⟩
theorem pTakeNo (h : Play w B b b2 p X Y) (z : Int) (hz : z < 0 ∨ (X.length : Int) ≤ z) (hn : X.length ≤ 4096) :
    Calls Try.prog 24 #[.pointer (some ⟨b, 0, none⟩), .int .i64 z] w fun e w' => e = .returned (.tuple #[pcv 0 0 none 0 0, .bool false]) ∧ Ext w w' := by
  obtain ⟨A, c, hN⟩ := h.net
  exact take_no z B b p A X.length c _ w hN hz hn
theorem rTakeNo (h : Play w B b b2 p X Y) (z : Int) (hz : z < 0 ∨ (Y.length : Int) ≤ z) (hn : Y.length ≤ 4096) :
    Calls Try.prog 28 #[.pointer (some ⟨b2, 0, none⟩), .int .i64 z] w fun e w' => e = .returned (.tuple #[pcv 0 0 none 0 0, .bool false]) ∧ Ext w w' := by
  obtain ⟨A, c, hN⟩ := h.rnet
  exact rtake_no z B b2 p A Y.length c _ w hN hz hn
theorem pDup (h : Play w B b b2 p X Y) (z : Int) (i : Nat) (hz : z = (i : Int)) (hi : i < X.length) (hn : X.length < 4096) :
    Calls Try.prog 22 #[.pointer (some ⟨b, 0, none⟩), .int .i64 z] w fun e w' => ∃ x : Rec, e = .returned (.int .i64 0) ∧ Play w' B b b2 p (X ++ [x]) Y ∧ x.key = (nthX X i).key ∧ Below B w w' ∧ KP w w' := by
  subst hz
  obtain ⟨A, c, hN⟩ := h.net
  have hsm := h.small hi
  have := duplicate_ok i B b p A X.length c _ (nthX X i).2 w hN hi hn (by rw [nthX_map X hi]; exact (h.own _ (nthX_mem X hi)).sl) (by rw [nthX_map X hi]; omega)
  rw [nthX_map X hi] at this
  refine this.mono ?_
  rintro e w' ⟨a', k', A', c', rfl, hN', hO, hB, hK⟩
  have hk := hN.keptT hK
  exact ⟨_, rfl, h.add hN' hk hO h.B_le (h.ok _ (nthX_mem X hi)) (h.len _ (nthX_mem X hi)), rfl, hB, hk⟩
theorem rDup (h : Play w B b b2 p X Y) (z : Int) (i : Nat) (hz : z = (i : Int)) (hi : i < Y.length) (hn : Y.length < 4096) :
    Calls Try.prog 30 #[.pointer (some ⟨b2, 0, none⟩), .int .i64 z] w fun e w' => ∃ x : Rec, e = .returned (.int .i64 0) ∧ Play w' B b b2 p X (Y ++ [x]) ∧ x.key = (nthX Y i).key ∧ Below B w w' ∧ KR w w' := by
  subst hz
  obtain ⟨A, c, hN⟩ := h.rnet
  have hsm := h.rsmall hi
  have := rdup_ok i B b2 p A Y.length c _ (nthX Y i).2 w hN hi hn (by rw [nthX_map Y hi]; exact (h.rown _ (nthX_mem Y hi)).sl) (by rw [nthX_map Y hi]; omega) (by rw [nthX_map Y hi]; exact h.rok _ (nthX_mem Y hi))
  rw [nthX_map Y hi] at this
  refine this.mono ?_
  rintro e w' ⟨a', k', A', c', rfl, hN', hO, hB, hK⟩
  have hk := hN.keptT hK
  exact ⟨_, rfl, h.radd hN' hk hO h.B_le (h.rok _ (nthX_mem Y hi)) (h.rlen _ (nthX_mem Y hi)), rfl, hB, hk⟩
theorem pDupNo (h : Play w B b b2 p X Y) (z : Int) (hz : z < 0 ∨ (X.length : Int) ≤ z) (hn : X.length ≤ 4096) :
    Calls Try.prog 22 #[.pointer (some ⟨b, 0, none⟩), .int .i64 z] w fun e w' => e = .returned (.int .i64 6) ∧ Ext w w' := by
  obtain ⟨A, c, hN⟩ := h.net
  exact duplicate_no z B b p A X.length c _ w hN hz hn
theorem rDupNo (h : Play w B b b2 p X Y) (z : Int) (hz : z < 0 ∨ (Y.length : Int) ≤ z) (hn : Y.length ≤ 4096) :
    Calls Try.prog 30 #[.pointer (some ⟨b2, 0, none⟩), .int .i64 z] w fun e w' => e = .returned (.int .i64 6) ∧ Ext w w' := by
  obtain ⟨A, c, hN⟩ := h.rnet
  exact (rdup_no z B b2 p A Y.length c _ w hN hz hn).mono fun e w' ⟨he, hw⟩ => ⟨he, hw ▸ Ext.refl _⟩
theorem pFlow (h : Play w B b b2 p X Y) (hp : p ≤ 62) (grp : Int) (hn : X.length ≤ 4096) :
    Calls Try.prog 32 #[.pointer (some ⟨b, 0, none⟩), .int .i64 grp] w fun e w' => ∃ A1 m1 c1, e = .returned (.slice A1 m1 c1) ∧ w'.ownsRow w.heap.size 35 3 (.slice A1 m1 c1) m1 (rowP ((X.filter (fun x => within grp x.1.f x.1.t)).map (·.1))) ∧ Play w' B b b2 p (X.filter (fun x => !within grp x.1.f x.1.t)) Y ∧ Has w' B X ∧ Below B w w' ∧ KP w w' := by
  obtain ⟨A, c, hN⟩ := h.net
  refine (flow_any grp B b p A X.length c _ w hN (h.oks hp) hn).mono ?_
  rintro e w' ⟨A1, m1, c1, m, rfl, hO, hN', hB, hK⟩
  have hk := hN.keptT hK
  rw [map_filter] at hO hN'
  exact ⟨A1, m1, c1, rfl, hO, h.sub List.filter_sublist hN' hk, h.own.keptT hk (by decide) (by decide), hB, hk⟩
theorem rFlow (h : Play w B b b2 p X Y) (hp : p ≤ 62) (grp : Int) (hn : Y.length ≤ 4096) :
    Calls Try.prog 33 #[.pointer (some ⟨b2, 0, none⟩), .int .i64 grp] w fun e w' => ∃ A1 m1 c1, e = .returned (.slice A1 m1 c1) ∧ w'.ownsRow w.heap.size 48 3 (.slice A1 m1 c1) m1 (rowP ((Y.filter (fun x => within grp x.1.f x.1.t)).map (·.1))) ∧ Play w' B b b2 p X (Y.filter (fun x => !within grp x.1.f x.1.t)) ∧ Has w' B Y ∧ Below B w w' ∧ KR w w' := by
  obtain ⟨A, c, hN⟩ := h.rnet
  refine (rflow_any grp B b2 p A Y.length c _ w hN (h.roks hp) hn).mono ?_
  rintro e w' ⟨A1, m1, c1, A2, m2, c2, rfl, hO, hN', hB, hK⟩
  have hk := hN.keptT hK
  rw [map_filter] at hO hN'
  exact ⟨A1, m1, c1, rfl, hO, h.rsub List.filter_sublist hN' hk, h.rown.keptT hk (by decide) (by decide), hB, hk⟩
theorem pDisc (h : Play w B b b2 p X Y) (hp : p ≤ 62) (grp : Int) (hn : X.length ≤ 4096) :
    Calls Try.prog 34 #[.pointer (some ⟨b, 0, none⟩), .int .i64 grp] w fun e w' => e = .returned (.int .i64 ((X.filter (fun x => between grp x.1.f x.1.t)).length : Int)) ∧ Play w' B b b2 p (X.filter (fun x => !between grp x.1.f x.1.t)) Y ∧ Below B w w' ∧ KP w w' := by
  obtain ⟨A, c, hN⟩ := h.net
  refine (discard_any grp B b p A X.length c _ w hN (h.oks hp) hn).mono ?_
  rintro e w' ⟨m, rfl, hN', hB, hK⟩
  have hk := hN.keptT hK
  rw [map_filter] at hN'
  exact ⟨by rw [map_filter, List.length_map], h.sub List.filter_sublist hN' hk, hB, hk⟩
theorem rDisc (h : Play w B b b2 p X Y) (hp : p ≤ 62) (grp : Int) (hn : Y.length ≤ 4096) :
    Calls Try.prog 35 #[.pointer (some ⟨b2, 0, none⟩), .int .i64 grp] w fun e w' => e = .returned (.int .i64 ((Y.filter (fun x => between grp x.1.f x.1.t)).length : Int)) ∧ Play w' B b b2 p X (Y.filter (fun x => !between grp x.1.f x.1.t)) ∧ Below B w w' ∧ KR w w' := by
  obtain ⟨A, c, hN⟩ := h.rnet
  refine (rdiscard_any grp B b2 p A Y.length c _ w hN (h.roks hp) hn).mono ?_
  rintro e w' ⟨A2, m2, c2, rfl, hN', hB, hK⟩
  have hk := hN.keptT hK
  rw [map_filter] at hN'
  exact ⟨by rw [map_filter, List.length_map], h.rsub List.filter_sublist hN' hk, hB, hk⟩
end
end Go.Proofs.Ytengpfpeeihaoaa
