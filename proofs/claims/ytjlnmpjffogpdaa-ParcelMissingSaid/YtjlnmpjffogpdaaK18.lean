/- Repetitions struck from a row, side by side (what slices.CompactFunc does, plain); the end of a row cleared and cut off. -/
import Derived.Test.YtjlnmpjffogpdaaK14
import Derived.Test.YtjlnmpjffogpdaaK15
import Derived.Test.YtjlnmpjffogpdaaK12
import Derived.Test.YtjlnmpjffogpdaaK17
namespace Go.Proofs.Ytjlnmpjffogpdaa
open Go.RowKit
set_option linter.unusedVariables false
set_option linter.unusedSimpArgs false
set_option linter.unusedSectionVars false
attribute [local go_sem ↓] Go.wp_at_zero Go.wp_at_succ

section
variable {α β : Type} [RowT α] [DecidableEq β] {V : α → β} {d dk : Array α} {k j : Nat}
theorem compO_take (hj : 1 ≤ j) (hn : j < d.size) : compO ((d.toList.take (j + 1)).map V) = if V d[j]! = V d[j - 1]! then compO ((d.toList.take j).map V) else compO ((d.toList.take j).map V) ++ [V d[j]!] := by
  obtain ⟨i, rfl⟩ : ∃ i, j = i + 1 := ⟨j - 1, by omega⟩
  have e1 := take_nthG (L := d.toList) (k := i + 1) (by simpa using hn)
  have e2 := take_nthG (L := d.toList) (k := i) (by simp; omega)
  rw [e1, e2, List.map_append, List.map_append, List.map_cons, List.map_nil, List.map_cons, List.map_nil, List.append_assoc, arr_nth, arr_nth]
  simp only [Nat.add_sub_cancel, List.cons_append, List.nil_append]
  exact compO_snoc _ _ _
/-- no repetition among the first k -/
structure Cm1 (V : α → β) (d : Array α) (k : Nat) : Prop where
  pos : 1 ≤ k
  le : k ≤ d.size
  val : compO ((d.toList.take k).map V) = (d.toList.take k).map V
/-- the first k of dk are what is left of the first j of d -/
structure Cmp (V : α → β) (d dk : Array α) (k j : Nat) : Prop where
  size : dk.size = d.size
  pos : 1 ≤ k
  kj : k < j
  jn : j ≤ d.size
  rest : ∀ i, k ≤ i → dk[i]! = d[i]!
  val : (dk.toList.take k).map V = compO ((d.toList.take j).map V)
theorem Cm1.start (h : 1 ≤ d.size) : Cm1 V d 1 := ⟨Nat.le_refl _, h, by
  have e := take_nthG (L := d.toList) (k := 0) (by simp; omega)
  rw [e]; rfl⟩
theorem Cm1.next (h : Cm1 V d k) (hk : k < d.size) (hv : V d[k]! ≠ V d[k - 1]!) : Cm1 V d (k + 1) := ⟨by omega, hk, by
  rw [compO_take h.pos hk, if_neg hv, h.val, take_nthG (L := d.toList) (k := k) (by simpa using hk), List.map_append, arr_nth]; rfl⟩
theorem Cm1.dup (h : Cm1 V d k) (hk : k < d.size) (hv : V d[k]! = V d[k - 1]!) : Cmp V d d k (k + 1) := ⟨rfl, h.pos, by omega, hk, fun _ _ => rfl, by rw [compO_take h.pos hk, if_pos hv, h.val]⟩
theorem Cm1.all (h : Cm1 V d k) (hk : d.size ≤ k) : d.toList.map V = compO (d.toList.map V) := by
  have := h.val
  rw [List.take_of_length_le (by simpa using hk)] at this
  exact this.symm
theorem Cmp.dup (h : Cmp V d dk k j) (hj : j < d.size) (hv : V d[j]! = V d[j - 1]!) : Cmp V d dk k (j + 1) := ⟨h.size, h.pos, by have := h.kj; omega, hj, h.rest, by rw [compO_take (by have := h.kj; omega) hj, if_pos hv]; exact h.val⟩
theorem Cmp.keep (h : Cmp V d dk k j) (hj : j < d.size) (hv : V d[j]! ≠ V d[j - 1]!) : Cmp V d (dk.setIfInBounds k d[j]!) (k + 1) (j + 1) := by
  have hkj := h.kj
  have hk : k < dk.size := by rw [h.size]; omega
  refine ⟨by rw [Array.size_setIfInBounds]; exact h.size, by omega, by omega, hj, fun i hi => ?_, ?_⟩
  · rw [← h.rest i (by omega)]
    by_cases hs : i < dk.size
    · rw [getElem!_pos _ i (by simpa using hs), getElem!_pos dk i hs, Array.getElem_setIfInBounds (by simpa using hs), if_neg (by omega)]
    · rw [getElem!_neg _ i (by simpa using hs), getElem!_neg dk i hs]
  · rw [compO_take (by omega) hj, if_neg hv, ← h.val, Array.toList_setIfInBounds, take_nthG (k := k) (by simpa using hk), List.take_set_of_le (Nat.le_refl _), List.map_append]
    congr 1
    rw [show nthG (dk.toList.set k d[j]!) k = d[j]! from by simp [nthG, hk]]; rfl
theorem Cmp.all (h : Cmp V d dk k j) (hj : d.size ≤ j) : (dk.toList.take k).map V = compO (d.toList.map V) := by
  have := h.val
  rw [List.take_of_length_le (show (d.toList).length ≤ j by simpa using hj)] at this
  exact this
end
theorem run_clearG {P : Program} {t e : TypeId} {z : Value} {size bytes : Nat} (E : Elem P t e z size bytes) (hz1 : ∀ v ∈ z.cells, v.oneCell' = true) (w : World) (ty : TypeId) (g o n c : Nat) (hn : 0 < n) (hc : ∀ j, j < n * size → (w.cell? ⟨g, o + j, none⟩).isSome = true) (hf : ∀ j, j < n * size → w.frozen? ⟨g, o + j, none⟩ = false) :
    (Builtin.clear_ #[t] ty #[.slice (some ⟨g, o, none⟩) n c]).run P w = .ok (.tuple #[]) (w.setCells g o (Builtin.zeroCells z.cells n).toList) := by
  obtain ⟨i, hi, hz, hsz, hby⟩ := E.get
  have hlen : (Builtin.zeroCells z.cells n).toList.length = n * size := by rw [Array.length_toList, size_zeroCells, E.zs]
  have h1 : ∀ v ∈ (Builtin.zeroCells z.cells n).toList, v.oneCell' = true := by
    intro v hv
    simp only [Builtin.zeroCells, Array.toList_map, List.mem_map] at hv
    obtain ⟨q, _, rfl⟩ := hv
    have hp : 0 < z.cells.size := by rw [E.zs]; exact E.pos
    have hq : q % z.cells.size < z.cells.size := Nat.mod_lt _ hp
    rw [getElem!_pos z.cells _ hq]
    exact hz1 _ (Array.getElem_mem hq)
  have hst := run_storeCells_cells (P := P) g o (Builtin.zeroCells z.cells n).toList 0 w (fun j hj => by rw [hlen] at hj; simpa using hc j hj) (fun j hj => by rw [hlen] at hj; simpa using hf j hj) h1
  simp only [Nat.add_zero] at hst
  obtain ⟨m, rfl⟩ : ∃ m, n = m + 1 := ⟨n - 1, by omega⟩
  simp [Builtin.clear_, run_underlying E.ut, zeroValue, typeInfo, hi, hz, hst]
section
variable {α : Type} [RowT α] [RowB α] {w0 w : World} {base n c : Nat} {e : TypeId} {A : Option Addr} {d : Array α}
theorem RowS.cutClear (h : RowS w0 w base e A n c d) {g : Nat} (hA : A = some ⟨g, 0, none⟩) {k : Nat} (hk : k ≤ n) (ys : List Value) : RowS w0 (w.setCells g (k * RowT.sz α) ys) base e A k c (d.toList.take k).toArray := by
  have ho := h.own
  subst hA
  obtain ⟨xs', k1, k2, k3⟩ := own_over ys (k * RowT.sz α) w (gcs d.toList) ho
  have h2 := own_cut k1 hk (by simp)
  rw [k2, gcs_take] at h2
  exact ⟨h2, fun x hx => RowB.kept _ _ _ _ _ _ _ _ _ _ _ (h.ow x (List.mem_of_mem_take hx)) ho h.ne k3, Grown.trans h.gr k3, h.ne⟩
theorem RowS.clearOk (h : RowS w0 w base e A n c d) {g : Nat} (hA : A = some ⟨g, 0, none⟩) {k : Nat} (hk : k ≤ n) : (∀ j, j < (n - k) * RowT.sz α → (w.cell? ⟨g, k * RowT.sz α + j, none⟩).isSome = true) ∧ ∀ j, j < (n - k) * RowT.sz α → w.frozen? ⟨g, k * RowT.sz α + j, none⟩ = false := by
  have hl := h.own.1
  have ho := h.own
  have he : k * RowT.sz α + (n - k) * RowT.sz α = n * RowT.sz α := by rw [← Nat.add_mul]; congr 1; omega
  subst hA
  exact ⟨fun j hj => by rw [ho.cellAt (k * RowT.sz α + j) (by omega), List.getElem?_eq_getElem (by omega)]; rfl, fun j hj => ho.frozenAt _⟩
end
end Go.Proofs.Ytjlnmpjffogpdaa

/- A sorted row without its repetitions is the ascending row (plain). -/
namespace Go.Proofs.Ytjlnmpjffogpdaa
open Go.RowKit
set_option linter.unusedVariables false
set_option linter.unusedSimpArgs false
set_option linter.unusedSectionVars false
section
variable {α β : Type} [RowT α] [DecidableEq β] {V : α → β} {lt0 : α → α → Bool} {lt : β → β → Bool} {d d' : Array α} {n : Nat}
theorem wsc_of (hlt : ∀ x y, lt0 x y = lt (V x) (V y)) (hn : d'.size = n) (hs : Sort.SortedIn lt0 0 n d') : Wsc lt (d'.toList.map V) := by
  unfold Wsc
  rw [List.pairwise_iff_getElem]
  intro i j hi hj hij
  simp only [List.length_map, Array.length_toList] at hi hj
  have := hs i j (Nat.zero_le _) hij (by omega)
  rw [hlt, getElem!_pos d' i hi, getElem!_pos d' j hj] at this
  simpa using this
theorem mem_of_perm (hd : d.size = n) (hp : Sort.PermIn 0 n d d') (y : β) : y ∈ d'.toList.map V ↔ y ∈ d.toList.map V := by
  obtain ⟨h1, h2, h3⟩ := hp
  have e1 : d'.extract 0 n = d' := by rw [← hd, ← h1]; exact Array.extract_size
  have e2 : d.extract 0 n = d := by rw [← hd]; exact Array.extract_size
  rw [e1, e2] at h3
  exact (h3.map V).mem_iff
theorem canon_of_sorted (hS : STO lt) (hlt : ∀ x y, lt0 x y = lt (V x) (V y)) (hd : d.size = n) (hp : Sort.PermIn 0 n d d') (hs : Sort.SortedIn lt0 0 n d') : compO (d'.toList.map V) = canonO lt (d.toList.map V) :=
  compO_canon hS (wsc_of hlt (by rw [hp.1, hd]) hs) (mem_of_perm hd hp)
end
end Go.Proofs.Ytjlnmpjffogpdaa

/- Views that came in, with the reach of all that lies in them. -/
namespace Go.Proofs.Ytjlnmpjffogpdaa
open Go.ChangeShapes Go.WideShapes Go.ChangeAt Go.RowKit Go.Deep
set_option linter.unusedVariables false
set_option linter.unusedSimpArgs false

theorem bytesSg88 : Try.prog.bytesOf 45 = 88 := by kernel_rfl
theorem bytesTe24 : Try.prog.bytesOf 33 = 24 := by kernel_rfl
/-- elements in memory, each with a property -/
theorem rows_P {α : Type} [RowT α] {w : World} {P : α → Prop} {b o : Nat} : ∀ (n : Nat), (∀ j, j < n → ∃ y : α, w.rangeAt b (o + j * RowT.sz α) (RowT.enc y) ∧ P y) → ∃ L : List α, L.length = n ∧ w.rangeAt b o (gcs L) ∧ ∀ R, R ∈ L → P R := by
  intro n
  induction n with
  | zero => intro _; exact ⟨[], rfl, fun j v hv => by simp [gcs] at hv, fun R hR => by cases hR⟩
  | succ n ih =>
    intro h
    obtain ⟨L, hL, hr, hok⟩ := ih (fun j hj => h j (by omega))
    obtain ⟨y, hy, hyo⟩ := h n (by omega)
    refine ⟨L ++ [y], by simp [hL], ?_, ?_⟩
    · rw [gcs_append, gcs_one]
      refine rangeAt_append hr ?_
      rw [gcs_length, hL]; exact hy
    · intro R hR
      rcases List.mem_append.1 hR with hR | hR
      · exact hok R hR
      · rw [List.mem_singleton.1 hR]; exact hyo
theorem weightsAll_memZ {H : Type} {P : Program} {e : TypeId} : ∀ {l : List (DataW H)} {d : DataW H}, d ∈ l → ∀ n ∈ d.weights P e, n ∈ DataW.weightsAll P e l
  | d' :: r, d, hd, n, hn => by
    simp only [DataW.weightsAll, List.mem_append]
    rcases List.mem_cons.1 hd with rfl | h
    · exact Or.inl hn
    · exact Or.inr (weightsAll_memZ h n hn)
section
variable {H : Type} {enc : TypeId × Value → H} {w : World} {base fuel : Nat} {held : Bool} {cs : List Value} {x : DataW H × List MemPlace}
/-- all that lies in it is within reach -/
def InReach (d : DataW H) (t : TypeId) : Prop := ∀ n ∈ d.weights Try.prog t, n ≤ reachBytes
/-- a slice of elements that came in -/
theorem open_rowsZ {α : Type} [RowT α] {t e : TypeId} {Q : α → Prop} (ht : Try.prog.underlying t = some (.slice e)) (hsz : Try.prog.cellsOf e = RowT.sz α) (hby : 0 < Try.prog.bytesOf e)
    (hel : ∀ {fuel : Nat} {cs : List Value} {x : DataW H × List MemPlace}, DataW.trod enc Try.prog w base (fun _ => true) held fuel e cs = some x → InReach x.1 e → ∃ y : α, cs = RowT.enc y ∧ RowT.ok y w ∧ Q y)
    (hone : ∀ (y : α) (a : Addr) (v : Value), (RowT.enc y)[0]? = some v → w.cell? a = some v → a.spot = none)
    (h : DataW.trod enc Try.prog w base (fun _ => true) held fuel t cs = some x) (hx : InReach x.1 t) : ∃ A n c, ∃ L : List α, cs = [.slice A n c] ∧ SlG w A n c L ∧ n ≤ 140737488351232 ∧ ∀ y ∈ L, Q y := by
  rcases open_slice ht h with ⟨hcs, _⟩ | ⟨x, l, c', m, n, D, Pl, hcs, _, hl, hm, hmm, hxx, hi⟩
  · exact ⟨none, 0, 0, [], hcs, SlG.nil w, by omega, fun y hy => by cases hy⟩
  · rw [if_pos rfl] at hmm
    subst hmm
    rw [hxx] at hx
    unfold InReach at hx
    simp only [DataW.weights, ht] at hx
    have hn : l ≤ 140737488351232 := by
      have h1 := hx _ (List.mem_cons_self ..)
      simp only [List.length_map, List.length_range] at h1
      have hr : reachBytes = 140737488351232 := rfl
      have h2 : l * 1 ≤ (l + (m - l)) * Try.prog.bytesOf e := Nat.mul_le_mul (by omega) hby
      omega
    have hcell : ∀ j, j < l → ∃ y : α, (∀ q v, (RowT.enc y)[q]? = some v → w.cell? ((x.add (j * RowT.sz α)).add q) = some v) ∧ RowT.ok y w ∧ Q y := by
      intro j hj
      obtain ⟨cs', hc, ht⟩ := hi j (by omega)
      obtain ⟨y, rfl, hyo, hyq⟩ := hel ht (fun k hk => hx k (List.mem_cons_of_mem _ (List.mem_append_left _ (weightsAll_memZ (List.mem_map.2 ⟨j, List.mem_range.2 hj, rfl⟩) k hk))))
      rw [hsz] at hc
      obtain ⟨_, hln, hat⟩ := World.cells?_some hc
      refine ⟨y, fun q v hv => ?_, hyo, hyq⟩
      have hq := (List.getElem?_eq_some_iff.1 hv).1
      have := hat q (by rw [RowT.len] at hq; omega)
      rw [this, hv]
    rcases Nat.eq_zero_or_pos l with rfl | h0
    · exact ⟨_, 0, _, [], hcs, ⟨rfl, Nat.zero_le _, by unfold maxLen at hm; omega, .nil, fun R hR => by cases hR⟩, by omega, fun y hy => by cases hy⟩
    · have hx : x.spot = none := by
        obtain ⟨y, hy, _⟩ := hcell 0 h0
        have hp : 0 < (RowT.enc y).length := by rw [RowT.len]; exact RowT.pos
        have := hy 0 _ (List.getElem?_eq_getElem hp)
        have e0 : ((x.add (0 * RowT.sz α)).add 0) = x := by simp [Addr.add]
        rw [e0] at this
        exact hone y x _ (List.getElem?_eq_getElem hp) this
      obtain ⟨bl, ol, sp⟩ := x
      simp only at hx
      subst hx
      obtain ⟨L, hL, hr, hok⟩ := rows_P (α := α) (w := w) (P := fun y => RowT.ok y w ∧ Q y) (b := bl) (o := ol) l (fun j hj => by
        obtain ⟨y, hy, hyo⟩ := hcell j hj
        refine ⟨y, fun q v hv => ?_, hyo⟩
        have := hy q v hv
        rwa [Addr.add_mid, Addr.add_mid] at this)
      exact ⟨_, l, _, L, hcs, ⟨hL, hl, by unfold maxLen at hm; omega, .inr ⟨bl, ol, rfl, hr⟩, fun R hR => (hok R hR).1⟩, hn, fun R hR => (hok R hR).2⟩
/-- a row of bytes that came in -/
theorem open_rowBZ (h : DataW.trod enc Try.prog w base (fun _ => true) held fuel 33 cs = some x) (hx : InReach x.1 33) : ∃ a n c l, cs = [.slice a n c] ∧ SlB w a n c l ∧ n ≤ 140737488351232 := by
  obtain ⟨a, n, c, l, hcs, hs⟩ := open_rowB h
  refine ⟨a, n, c, l, hcs, hs, ?_⟩
  rcases open_slice Try.underlying33 h with ⟨h1, _⟩ | ⟨y, len, cap, m, k, D, Pl, h1, _, hl, hm, hmm, hxx, hi⟩
  · rw [hcs] at h1; injection h1 with h1; injection h1 with _ h1; omega
  · rw [hcs] at h1
    injection h1 with h1
    injection h1 with _ h1
    rw [hxx] at hx
    unfold InReach at hx
    simp only [DataW.weights, Try.underlying33, bytesB1] at hx
    have h2 := hx _ (List.mem_cons_self ..)
    simp only [List.length_map, List.length_range] at h2
    have hr : reachBytes = 140737488351232 := rfl
    omega
theorem reach_part {t : TypeId} {fs : Array Field} {parts : List (DataW H)} {j : Nat} {f : Field} {d : DataW H} (hu : Try.prog.underlying t = some (.struct fs)) (hx : InReach (.agg parts) t) (hf : fs[j]? = some f) (hd : parts[j]? = some d) : InReach d f.type := fun n hn => by
  refine hx n ?_
  simp only [DataW.weights, hu]
  exact DataW.weights_mem_each (j := j) (by rw [List.getElem?_map, Array.getElem?_toList, hf]; rfl) hd n hn
set_option maxRecDepth 100000 in
theorem open_sgcZ (h : DataW.trod enc Try.prog w base (fun _ => true) held fuel 45 cs = some x) (hx : InReach x.1 45) : ∃ S : SgR, cs = sgL S ∧ S.ok w ∧ S.n ≤ 140737488351232 := by
  obtain ⟨S, hcs, hok⟩ := open_sgc h
  refine ⟨S, hcs, hok, ?_⟩
  obtain ⟨xs, m, _, hxx, hl, hxl, hg⟩ := DataW.trod_struct Try.underlying45 h
  rw [hxx] at hx
  obtain ⟨x0, x1, rfl⟩ := list2 (show xs.length = 2 from hxl)
  have h1 : DataW.trod enc Try.prog w base (fun _ => true) held m 33 ((cs.drop 22).take (Try.prog.cellsOf 33)) = some x1 := hg 1 _ rfl
  rw [cellsSB, hcs] at h1
  obtain ⟨a, n, c, l, e, _, hn⟩ := open_rowBZ h1 (reach_part (j := 1) Try.underlying45 hx rfl rfl)
  have e2 : (List.take 1 (List.drop 22 (sgL S))) = [.slice S.A S.n S.c] := rfl
  rw [e2] at e
  injection e with e
  injection e with _ e
  omega
theorem open_tecZ (h : DataW.trod enc Try.prog w base (fun _ => true) held fuel 33 cs = some x) (hx : InReach x.1 33) : ∃ T : TeR, cs = teL T ∧ T.ok w ∧ T.n ≤ 140737488351232 := by
  obtain ⟨A, n, c, l, e, hs, hn⟩ := open_rowBZ h hx
  exact ⟨⟨A, n, c, l⟩, e, hs, hn⟩
theorem open_sgsZ (h : DataW.trod enc Try.prog w base (fun _ => true) held fuel 29 cs = some x) (hx : InReach x.1 29) : ∃ A n c, ∃ L : List SgR, cs = [.slice A n c] ∧ SlG w A n c L ∧ n ≤ 140737488351232 ∧ ∀ S ∈ L, S.n ≤ 140737488351232 :=
  open_rowsZ (Q := fun S : SgR => S.n ≤ 140737488351232) Try.underlying29 cellsSg23 (by rw [bytesSg88]; decide) (fun h hx => open_sgcZ h hx) (fun y a v hv hc => by have e := Option.some.inj hv; subst e; exact spot_none' hc) h hx
theorem open_tesZ (h : DataW.trod enc Try.prog w base (fun _ => true) held fuel 30 cs = some x) (hx : InReach x.1 30) : ∃ A n c, ∃ L : List TeR, cs = [.slice A n c] ∧ SlG w A n c L ∧ n ≤ 140737488351232 ∧ ∀ T ∈ L, T.n ≤ 140737488351232 :=
  open_rowsZ (Q := fun T : TeR => T.n ≤ 140737488351232) Try.underlying30 cellsSB (by rw [bytesTe24]; decide) (fun h hx => open_tecZ h hx) (fun y a v hv hc => spot_slice (by have e := Option.some.inj hv; subst e; exact hc)) h hx
/-- what is known of a view's sizes -/
structure VwZ (n m : Nat) (L : List SgR) (X : List TeR) : Prop where
  n : n ≤ 140737488351232
  m : m ≤ 140737488351232
  s : ∀ S ∈ L, S.n ≤ 140737488351232
  t : ∀ T ∈ X, T.n ≤ 140737488351232
set_option maxRecDepth 100000 in
theorem open_vwcZ (h : DataW.trod enc Try.prog w base (fun _ => true) held fuel 32 cs = some x) (hx : InReach x.1 32) : ∃ A n c, ∃ L : List SgR, ∃ B m d, ∃ X : List TeR, cs = [.slice A n c, .slice B m d] ∧ SlG w A n c L ∧ SlG w B m d X ∧ VwZ n m L X := by
  obtain ⟨xs, m, _, hxx, hl, hxl, hg⟩ := DataW.trod_struct Try.underlying32 h
  rw [cellsVw2] at hl
  rw [hxx] at hx
  obtain ⟨x0, x1, rfl⟩ := list2 (show xs.length = 2 from hxl)
  have h0 : DataW.trod enc Try.prog w base (fun _ => true) held m 29 ((cs.drop 0).take (Try.prog.cellsOf 29)) = some x0 := hg 0 _ rfl
  rw [cellsSSg1] at h0
  have h1 : DataW.trod enc Try.prog w base (fun _ => true) held m 30 ((cs.drop 1).take (Try.prog.cellsOf 30)) = some x1 := hg 1 _ rfl
  rw [cellsSTe1] at h1
  obtain ⟨A, n, c, L, e0, w0, z0, y0⟩ := open_sgsZ h0 (reach_part (j := 0) Try.underlying32 hx rfl rfl)
  obtain ⟨B, m2, d, X, e1, w1, z1, y1⟩ := open_tesZ h1 (reach_part (j := 1) Try.underlying32 hx rfl rfl)
  refine ⟨A, n, c, L, B, m2, d, X, ?_, w0, w1, z0, z1, y0, y1⟩
  have e : cs = cs.drop 0 := rfl
  rw [e, cut_at cs (0) 1, e0, cut_at cs (0 + 1) 1, e1, List.drop_of_length_le (by omega)]
  rfl
end
set_option maxRecDepth 100000 in
/-- a view that came in, within reach -/
theorem open_viewZ {H : Type} {enc : TypeId × Value → H} {W : World} {base b0 : Nat} {held : Bool} {v : Value} {d : DataW H} {q : List MemPlace} {ts : List TypeId} {ds : List (DataW H)} {j : Nat} (hsz : (DataW.weightsEach Try.prog ts ds).all (· ≤ reachBytes) = true) (ht : ts[j]? = some 32) (hd : ds[j]? = some d) (hv : Value.okWide Try.prog W .any b0 32 v)
    (h : DataW.Trod enc Try.prog W base (fun _ => true) held 32 v d q) : ∃ A n c, ∃ L : List SgR, ∃ B m d, ∃ X : List TeR, v = .agg (vwA A n c B m d) ∧ SlG W A n c L ∧ SlG W B m d X ∧ VwZ n m L X := by
  obtain ⟨fuel, hf⟩ := h
  simp only [Value.okWide, Try.underlying32] at hv
  obtain ⟨cs, rfl, _, _⟩ := hv
  obtain ⟨A, n, c, L, B, m, d, X, e, h1, h2, h3⟩ := open_vwcZ hf (fun k hk => by
    have := List.all_eq_true.1 hsz _ (DataW.weights_mem_each ht hd k hk)
    simpa using this)
  refine ⟨A, n, c, L, B, m, d, X, ?_, h1, h2, h3⟩
  congr 1
  apply Array.toList_inj.1
  exact e
end Go.Proofs.Ytjlnmpjffogpdaa
