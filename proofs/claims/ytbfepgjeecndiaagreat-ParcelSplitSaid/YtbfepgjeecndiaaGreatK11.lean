/- Views that came in, with the reach of all that lies in them. -/
import Derived.Test.YtbfepgjeecndiaaGreatK09
import Derived.Test.YtbfepgjeecndiaaGreatK10
namespace Go.Proofs.YtbfepgjeecndiaaGreat
set_option maxRecDepth 100000
open Go.ChangeShapes Go.WideShapes Go.ChangeAt Go.RowKit Go.Deep
set_option linter.unusedVariables false
set_option linter.unusedSimpArgs false
theorem bytesSg88 : Tryz.prog.bytesOf 48 = 88 := by kernel_rfl
theorem bytesTe24 : Tryz.prog.bytesOf 28 = 24 := by kernel_rfl
theorem rows_P {α : Type} [RowT α] {w : World} {P : α → Prop} {b o : Nat} : ∀ (n : Nat), (∀ j, j < n → ∃ y : α, w.rangeAt b (o + j * RowT.sz α) (RowT.enc y) ∧ P y) → ∃ L : List α, L.length = n ∧ w.rangeAt b o (gcs L) ∧ ∀ R, R ∈ L → P R := by
 intro n
 induction n with
 | zero => intro _; exact ⟨[], rfl, fun j v hv => by simp [gcs] at hv, fun R hR => by cases hR⟩
 | succ n ih =>
  intro h
  obtain ⟨L, hL, hr, hok⟩ := ih (fun j hj => h j (by omega))
  obtain ⟨y, hy, hyo⟩ := h n (by omega)
  refine ⟨L ++ [y], by simp [hL], ?_, ?_⟩
  ·rw [gcs_append, gcs_one]
   refine rangeAt_append hr ?_
   rw [gcs_length, hL]; exact hy
  ·intro R hR
   rcases List.mem_append.1 hR with hR | hR
   ·exact hok R hR
   ·rw [List.mem_singleton.1 hR]; exact hyo
theorem weightsAll_memZ {H : Type} {P : Program} {e : TypeId} : ∀ {l : List (DataW H)} {d : DataW H}, d ∈ l → ∀ n ∈ d.weights P e, n ∈ DataW.weightsAll P e l
 | d' :: r, d, hd, n, hn => by
  simp only [DataW.weightsAll, List.mem_append]
  rcases List.mem_cons.1 hd with rfl | h
  ·exact Or.inl hn
  ·exact Or.inr (weightsAll_memZ h n hn)
section
variable {H : Type} {enc : TypeId × Value → H} {w : World} {base fuel : Nat} {held : Bool} {cs : List Value} {x : DataW H × List MemPlace}
def InReach (d : DataW H) (t : TypeId) : Prop := ∀ n ∈ d.weights Tryz.prog t, n ≤ reachBytes
theorem open_rowsZ {α : Type} [RowT α] {t e : TypeId} {Q : α → Prop} (ht : Tryz.prog.underlying t = some (.slice e)) (hsz : Tryz.prog.cellsOf e = RowT.sz α) (hby : 0 < Tryz.prog.bytesOf e)
  (hel : ∀ {fuel : Nat} {cs : List Value} {x : DataW H × List MemPlace}, DataW.trod enc Tryz.prog w base (fun _ => true) held fuel e cs = some x → InReach x.1 e → ∃ y : α, cs = RowT.enc y ∧ RowT.ok y w ∧ Q y)
  (hone : ∀ (y : α) (a : Addr) (v : Value), (RowT.enc y)[0]? = some v → w.cell? a = some v → a.spot = none)
  (h : DataW.trod enc Tryz.prog w base (fun _ => true) held fuel t cs = some x) (hx : InReach x.1 t) : ∃ A n c, ∃ L : List α, cs = [.slice A n c] ∧ SlG w A n c L ∧ n ≤ 140737488351232 ∧ ∀ y ∈ L, Q y := by
 rcases open_slice ht h with ⟨hcs, _⟩ | ⟨x, l, c', m, n, D, Pl, hcs, _, hl, hm, hmm, hxx, hi⟩
 ·exact ⟨none, 0, 0, [], hcs, SlG.nil w, by omega, fun y hy => by cases hy⟩
 ·rw [if_pos rfl] at hmm
  subst hmm
  rw [hxx] at hx
  unfold InReach at hx
  simp only [DataW.weights, ht] at hx
  have hn : l ≤ 140737488351232 := by
   have h1 := hx _ (List.mem_cons_self ..)
   simp only [List.length_map, List.length_range] at h1
   have hr : reachBytes = 140737488351232 := rfl
   have h2 : l * 1 ≤ (l + (m - l)) * Tryz.prog.bytesOf e := Nat.mul_le_mul (by omega) hby
   omega
  have hcell : ∀ j, j < l → ∃ y : α, (∀ q v, (RowT.enc y)[q]? = some v → w.cell? ((x.add (j * RowT.sz α)).add q) = some v) ∧ RowT.ok y w ∧ Q y := by
   intro j hj
   obtain ⟨cs', hc, ht⟩ := hi j (by omega)
   obtain ⟨y, rfl, hyo, hyq⟩ := hel ht (fun k hk => hx k (List.mem_cons_of_mem _ (List.mem_append_left _ (weightsAll_memZ (List.mem_map.2 ⟨j, List.mem_range.2 hj, rfl⟩) k hk))))
   rw [hsz] at hc
   obtain ⟨_, hln, hat⟩ := World.cells?_some hc
   refine ⟨y, fun q v hv => ?_, hyo, hyq⟩
   have hq := (List.getElem?_eq_some_iff.1 hv).1
   have := hat q (by rw [RowT.len] at hq; omega)
   rw [this, hv]
  rcases Nat.eq_zero_or_pos l with rfl | h0
  ·exact ⟨_, 0, _, [], hcs, ⟨rfl, Nat.zero_le _, by unfold maxLen at hm; omega, .nil, fun R hR => by cases hR⟩, by omega, fun y hy => by cases hy⟩
  ·have hx : x.spot = none := by
    obtain ⟨y, hy, _⟩ := hcell 0 h0
    have hp : 0 < (RowT.enc y).length := by rw [RowT.len]; exact RowT.pos
    have := hy 0 _ (List.getElem?_eq_getElem hp)
    have e0 : ((x.add (0 * RowT.sz α)).add 0) = x := by simp [Addr.add]
    rw [e0] at this
    exact hone y x _ (List.getElem?_eq_getElem hp) this
   obtain ⟨bl, ol, sp⟩ := x
   simp only at hx
   subst hx
   obtain ⟨L, hL, hr, hok⟩ := rows_P (α := α) (w := w) (P := fun y => RowT.ok y w ∧ Q y) (b := bl) (o := ol) l (fun j hj => by
    obtain ⟨y, hy, hyo⟩ := hcell j hj
    refine ⟨y, fun q v hv => ?_, hyo⟩
    have := hy q v hv
    rwa [Addr.add_mid, Addr.add_mid] at this)
   exact ⟨_, l, _, L, hcs, ⟨hL, hl, by unfold maxLen at hm; omega, .inr ⟨bl, ol, rfl, hr⟩, fun R hR => (hok R hR).1⟩, hn, fun R hR => (hok R hR).2⟩
theorem open_rowBZ (h : DataW.trod enc Tryz.prog w base (fun _ => true) held fuel 28 cs = some x) (hx : InReach x.1 28) : ∃ a n c l, cs = [.slice a n c] ∧ SlB w a n c l ∧ n ≤ 140737488351232 := by
 obtain ⟨a, n, c, l, hcs, hs⟩ := open_rowB h
 refine ⟨a, n, c, l, hcs, hs, ?_⟩
 rcases open_slice Tryz.underlying28 h with ⟨h1, _⟩ | ⟨y, len, cap, m, k, D, Pl, h1, _, hl, hm, hmm, hxx, hi⟩
 ·rw [hcs] at h1; injection h1 with h1; injection h1 with _ h1; omega
 ·rw [hcs] at h1
  injection h1 with h1
  injection h1 with _ h1
  rw [hxx] at hx
  unfold InReach at hx
  simp only [DataW.weights, Tryz.underlying28, bytesB1] at hx
  have h2 := hx _ (List.mem_cons_self ..)
  simp only [List.length_map, List.length_range] at h2
  have hr : reachBytes = 140737488351232 := rfl
  omega
theorem reach_part {t : TypeId} {fs : Array Field} {parts : List (DataW H)} {j : Nat} {f : Field} {d : DataW H} (hu : Tryz.prog.underlying t = some (.struct fs)) (hx : InReach (.agg parts) t) (hf : fs[j]? = some f) (hd : parts[j]? = some d) : InReach d f.type := fun n hn => by
 refine hx n ?_
 simp only [DataW.weights, hu]
 exact DataW.weights_mem_each (j := j) (by rw [List.getElem?_map, Array.getElem?_toList, hf]; rfl) hd n hn
theorem open_sgcZ (h : DataW.trod enc Tryz.prog w base (fun _ => true) held fuel 48 cs = some x) (hx : InReach x.1 48) : ∃ S : SgR, cs = sgL S ∧ S.ok w ∧ S.n ≤ 140737488351232 := by
 obtain ⟨S, hcs, hok⟩ := open_sgc h
 refine ⟨S, hcs, hok, ?_⟩
 obtain ⟨xs, m, _, hxx, hl, hxl, hg⟩ := DataW.trod_struct Tryz.underlying48 h
 rw [hxx] at hx
 obtain ⟨x0, x1, rfl⟩ := list2 (show xs.length = 2 from hxl)
 have h1 : DataW.trod enc Tryz.prog w base (fun _ => true) held m 28 ((cs.drop 22).take (Tryz.prog.cellsOf 28)) = some x1 := hg 1 _ rfl
 rw [cellsSB, hcs] at h1
 obtain ⟨a, n, c, l, e, _, hn⟩ := open_rowBZ h1 (reach_part (j := 1) Tryz.underlying48 hx rfl rfl)
 have e2 : (List.take 1 (List.drop 22 (sgL S))) = [.slice S.A S.n S.c] := rfl
 rw [e2] at e
 injection e with e
 injection e with _ e
 omega
theorem open_tecZ (h : DataW.trod enc Tryz.prog w base (fun _ => true) held fuel 28 cs = some x) (hx : InReach x.1 28) : ∃ T : TeR, cs = teL T ∧ T.ok w ∧ T.n ≤ 140737488351232 := by
 obtain ⟨A, n, c, l, e, hs, hn⟩ := open_rowBZ h hx
 exact ⟨⟨A, n, c, l⟩, e, hs, hn⟩
theorem open_sgsZ (h : DataW.trod enc Tryz.prog w base (fun _ => true) held fuel 22 cs = some x) (hx : InReach x.1 22) : ∃ A n c, ∃ L : List SgR, cs = [.slice A n c] ∧ SlG w A n c L ∧ n ≤ 140737488351232 ∧ ∀ S ∈ L, S.n ≤ 140737488351232 :=
 open_rowsZ (Q := fun S : SgR => S.n ≤ 140737488351232) Tryz.underlying22 cellsSg23 (by rw [bytesSg88]; decide) (fun h hx => open_sgcZ h hx) (fun y a v hv hc => by have e := Option.some.inj hv; subst e; exact spot_none' hc) h hx
theorem open_tesZ (h : DataW.trod enc Tryz.prog w base (fun _ => true) held fuel 23 cs = some x) (hx : InReach x.1 23) : ∃ A n c, ∃ L : List TeR, cs = [.slice A n c] ∧ SlG w A n c L ∧ n ≤ 140737488351232 ∧ ∀ T ∈ L, T.n ≤ 140737488351232 :=
 open_rowsZ (Q := fun T : TeR => T.n ≤ 140737488351232) Tryz.underlying23 cellsSB (by rw [bytesTe24]; decide) (fun h hx => open_tecZ h hx) (fun y a v hv hc => spot_slice (by have e := Option.some.inj hv; subst e; exact hc)) h hx
structure VwZ (n m : Nat) (L : List SgR) (X : List TeR) : Prop where
 n : n ≤ 140737488351232
 m : m ≤ 140737488351232
 s : ∀ S ∈ L, S.n ≤ 140737488351232
 t : ∀ T ∈ X, T.n ≤ 140737488351232
theorem open_vwcZ (h : DataW.trod enc Tryz.prog w base (fun _ => true) held fuel 25 cs = some x) (hx : InReach x.1 25) : ∃ A n c, ∃ L : List SgR, ∃ B m d, ∃ X : List TeR, cs = [.slice A n c, .slice B m d] ∧ SlG w A n c L ∧ SlG w B m d X ∧ VwZ n m L X := by
 obtain ⟨xs, m, _, hxx, hl, hxl, hg⟩ := DataW.trod_struct Tryz.underlying25 h
 rw [cellsVw2] at hl
 rw [hxx] at hx
 obtain ⟨x0, x1, rfl⟩ := list2 (show xs.length = 2 from hxl)
 have h0 : DataW.trod enc Tryz.prog w base (fun _ => true) held m 22 ((cs.drop 0).take (Tryz.prog.cellsOf 22)) = some x0 := hg 0 _ rfl
 rw [cellsSSg1] at h0
 have h1 : DataW.trod enc Tryz.prog w base (fun _ => true) held m 23 ((cs.drop 1).take (Tryz.prog.cellsOf 23)) = some x1 := hg 1 _ rfl
 rw [cellsSTe1] at h1
 obtain ⟨A, n, c, L, e0, w0, z0, y0⟩ := open_sgsZ h0 (reach_part (j := 0) Tryz.underlying25 hx rfl rfl)
 obtain ⟨B, m2, d, X, e1, w1, z1, y1⟩ := open_tesZ h1 (reach_part (j := 1) Tryz.underlying25 hx rfl rfl)
 refine ⟨A, n, c, L, B, m2, d, X, ?_, w0, w1, z0, z1, y0, y1⟩
 have e : cs = cs.drop 0 := rfl
 rw [e, cut_at cs (0) 1, e0, cut_at cs (0 + 1) 1, e1, List.drop_of_length_le (by omega)]
 rfl
end
theorem open_viewZ {H : Type} {enc : TypeId × Value → H} {W : World} {base b0 : Nat} {held : Bool} {v : Value} {d : DataW H} {q : List MemPlace} {ts : List TypeId} {ds : List (DataW H)} {j : Nat} (hsz : (DataW.weightsEach Tryz.prog ts ds).all (· ≤ reachBytes) = true) (ht : ts[j]? = some 25) (hd : ds[j]? = some d) (hv : Value.okWide Tryz.prog W .any b0 25 v)
  (h : DataW.Trod enc Tryz.prog W base (fun _ => true) held 25 v d q) : ∃ A n c, ∃ L : List SgR, ∃ B m d, ∃ X : List TeR, v = .agg (vwA A n c B m d) ∧ SlG W A n c L ∧ SlG W B m d X ∧ VwZ n m L X := by
 obtain ⟨fuel, hf⟩ := h
 simp only [Value.okWide, Tryz.underlying25] at hv
 obtain ⟨cs, rfl, _, _⟩ := hv
 obtain ⟨A, n, c, L, B, m, d, X, e, h1, h2, h3⟩ := open_vwcZ hf (fun k hk => by
  have := List.all_eq_true.1 hsz _ (DataW.weights_mem_each ht hd k hk)
  simpa using this)
 refine ⟨A, n, c, L, B, m, d, X, ?_, h1, h2, h3⟩
 congr 1
 apply Array.toList_inj.1
 exact e
end Go.Proofs.YtbfepgjeecndiaaGreat

/- Is a view too large to be examined (the law's heavy)? -/
namespace Go.Proofs.YtbfepgjeecndiaaGreat
set_option maxRecDepth 100000
set_option maxHeartbeats 8000000
open Go.RowKit
set_option linter.unusedVariables false
set_option linter.unusedSimpArgs false
attribute [local go_sem ↓] Go.wp_at_zero Go.wp_at_succ
def HvOut (w : World) (n m : Nat) (e : Ending) (w' : World) : Prop := ∃ b : Bool, e = .returned (.bool b) ∧ (b = false → n + m ≤ 300) ∧ Ext w w'
theorem quo_bd (n : Nat) (a d : Int) (ha : 0 ≤ a) (hd : 0 < d) : 0 ≤ (min (n : Int) a).tdiv d ∧ (min (n : Int) a).tdiv d ≤ a := by
 have h0 : 0 ≤ min (n : Int) a := by omega
 rw [Int.tdiv_eq_ediv_of_nonneg h0]
 have h1 := Int.ediv_nonneg h0 (Int.le_of_lt hd)
 have h2 := Int.ediv_le_self d h0
 omega
theorem heavy_any (A : Option Addr) (n c : Nat) (L : List SgR) (B : Option Addr) (m d : Nat) (X : List TeR) (w : World) (hS : SlG w A n c L) (hX : SlG w B m d X) (hn : n ≤ 140737488355328) (hm : m ≤ 140737488355328) :
  Calls Tryz.prog 7 #[.agg (vwA A n c B m d)] w (HvOut w n m) := by
 obtain ⟨W0, hW0⟩ : ∃ W0, w.alloc (.cells (vwA A n c B m d) 25) = W0 := ⟨_, rfl⟩
 have HE0 := Lib.hid (show Ext w W0 from by rw [← hW0]; exact (Ext.refl w).alloc' _)
 have HB := Lib.hid (show Blk W0 w.heap.size 25 (vwA A n c B m d) from by rw [← hW0]; exact Blk.new _ _ _)
 have HS := Lib.hid (hS.ext HE0.out)
 have HX := Lib.hid (hX.ext HE0.out)
 have HSA := Lib.hid (fun (h : 0 < n) => HS.out.at h)
 have HXA := Lib.hid (fun (h : 0 < m) => HX.out.at h)
 clear hS hX
 obtain ⟨c0, c1⟩ := vw_facts HB.out
 go_enter Tryz.func7, Tryz.ntmps7
 go_wp2_with fail
 clear hW0
 go_loopw [3, 4] (fun vz vi wr => ∃ (z : Int) (k : Nat), vz = .int .i64 z ∧ vi = .int .i64 (k : Int) ∧ k ≤ n ∧ (n : Int) + (m : Int) ≤ z ∧ z ≤ 400000000000000 ∧ W0 = wr) (fun _ i _ => n - (intOf i).toNat)
 case atStart => exact ⟨(n : Int) + (m : Int), 0, by first | rfl | go_num, rfl, Nat.zero_le _, by omega, by omega, rfl⟩
 case round =>
  obtain ⟨z, k, rfl, rfl, hk, hz1, hz2, rfl⟩ := hrel
  by_cases hlt : k < n
  ·have i1 : (k : Int) < (n : Int) := by omega
   by_cases hz : z ≤ 300
   ·obtain ⟨b, o, rfl, hr0, hb⟩ := HSA.out (by omega)
    have hr1 := el_at hr0 (k := k) (by rw [HS.out.len]; exact hlt)
    obtain ⟨R, hR⟩ : ∃ R, nthG L k = R := ⟨_, rfl⟩
    rw [hR] at hr1
    have hc : W0.cell? ⟨b, o + k * 23 + 22, none⟩ = some (.slice R.A R.n R.c) := hr1 22 (.slice R.A R.n R.c) rfl
    obtain ⟨q1, q2⟩ := quo_bd R.n 100000 400 (by omega) (by omega)
    clear hr0 hr1 hR
    go_wp2_with fail
    go_roundw
    case rel => exact ⟨z + (min (R.n : Int) 100000) / 400, k + 1, by first | rfl | go_num, by go_num, hlt, by omega, by omega, by first | rfl | trivial⟩
    case measure => simp [intOf]; omega
   ·have i2 : ¬ z ≤ 300 := hz
    obtain ⟨z2, hz2'⟩ : ∃ q, q = z := ⟨_, rfl⟩
    go_wp2_with fail
    go_loopw [3, 5] (fun vz vi wr => ∃ (z : Int) (k : Nat), vz = .int .i64 z ∧ vi = .int .i64 (k : Int) ∧ k ≤ m ∧ (n : Int) + (m : Int) ≤ z ∧ z ≤ 400000000000000 ∧ W0 = wr) (fun _ i _ => m - (intOf i).toNat)
    case atStart => exact ⟨z, 0, rfl, rfl, Nat.zero_le _, hz1, hz2, rfl⟩
    case round =>
     clear i1 i2 hz2' hz hlt
     obtain ⟨z, j, rfl, rfl, hj, hz1, hz2, rfl⟩ := hrel
     by_cases hlt : j < m
     ·have i1 : (j : Int) < (m : Int) := by omega
      by_cases hz : z ≤ 300
      ·obtain ⟨b, o, rfl, hr0, hb⟩ := HXA.out (by omega)
       have hr1 := el_at hr0 (k := j) (by rw [HX.out.len]; exact hlt)
       obtain ⟨T, hT⟩ : ∃ T, nthG X j = T := ⟨_, rfl⟩
       rw [hT] at hr1
       obtain ⟨Ta, Tn, Tc, Tl⟩ := T
       have hc : W0.cell? ⟨b, o + j, none⟩ = some (.slice Ta Tn Tc) := by
        have := hr1 0 (.slice Ta Tn Tc) rfl
        simpa [show RowT.sz TeR = 1 from rfl] using this
       obtain ⟨q1, q2⟩ := quo_bd Tn 1000000 1000 (by omega) (by omega)
       clear hr0 hr1 hT
       go_wp2_with fail
       go_roundw
       case rel => exact ⟨z + (min (Tn : Int) 1000000) / 1000, j + 1, by first | rfl | go_num, by go_num, hlt, by omega, by omega, by first | rfl | trivial⟩
       case measure => simp [intOf]; omega
      ·have i2 : ¬ z ≤ 300 := hz
       have i3 : 300 < z := by omega
       go_wp2_with fail
       go_ret
       exact ⟨true, by simp [i3], fun h => (by cases h), HE0.out⟩
     ·have i1 : ¬ (j : Int) < (m : Int) := by omega
      by_cases hz : 300 < z
      ·go_wp2_with fail
       go_ret
       exact ⟨true, by simp [hz], fun h => (by cases h), HE0.out⟩
      ·go_wp2_with fail
       go_ret
       exact ⟨false, by simp [hz], fun _ => by omega, HE0.out⟩
  ·obtain rfl : k = n := by omega
   have i1 : ¬ (k : Int) < (k : Int) := by omega
   go_wp2_with fail
   go_loopw [3, 5] (fun vz vi wr => ∃ (z : Int) (j : Nat), vz = .int .i64 z ∧ vi = .int .i64 (j : Int) ∧ j ≤ m ∧ (k : Int) + (m : Int) ≤ z ∧ z ≤ 400000000000000 ∧ W0 = wr) (fun _ i _ => m - (intOf i).toNat)
   case atStart => exact ⟨z, 0, rfl, rfl, Nat.zero_le _, hz1, hz2, rfl⟩
   case round =>
    clear i1 hlt
    obtain ⟨z, j, rfl, rfl, hj, hz1, hz2, rfl⟩ := hrel
    by_cases hlt : j < m
    ·have i1 : (j : Int) < (m : Int) := by omega
     by_cases hz : z ≤ 300
     ·obtain ⟨b, o, rfl, hr0, hb⟩ := HXA.out (by omega)
      have hr1 := el_at hr0 (k := j) (by rw [HX.out.len]; exact hlt)
      obtain ⟨T, hT⟩ : ∃ T, nthG X j = T := ⟨_, rfl⟩
      rw [hT] at hr1
      obtain ⟨Ta, Tn, Tc, Tl⟩ := T
      have hc : W0.cell? ⟨b, o + j, none⟩ = some (.slice Ta Tn Tc) := by
       have := hr1 0 (.slice Ta Tn Tc) rfl
       simpa [show RowT.sz TeR = 1 from rfl] using this
      obtain ⟨q1, q2⟩ := quo_bd Tn 1000000 1000 (by omega) (by omega)
      clear hr0 hr1 hT
      go_wp2_with fail
      go_roundw
      case rel => exact ⟨z + (min (Tn : Int) 1000000) / 1000, j + 1, by first | rfl | go_num, by go_num, hlt, by omega, by omega, by first | rfl | trivial⟩
      case measure => simp [intOf]; omega
     ·have i2 : ¬ z ≤ 300 := hz
      have i3 : 300 < z := by omega
      go_wp2_with fail
      go_ret
      exact ⟨true, by simp [i3], fun h => (by cases h), HE0.out⟩
    ·have i1 : ¬ (j : Int) < (m : Int) := by omega
     by_cases hz : 300 < z
     ·go_wp2_with fail
      go_ret
      exact ⟨true, by simp [hz], fun h => (by cases h), HE0.out⟩
     ·go_wp2_with fail
      go_ret
      exact ⟨false, by simp [hz], fun _ => by omega, HE0.out⟩
end Go.Proofs.YtbfepgjeecndiaaGreat
