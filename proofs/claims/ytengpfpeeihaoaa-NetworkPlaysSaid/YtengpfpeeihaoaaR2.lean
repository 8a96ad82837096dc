/- The reference's network: Take, Duplicate, Corrupt. -/
import Derived.Test.YtengpfpeeihaoaaR1
namespace Go.Proofs.Ytengpfpeeihaoaa
open Go.RowKit
set_option linter.unusedVariables false
set_option linter.unusedSimpArgs false

theorem rown_at3 {w : World} {base : Nat} {A : Option Addr} {n c : Nat} {L : List Pc} (h : w.ownsRow base 48 3 (.slice A n c) n (rowP L)) (hn : 0 < n) : ∃ g, A = some ⟨g, 0, none⟩ ∧ base ≤ g ∧ g < w.heap.size ∧ w.rangeAt g 0 (rowP L) := by
  have hl := h.1
  rcases h.2 with ⟨hv, h0⟩ | ⟨g, cap, cur, hv, hb, hh, _⟩
  · omega
  · injection hv with hA; subst hA
    refine ⟨g, rfl, hb, (Array.getElem?_eq_some_iff.1 hh).1, fun j v hj => ?_⟩
    have := h.cells (g := g) rfl j v hj
    rwa [Addr.add_mid] at this
theorem own_cells3 {w : World} {base g n c : Nat} {e : TypeId} {L : List Pc} (h : w.ownsRow base e 3 (.slice (some ⟨g, 0, none⟩) n c) n (rowP L)) {i : Nat} (hi : i < L.length) :
    w.cell? ⟨g, i * 3, none⟩ = some (.int .i64 (nthP L i).f) ∧ w.cell? ⟨g, i * 3 + 1, none⟩ = some (.int .i64 (nthP L i).t) ∧ w.cell? ⟨g, i * 3 + 2, none⟩ = some (.slice (nthP L i).a (nthP L i).n (nthP L i).c) :=
  cellsP (fun j v hj => by have := h.cells (g := g) rfl j v hj; rwa [Addr.add_mid] at this) hi
/-- the data of a parcel in a row of one's own is replaced -/
theorem rset_data {w : World} {base g n c : Nat} {e : TypeId} {M : List Pc} (h : w.ownsRow base e 3 (.slice (some ⟨g, 0, none⟩) n c) n (rowP M)) {i : Nat} (hi : i < M.length) (a : Option Addr) (k : Nat) :
    (w.setCell ⟨g, i * 3 + 2, none⟩ (.slice a (nthP M i).n k)).ownsRow base e 3 (.slice (some ⟨g, 0, none⟩) n c) n (rowP (M.set i ⟨(nthP M i).f, (nthP M i).t, a, (nthP M i).n, k⟩)) ∧
    w.grownBy (w.setCell ⟨g, i * 3 + 2, none⟩ (.slice a (nthP M i).n k)) (some g) := by
  have h3 := h.stored (i * 3 + 2) (.slice a (nthP M i).n k)
  refine ⟨?_, h3.2⟩
  rw [rowP_set M _ i hi]
  have hd := rowP_drop M i hi
  have e0 : (rowP M)[i * 3]? = some (.int .i64 (nthP M i).f) := by
    have := congrArg (fun l : List Value => l[0]?) hd; simpa [Pc.cs] using this
  have e1 : (rowP M)[i * 3 + 1]? = some (.int .i64 (nthP M i).t) := by
    have := congrArg (fun l : List Value => l[1]?) hd; simpa [Pc.cs] using this
  have s0 : (rowP M).set (i * 3) (.int .i64 (nthP M i).f) = rowP M := by
    apply List.ext_getElem?; intro j; rw [List.getElem?_set]; split
    · rename_i hj; subst hj; rw [e0]; have := (List.getElem?_eq_some_iff.1 e0).1; simp [this]
    · rfl
  have s1 : (rowP M).set (i * 3 + 1) (.int .i64 (nthP M i).t) = rowP M := by
    apply List.ext_getElem?; intro j; rw [List.getElem?_set]; split
    · rename_i hj; subst hj; rw [e1]; have := (List.getElem?_eq_some_iff.1 e1).1; simp [this]
    · rfl
  show World.ownsRow _ _ _ _ _ _ ((((rowP M).set (i * 3) (.int .i64 (nthP M i).f)).set (i * 3 + 1) (.int .i64 (nthP M i).t)).set (i * 3 + 2) (.slice a (nthP M i).n k))
  rw [s0, s1]; exact h3.1
set_option maxRecDepth 100000 in
set_option maxHeartbeats 2000000 in
theorem rcorrupt_no (i at' y : Int) (base b : Nat) (p : Int) (A : Option Addr) (n c : Nat) (L : List Pc) (w : World) (hN : RNet w base b p A n c L) (hi : i < 0 ∨ (n : Int) ≤ i) (hn : n ≤ 4096) :
    Calls Try.prog 31 #[.pointer (some ⟨b, 0, none⟩), .int .i64 i, .int .i64 at', .int .u8 y] w fun e w' => e = .returned (.int .i64 6) ∧ w = w' := by
  have c1 : w.cell? ⟨b, 1, none⟩ = some (.slice A n c) := hN.blk.cell 1
  clear hN
  by_cases h0 : i < 0
  · clear hi
    go_enter Try.func31, Try.ntmps31
    go_wp2_with fail
    go_ret
    exact ⟨rfl, rfl⟩
  · have h1 : (0 : Int) ≤ i := by omega
    have h2 : (n : Int) ≤ i := by omega
    clear hi h0
    go_enter Try.func31, Try.ntmps31
    go_wp2_with fail
    go_ret
    exact ⟨rfl, rfl⟩
set_option maxRecDepth 100000 in
set_option maxHeartbeats 2000000 in
theorem rcorrupt_arg (i : Nat) (at' y : Int) (base b : Nat) (p : Int) (A : Option Addr) (n c : Nat) (L : List Pc) (w : World) (hN : RNet w base b p A n c L) (hi : i < n) (hn : n ≤ 4096) (hm : (nthP L i).n ≤ 9223372036854775807)
    (hat : y = 0 ∨ at' < 0 ∨ ((nthP L i).n : Int) ≤ at') :
    Calls Try.prog 31 #[.pointer (some ⟨b, 0, none⟩), .int .i64 (i : Int), .int .i64 at', .int .u8 y] w fun e w' => e = .returned (.int .i64 1) ∧ w = w' := by
  have hlen := hN.len
  obtain ⟨g, rfl, hgb, hg, hra⟩ := rown_at3 hN.own (by omega)
  obtain ⟨e0, e1, e2⟩ := cellsP hra (k := i) (by omega)
  have c1 : w.cell? ⟨b, 1, none⟩ = some (.slice (some ⟨g, 0, none⟩) n c) := hN.blk.cell 1
  generalize (nthP L i).f = f at *
  generalize (nthP L i).t = t at *
  generalize (nthP L i).a = a at *
  generalize (nthP L i).n = m at *
  generalize (nthP L i).c = k at *
  have i0 : (0 : Int) ≤ (i : Int) := by omega
  have i1 : (i : Int) < (n : Int) := by omega
  clear hN hra hlen
  by_cases h0 : at' < 0
  · clear hat
    go_enter Try.func31, Try.ntmps31
    go_wp2_with fail
    go_ret
    exact ⟨rfl, rfl⟩
  · have h1 : (0 : Int) ≤ at' := by omega
    by_cases h2 : (m : Int) ≤ at'
    · clear hat h0
      go_enter Try.func31, Try.ntmps31
      go_wp2_with fail
      go_ret
      exact ⟨rfl, rfl⟩
    · obtain rfl : y = 0 := by omega
      have h3 : at' < (m : Int) := by omega
      clear hat h0 h2
      go_enter Try.func31, Try.ntmps31
      go_wp2_with fail
      go_ret
      exact ⟨rfl, rfl⟩
theorem rcor_end {w w1 w' : World} {base b g n c gd m k1 at' : Nat} {p : Int} {L : List Pc} {l l' : List UInt8} {zc : Value} {i : Nat} {f t : Int}
    (hN : RNet w1 base b p (some ⟨g, 0, none⟩) n c L) (he1 : Ext w w1) (hblt : b < w.heap.size) (hble : base ≤ b) (hg : g < w.heap.size) (hO1 : OwnB w1 w.heap.size 5 (some ⟨gd, 0, none⟩) m k1 l)
    (hS : OwnB (w1.setCell ⟨gd, at', none⟩ zc) w.heap.size 5 (some ⟨gd, 0, none⟩) m k1 l' ∧ w1.grownBy (w1.setCell ⟨gd, at', none⟩ zc) (some gd))
    (hset : ∀ (W : World) (a' : Option Addr) (k' : Nat), W.ownsRow base 48 3 (.slice (some ⟨g, 0, none⟩) n c) n (rowP L) → (W.setCell ⟨g, i * 3 + 2, none⟩ (.slice a' m k')).ownsRow base 48 3 (.slice (some ⟨g, 0, none⟩) n c) n (rowP (L.set i ⟨f, t, a', m, k'⟩)) ∧ W.grownBy (W.setCell ⟨g, i * 3 + 2, none⟩ (.slice a' m k')) (some g))
    (hw' : w' = (w1.setCell ⟨gd, at', none⟩ zc).setCell ⟨g, i * 3 + 2, none⟩ (.slice (some ⟨gd, 0, none⟩) m k1)) :
    RNet w' base b p (some ⟨g, 0, none⟩) n c (L.set i ⟨f, t, (some ⟨gd, 0, none⟩), m, k1⟩) ∧ OwnB w' w.heap.size 5 (some ⟨gd, 0, none⟩) m k1 l' ∧ Below base w w' ∧ Kept w w' b (Value.ownBlock (.slice (some ⟨g, 0, none⟩) n c)) := by
  subst hw'
  have hgd := (row_lt hO1 gd rfl).1
  have hN2 : RNet (w1.setCell ⟨gd, at', none⟩ zc) base b p (some ⟨g, 0, none⟩) n c L := ⟨hN.le, hN.blk.grown hS.2 (fun e => own_blk_apart hO1 hN.blk (by decide) e.symm), own_grown' hN.own hS.2 (fun g e => own_apart hO1 hN.own (by decide) e)⟩
  have h2 := hset _ (some ⟨gd, 0, none⟩) k1 hN2.own
  have hne : some b ≠ some g := fun e => hN.ne e.symm
  have hgb : base ≤ g := (row_lt hN.own g rfl).1
  have hz1 := he1.size
  refine ⟨⟨hN.le, hN2.blk.grown h2.2 hne, h2.1⟩, own_grown hS.1 h2.2 (fun k hk => by injection hk with hk; omega), ?_, ⟨?_, ?_⟩⟩
  · exact below_grown (below_grown (he1.mono (by omega)) (by omega) hS.2 (by omega)) (by have := hS.2.size; omega) h2.2 hgb
  · exact Nat.le_trans he1.size (Nat.le_trans hS.2.size h2.2.size)
  · intro k hk hkb hkr
    have h3 := hS.2.size
    rw [h2.2.block k (by omega) hkr, hS.2.block k (by omega) (fun e => by injection e with e; omega), he1.block k hk]
set_option maxRecDepth 100000 in
set_option maxHeartbeats 2000000 in
theorem rcorrupt_ok (i at' : Nat) (y : UInt8) (base b : Nat) (p : Int) (A : Option Addr) (n c : Nat) (L : List Pc) (l : List UInt8) (w : World) (hN : RNet w base b p A n c L) (hi : i < n) (hn : n ≤ 4096)
    (hs : SlB w (nthP L i).a (nthP L i).n (nthP L i).c l) (hm : (nthP L i).n ≤ 140737488355328) (hat : at' < (nthP L i).n) (hy : y ≠ 0) :
    Calls Try.prog 31 #[.pointer (some ⟨b, 0, none⟩), .int .i64 (i : Int), .int .i64 (at' : Int), .int .u8 (y.toNat : Int)] w fun e w' => ∃ a' k', e = .returned (.int .i64 0) ∧
      RNet w' base b p A n c (L.set i ⟨(nthP L i).f, (nthP L i).t, a', (nthP L i).n, k'⟩) ∧ OwnB w' w.heap.size 5 a' (nthP L i).n k' (l.set at' (xorB (nthB l at') y)) ∧ Below base w w' ∧ Kept w w' b (Value.ownBlock (.slice A n c)) := by
  have hlen := hN.len
  obtain ⟨g, rfl, hgb, hg, hra⟩ := rown_at3 hN.own (by omega)
  obtain ⟨e0, e1, e2⟩ := cellsP hra (k := i) (by omega)
  have hle := hs.le
  have hcap := hs.cap
  have c1 : w.cell? ⟨b, 1, none⟩ = some (.slice (some ⟨g, 0, none⟩) n c) := hN.blk.cell 1
  have HSET := Lib.hid (fun (W : World) (a' : Option Addr) (k' : Nat) (h : W.ownsRow base 48 3 (.slice (some ⟨g, 0, none⟩) n c) n (rowP L)) => rset_data h (by omega : i < L.length) a' k')
  have HC := fun (W : World) (h : Ext w W) => Lib.hid (own_cells3 (hN.ext h).own (by omega : i < L.length)).2.2
  generalize (nthP L i).f = f at *
  generalize (nthP L i).t = t at *
  generalize (nthP L i).a = a at *
  generalize (nthP L i).n = m at *
  generalize (nthP L i).c = k at *
  have HN := Lib.hid hN
  have HLen := Lib.hid hlen
  obtain ⟨x, hx⟩ : ∃ x, nthB l at' = x := ⟨_, rfl⟩
  rw [hx]
  have Hx := Lib.hid hx
  clear hx
  have hxy := xorB_eq x y
  generalize hz : xorB x y = z at *
  have Hz := Lib.hid hz
  clear hz
  have i0 : (0 : Int) ≤ (i : Int) := by omega
  have i1 : (i : Int) < (n : Int) := by omega
  have i2 : (0 : Int) ≤ (at' : Int) := by omega
  have i3 : (at' : Int) < (m : Int) := by omega
  have i4 : ((y.toNat : Int) == 0) = false := by
    rw [beq_eq_false_iff_ne]; intro h; apply hy; apply UInt8.toNat_inj.1; simpa using h
  have hblt := hN.blk.lt
  have hble := hN.le
  clear hN hra hlen hy
  go_enter Try.func31, Try.ntmps31
  go_wp2_with (at_builtin; go_must (refine wpList_appB bytesE rfl (.const (.slice none 0 0)) (.tmp 47) rfl w.heap.size none 0 0 [] rfl (OwnB.nil _ _ _) _ _ _ l rfl hs (by omega) (Nat.le_refl _) w (Ext.refl _) ?_))
  intro a1 k1 w1 hO1' he1 hs1
  have hO1 : OwnB w1 w.heap.size 5 a1 m k1 l := by simpa using hO1'
  obtain ⟨gd, rfl, hgd1, hgd2, hcc⟩ := hO1.at (by omega)
  clear hcc
  obtain ⟨q1, q2⟩ := hO1.cell hat
  have HS := Lib.hid (OwnB.set hO1 at' z)
  rw [Hx.out] at q1
  have HN1 := Lib.hid (HN.out.ext he1)
  have HC1 := HC w1 he1
  have HO1 := Lib.hid hO1
  have r1 : w1.cell? ⟨b, 1, none⟩ = some (.slice (some ⟨g, 0, none⟩) n c) := HN1.out.blk.cell 1
  have n1 : ¬ gd = b := by omega
  have n2 : ¬ b = gd := by omega
  have n3 : ¬ gd = g := by omega
  have n4 : ¬ g = gd := by omega
  have u2 := HC1.out
  have HF := Lib.hid (fun j => World.ownsRow.frozenAt HN1.out.own j)
  have u3 := HF.out (i * 3 + 2)
  clear hO1' hO1 HC
  go_wp2_with fail
  go_ret
  refine ⟨_, k1, rfl, rcor_end HN1.out he1 hblt hble hg HO1.out HS.out HSET.out rfl⟩
end Go.Proofs.Ytengpfpeeihaoaa
