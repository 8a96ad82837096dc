/- Corrupt where there is a network; a byte of one's own is stored. -/
import Derived.Test.YtengpfpeeihaoaaNet12
import Derived.Laws.BitsAllLaws
namespace Go.Proofs.Ytengpfpeeihaoaa
open Go.RowKit
set_option linter.unusedVariables false
set_option linter.unusedSimpArgs false

def xorB (x y : UInt8) : UInt8 := x ^^^ y
theorem xorB_eq (x y : UInt8) : bits .xor .u8 (x.toNat : Int) (y.toNat : Int) = ((xorB x y).toNat : Int) := by
  rw [u8_xor_nat _ _ x.toNat_lt y.toNat_lt]; unfold xorB; rw [UInt8.toNat_xor]
def nthB (l : List UInt8) (k : Nat) : UInt8 := l.getD k 0
theorem nthB_get (l : List UInt8) {k : Nat} (h : k < l.length) : l[k] = nthB l k := by simp [nthB, h]
theorem bcs_set (l : List UInt8) (k : Nat) (x : UInt8) : (bcs l).set k (.int .u8 (x.toNat : Int)) = bcs (l.set k x) := by
  simp [bcs, List.map_set, bv]
/-- the block of a slice of bytes of one's own that holds something -/
theorem OwnB.at {w : World} {base : Nat} {A : Option Addr} {n c : Nat} {l : List UInt8} (h : OwnB w base 5 A n c l) (hn : 0 < n) : ∃ g, A = some ⟨g, 0, none⟩ ∧ base ≤ g ∧ g < w.heap.size ∧ (∀ k, k < n → w.cell? ⟨g, k, none⟩ = some (.int .u8 ((nthB l k).toNat : Int)) ∧ w.frozen? ⟨g, k, none⟩ = false) := by
  have hl : l.length = n := h.sl.len
  have h' := h
  rcases h.2 with ⟨hv, h0⟩ | ⟨g, cap, cur, hv, hb, hh, hnc, hcm, hcs, ht⟩
  · omega
  · injection hv with hA _ hc; subst hA; subst hc
    refine ⟨g, rfl, hb, (Array.getElem?_eq_some_iff.1 hh).1, fun k hk => ⟨?_, ?_⟩⟩
    · rw [World.ownsRow.cellAt h k (by omega), bcs_get l k (by omega), nthB_get l (by omega)]
    · exact World.ownsRow.frozenAt h k
/-- a byte of one's own is stored -/
theorem OwnB.set {w : World} {base g n c : Nat} {l : List UInt8} (h : OwnB w base 5 (some ⟨g, 0, none⟩) n c l) (k : Nat) (x : UInt8) :
    OwnB (w.setCell ⟨g, k, none⟩ (.int .u8 (x.toNat : Int))) base 5 (some ⟨g, 0, none⟩) n c (l.set k x) ∧ w.grownBy (w.setCell ⟨g, k, none⟩ (.int .u8 (x.toNat : Int))) (some g) := by
  have := World.ownsRow.stored h k (.int .u8 (x.toNat : Int))
  rw [bcs_set] at this
  exact this
/-- rows of two kinds lie in two blocks -/
theorem own_apart {w : World} {base base' : Nat} {e e' : TypeId} {size size' : Nat} {v v' : Value} {n n' : Nat} {xs xs' : List Value} (h : w.ownsRow base e size v n xs) (h' : w.ownsRow base' e' size' v' n' xs') (hne : e ≠ e') {g : Nat} (hg : Value.ownBlock v = some g) : Value.ownBlock v' ≠ some g := by
  intro hg'
  rcases h.2 with ⟨rfl, _⟩ | ⟨g1, cap, cur, rfl, _, hh, _⟩
  · cases hg
  · rcases h'.2 with ⟨rfl, _⟩ | ⟨g2, cap2, cur2, rfl, _, hh2, _⟩
    · cases hg'
    · have e1 : g1 = g := by simpa [Value.ownBlock] using hg
      have e2 : g2 = g := by simpa [Value.ownBlock] using hg'
      subst e1; subst e2
      rw [hh] at hh2
      simp at hh2
      exact hne hh2.2
theorem own_blk_apart {w : World} {base : Nat} {e t : TypeId} {size : Nat} {v : Value} {n : Nat} {xs : List Value} {b : Nat} {cs : Array Value} (h : w.ownsRow base e size v n xs) (hb : Blk w b t cs) (hne : e ≠ t) : Value.ownBlock v ≠ some b := by
  intro hv
  rcases h.2 with ⟨rfl, _⟩ | ⟨g, cap, cur, rfl, _, hh, _⟩
  · cases hv
  · have : g = b := by simpa [Value.ownBlock] using hv
    subst this
    unfold Blk at hb
    rw [hh] at hb
    simp at hb
    exact hne hb.2
theorem own_grown' {w w' : World} {base : Nat} {e : TypeId} {size : Nat} {v : Value} {n : Nat} {xs : List Value} {row : Option Nat} (h : w.ownsRow base e size v n xs) (hg : w.grownBy w' row) (hr : ∀ g, row = some g → Value.ownBlock v ≠ some g) : w'.ownsRow base e size v n xs := by
  refine ⟨h.1, ?_⟩
  rcases h.2 with h2 | ⟨g, cap, cur, hv, hb, hh, r⟩
  · exact .inl h2
  · refine .inr ⟨g, cap, cur, hv, hb, ?_, r⟩
    rw [hg.block g (Array.getElem?_eq_some_iff.1 hh).1 (fun h => hr g h.symm (by rw [hv]; rfl))]; exact hh
/-- a network stands where bytes of one's own have been stored over -/
theorem Net.bytes {w w' : World} {base base' b : Nat} {p : Int} {A : Option Addr} {n c : Nat} {L : List Pc} {a : Option Addr} {m k : Nat} {l : List UInt8} (h : Net w base b p A n c L) (ho : OwnB w base' 5 a m k l) (hg : w.grownBy w' (Value.ownBlock (.slice a m k))) : Net w' base b p A n c L :=
  ⟨h.le, h.blk.grown hg (fun e => own_blk_apart ho h.blk (by decide) e.symm), own_grown' h.own hg (fun g e => own_apart ho h.own (by decide) e)⟩
set_option maxRecDepth 100000 in
set_option maxHeartbeats 2000000 in
theorem corrupt_ok (i at' : Nat) (y : UInt8) (base base' b : Nat) (p : Int) (A : Option Addr) (n c : Nat) (L : List Pc) (l : List UInt8) (w : World) (hN : Net w base b p A n c L) (hi : i < n) (hn : n ≤ 4096)
    (hs : OwnB w base' 5 (nthP L i).a (nthP L i).n (nthP L i).c l) (hat : at' < (nthP L i).n) (hy : y ≠ 0) :
    Calls Try.prog 23 #[.pointer (some ⟨b, 0, none⟩), .int .i64 (i : Int), .int .i64 (at' : Int), .int .u8 (y.toNat : Int)] w fun e w' => e = .returned (.int .i64 0) ∧ OwnB w' base' 5 (nthP L i).a (nthP L i).n (nthP L i).c (l.set at' (xorB (nthB l at') y)) ∧ w.grownBy w' (Value.ownBlock (.slice (nthP L i).a (nthP L i).n (nthP L i).c)) := by
  have hlen := hN.len
  obtain ⟨g, rfl, hgb, hg, hra⟩ := own_at3 hN.own (by omega)
  obtain ⟨e0, e1, e2⟩ := cellsP hra (k := i) (by omega)
  have hcap := hs.sl.cap
  have hle := hs.sl.le
  have c1 : w.cell? ⟨b, 1, none⟩ = some (.slice (some ⟨g, 0, none⟩) n c) := hN.blk.cell 1
  generalize (nthP L i).f = f at *
  generalize (nthP L i).t = t at *
  generalize (nthP L i).a = a at *
  generalize (nthP L i).n = m at *
  generalize (nthP L i).c = k at *
  obtain ⟨d, rfl, hdb, hd, hcell⟩ := hs.at (by omega)
  obtain ⟨q1, q2⟩ := hcell at' hat
  have HC := Lib.hid (OwnB.set hs at' (xorB (nthB l at') y))
  generalize nthB l at' = x at *
  have hxy := xorB_eq x y
  have i0 : (0 : Int) ≤ (i : Int) := by omega
  have i1 : (i : Int) < (n : Int) := by omega
  have i2 : (0 : Int) ≤ (at' : Int) := by omega
  have i3 : (at' : Int) < (m : Int) := by omega
  have i4 : ((y.toNat : Int) == 0) = false := by
    rw [beq_eq_false_iff_ne]; intro h; apply hy; apply UInt8.toNat_inj.1; simpa using h
  clear hN hra hlen hcell hy
  generalize xorB x y = z at *
  go_enter Try.func23, Try.ntmps23
  go_wp2_with fail
  go_ret
  exact ⟨rfl, HC.out.1, HC.out.2⟩
set_option maxRecDepth 100000 in
set_option maxHeartbeats 2000000 in
theorem corrupt_no (i at' y : Int) (base b : Nat) (p : Int) (A : Option Addr) (n c : Nat) (L : List Pc) (w : World) (hN : Net w base b p A n c L) (hi : i < 0 ∨ (n : Int) ≤ i) (hn : n ≤ 4096) :
    Calls Try.prog 23 #[.pointer (some ⟨b, 0, none⟩), .int .i64 i, .int .i64 at', .int .u8 y] w fun e w' => e = .returned (.int .i64 6) ∧ w = w' := by
  have c1 : w.cell? ⟨b, 1, none⟩ = some (.slice A n c) := hN.blk.cell 1
  clear hN
  by_cases h0 : i < 0
  · clear hi
    go_enter Try.func23, Try.ntmps23
    go_wp2_with fail
    go_ret
    exact ⟨rfl, rfl⟩
  · have h1 : (0 : Int) ≤ i := by omega
    have h2 : (n : Int) ≤ i := by omega
    clear hi h0
    go_enter Try.func23, Try.ntmps23
    go_wp2_with fail
    go_ret
    exact ⟨rfl, rfl⟩
set_option maxRecDepth 100000 in
set_option maxHeartbeats 2000000 in
theorem corrupt_arg (i : Nat) (at' y : Int) (base b : Nat) (p : Int) (A : Option Addr) (n c : Nat) (L : List Pc) (w : World) (hN : Net w base b p A n c L) (hi : i < n) (hn : n ≤ 4096) (hm : (nthP L i).n ≤ 9223372036854775807)
    (hat : y = 0 ∨ at' < 0 ∨ ((nthP L i).n : Int) ≤ at') :
    Calls Try.prog 23 #[.pointer (some ⟨b, 0, none⟩), .int .i64 (i : Int), .int .i64 at', .int .u8 y] w fun e w' => e = .returned (.int .i64 1) ∧ w = w' := by
  have hlen := hN.len
  obtain ⟨g, rfl, hgb, hg, hra⟩ := own_at3 hN.own (by omega)
  obtain ⟨e0, e1, e2⟩ := cellsP hra (k := i) (by omega)
  have c1 : w.cell? ⟨b, 1, none⟩ = some (.slice (some ⟨g, 0, none⟩) n c) := hN.blk.cell 1
  generalize (nthP L i).f = f at *
  generalize (nthP L i).t = t at *
  generalize (nthP L i).a = a at *
  generalize (nthP L i).n = m at *
  generalize (nthP L i).c = k at *
  have i0 : (0 : Int) ≤ (i : Int) := by omega
  have i1 : (i : Int) < (n : Int) := by omega
  clear hN hra hlen
  by_cases hy : y = 0
  · subst hy
    clear hat
    go_enter Try.func23, Try.ntmps23
    go_wp2_with fail
    go_ret
    exact ⟨rfl, rfl⟩
  · have hyb : (y == 0) = false := beq_eq_false_iff_ne.2 hy
    by_cases h0 : at' < 0
    · clear hat hy
      go_enter Try.func23, Try.ntmps23
      go_wp2_with fail
      go_ret
      exact ⟨rfl, rfl⟩
    · have h1 : (0 : Int) ≤ at' := by omega
      have h2 : (m : Int) ≤ at' := by omega
      clear hat hy h0
      go_enter Try.func23, Try.ntmps23
      go_wp2_with fail
      go_ret
      exact ⟨rfl, rfl⟩
end Go.Proofs.Ytengpfpeeihaoaa
