/- NetworkKeeps: the walk of the law. -/
import Derived.Test.YtengpfpeeihaoaaNet16
import Derived.Laws.IdiomStrings
import Derived.Laws.BytesArg
namespace Go.Proofs.Ytengpfpeeihaoaa
open Go.RowKit
set_option linter.unusedVariables false
set_option linter.unusedSimpArgs false

/-- the string of some bytes -/
def strB (l : List UInt8) : ByteArray := ⟨l.toArray⟩
theorem xorB_ne (x : UInt8) : xorB x 1 ≠ x := by
  unfold xorB; intro h
  have h1 : x ^^^ (x ^^^ 1) = x ^^^ x := by rw [h]
  rw [← UInt8.xor_assoc, UInt8.xor_self, UInt8.zero_xor] at h1
  exact absurd h1 (by decide)
theorem strB_inj {l l' : List UInt8} (h : strB l = strB l') : l = l' := by
  unfold strB at h; injection h with h; exact List.toArray_inj h
theorem strB_list {l l' : List UInt8} (h : (strB l).toList = (strB l').toList) : l = l' := by
  rw [ByteArray.toList_eq, ByteArray.toList_eq] at h; exact h
theorem run_str {w : World} {A : Option Addr} {n c : Nat} {l : List UInt8} (h : SlB w A n c l) : (convert 22 9 (.slice A n c)).run Try.prog w = .ok (.string (strB l)) w := by
  have hl := h.len
  rcases A with _ | ad
  · obtain rfl : l = [] := by
      rcases h.rd with h | ⟨b, o, h, _⟩
      · have := congrArg List.length h; rw [bcs_length] at this; exact List.length_eq_zero_iff.1 this
      · cases h
    exact run_convert_bytes_nil w _ _ Try.underlying22 Try.underlying5 n c _ Try.underlying9
  · subst hl
    exact run_convert_bytes_back w _ _ _ ad c l Try.underlying22 Try.underlying5 Try.underlying9 (fun j hj => by
      obtain ⟨b, o, e, hr, _⟩ := h.at (by omega)
      injection e with e; subst e
      rw [Addr.add_mid]; exact byte_at hr j hj)
theorem own_kept {w w' : World} {base : Nat} {e : TypeId} {size : Nat} {v : Value} {n : Nat} {xs : List Value} {b : Nat} {row : Option Nat} (h : w.ownsRow base e size v n xs) (hk : Kept w w' b row) (h1 : b < base) (h2 : ∀ g, Value.ownBlock v = some g → row ≠ some g) : w'.ownsRow base e size v n xs := by
  refine ⟨h.1, ?_⟩
  rcases h.2 with h2' | ⟨g, cap, cur, hv, hb, hh, r⟩
  · exact .inl h2'
  · refine .inr ⟨g, cap, cur, hv, hb, ?_, r⟩
    rw [hk.block g (Array.getElem?_eq_some_iff.1 hh).1 (by omega) (fun e => h2 g (by rw [hv]; rfl) e.symm)]; exact hh
theorem Blk.kept {w w' : World} {g b : Nat} {t : TypeId} {cs : Array Value} {row : Option Nat} (h : Blk w g t cs) (hk : Kept w w' b row) (h1 : g ≠ b) (h2 : row ≠ some g) : Blk w' g t cs := (hk.block g h.lt h1 (fun e => h2 e.symm)).trans h
/-- a slice of bytes that was there -/
theorem SlB.below {w w' : World} {A : Option Addr} {n c : Nat} {l : List UInt8} {w0 : World} (h0 : SlB w0 A n c l) (hb : Ext w0 w') : SlB w' A n c l := h0.ext hb
/-- the calls at a parcel that is known -/
theorem get_at (z : Int) (i : Nat) (f t : Int) (a : Option Addr) (m k : Nat) (base b : Nat) (p : Int) (A : Option Addr) (n c : Nat) (L : List Pc) (l : List UInt8) (w : World) (hN : Net w base b p A n c L) (hz : z = (i : Int)) (hx : nthP L i = ⟨f, t, a, m, k⟩) (hi : i < n) (hn : n ≤ 4096) (hs : SlB w a m k l) (hm : m ≤ 140737488355328) :
    Calls Try.prog 21 #[.pointer (some ⟨b, 0, none⟩), .int .i64 z] w fun e w' => ∃ a' c', e = .returned (.tuple #[pcv f t a' m c', .bool true]) ∧ OwnB w' w.heap.size 5 a' m c' l ∧ Ext w w' := by
  have := get_ok i base b p A n c L l w hN hi hn (by rw [hx]; exact hs) (by rw [hx]; exact hm)
  rw [hx] at this; rw [hz]; exact this
theorem dup_at (z : Int) (i : Nat) (f t : Int) (a : Option Addr) (m k : Nat) (base b : Nat) (p : Int) (A : Option Addr) (n c : Nat) (L : List Pc) (l : List UInt8) (w : World) (hN : Net w base b p A n c L) (hz : z = (i : Int)) (hx : nthP L i = ⟨f, t, a, m, k⟩) (hi : i < n) (hn : n < 4096) (hs : SlB w a m k l) (hm : m ≤ 140737488355328) :
    Calls Try.prog 22 #[.pointer (some ⟨b, 0, none⟩), .int .i64 z] w fun e w' => ∃ a' k' A' c', e = .returned (.int .i64 0) ∧ Net w' base b p A' (n + 1) c' (L ++ [⟨f, t, a', m, k'⟩]) ∧ OwnB w' w.heap.size 5 a' m k' l ∧ Below base w w' ∧ Kept w w' b (Value.ownBlock (.slice A n c)) := by
  have := duplicate_ok i base b p A n c L l w hN hi hn (by rw [hx]; exact hs) (by rw [hx]; exact hm)
  rw [hx] at this; rw [hz]; exact this
theorem cor_at (z q y : Int) (i at' : Nat) (yb : UInt8) (f t : Int) (a : Option Addr) (m k : Nat) (base base' b : Nat) (p : Int) (A : Option Addr) (n c : Nat) (L : List Pc) (l : List UInt8) (w : World) (hN : Net w base b p A n c L) (hz : z = (i : Int)) (hq : q = (at' : Int)) (hy : y = (yb.toNat : Int)) (hx : nthP L i = ⟨f, t, a, m, k⟩) (hi : i < n) (hn : n ≤ 4096)
    (hs : OwnB w base' 5 a m k l) (hat : at' < m) (hy0 : yb ≠ 0) :
    Calls Try.prog 23 #[.pointer (some ⟨b, 0, none⟩), .int .i64 z, .int .i64 q, .int .u8 y] w fun e w' => e = .returned (.int .i64 0) ∧ OwnB w' base' 5 a m k (l.set at' (xorB (nthB l at') yb)) ∧ w.grownBy w' (Value.ownBlock (.slice a m k)) := by
  have := corrupt_ok i at' yb base base' b p A n c L l w hN hi hn (by rw [hx]; exact hs) (by rw [hx]; exact hat) hy0
  rw [hx] at this; rw [hz, hq, hy]; exact this
theorem takeP_at (z : Int) (i : Nat) (f t : Int) (a : Option Addr) (m k : Nat) (base b : Nat) (p : Int) (A : Option Addr) (n c : Nat) (L : List Pc) (l : List UInt8) (w : World) (hN : Net w base b p A n c L) (hz : z = (i : Int)) (hx : nthP L i = ⟨f, t, a, m, k⟩) (hi : i < n) (hn : n ≤ 4096) (hs : SlB w a m k l) (hm : m ≤ 140737488355328) :
    Calls Try.prog 24 #[.pointer (some ⟨b, 0, none⟩), .int .i64 z] w fun e w' => ∃ a' c', e = .returned (.tuple #[pcv f t a' m c', .bool true]) ∧ OwnB w' w.heap.size 5 a' m c' l ∧
      Net w' base b p A (n - 1) c (L.eraseIdx i) ∧ Below base w w' ∧ Kept w w' b (Value.ownBlock (.slice A n c)) := by
  have := take_ok i base b p A n c L l w hN hi hn (by rw [hx]; exact hs) (by rw [hx]; exact hm)
  rw [hx] at this; rw [hz]; exact this
theorem OwnB.cell {w : World} {base g n c : Nat} {l : List UInt8} (h : OwnB w base 5 (some ⟨g, 0, none⟩) n c l) {k : Nat} (hk : k < n) : w.cell? ⟨g, k, none⟩ = some (.int .u8 ((nthB l k).toNat : Int)) ∧ w.frozen? ⟨g, k, none⟩ = false := by
  obtain ⟨g', e, _, _, hc⟩ := h.at (by omega)
  obtain rfl : g = g' := by injection e with e; injection e
  exact hc k hk
theorem OwnB.kept {w w' : World} {base : Nat} {a : Option Addr} {n c : Nat} {l : List UInt8} {b : Nat} {A : Option Addr} {m C base' : Nat} {xs : List Value} (h : OwnB w base 5 a n c l) (hk : Kept w w' b (Value.ownBlock (.slice A m C))) (h1 : b < base) (h2 : w.ownsRow base' 35 3 (.slice A m C) m xs) : OwnB w' base 5 a n c l :=
  own_kept h hk h1 (fun g hg => own_apart h h2 (by decide) hg)
theorem OwnB.grown {w w' : World} {base : Nat} {a : Option Addr} {n c : Nat} {l : List UInt8} {g : Nat} (h : OwnB w base 5 a n c l) (hg : w.grownBy w' (some g)) (h1 : g < base) : OwnB w' base 5 a n c l :=
  own_grown h hg (fun k hk => by injection hk with hk; omega)
/-- bytes that lie below those that are stored over -/
theorem OwnB.grownUp {w w' : World} {base B : Nat} {a a' : Option Addr} {n c n' c' : Nat} {l l' : List UInt8} (h : OwnB w base 5 a n c l) (h' : OwnB w B 5 a' n' c' l') (hg : w.grownBy w' (Value.ownBlock (.slice a' n' c'))) (h1 : ∀ g, Value.ownBlock (.slice a n c) = some g → g < B) : OwnB w' base 5 a n c l :=
  own_grown' h hg (fun g hg' e => by have h2 := h1 g e; have h3 := (row_lt h' g hg').1; omega)
theorem below_grown {B : Nat} {w0 w w' : World} {g : Nat} (h : Below B w0 w) (hB : B ≤ w.heap.size) (hg : w.grownBy w' (some g)) (h1 : B ≤ g) : Below B w0 w' := h.grown hg hB (fun k hk => by injection hk with hk; omega)
set_option maxRecDepth 100000 in
set_option maxHeartbeats 4000000 in
theorem netKeeps_any (A : Option Addr) (n c : Nat) (l : List UInt8) (a : Int) (w : World) (hs : SlB w A n c l) (hn : n ≤ 140737488355328) (hp : 0 < n) :
    Calls Try.prog 4 #[.slice A n c, .int .i64 a] w fun e w' => e = .returned (.bool true) ∧ Ext w w' := by
  have n0 : ((n : Int) == 0) = false := beq_eq_false_iff_ne.2 (by omega)
  have n1 : n ≤ 9223372036854775807 := by omega
  obtain ⟨k, hk, hkn⟩ : ∃ k : Nat, wrap64 ((IntKind.u64.wrap a).tmod (n : Int)) = (k : Int) ∧ k < n := by
    have h0 : 0 ≤ IntKind.u64.wrap a := by rw [IntKind.wrap_u64]; omega
    have h1 : 0 ≤ IntKind.u64.wrap a % (n : Int) := Int.emod_nonneg _ (by omega)
    have h2 : IntKind.u64.wrap a % (n : Int) < n := Int.emod_lt_of_pos _ (by omega)
    refine ⟨(IntKind.u64.wrap a % (n : Int)).toNat, ?_, by omega⟩
    rw [Int.tmod_eq_emod_of_nonneg h0, IntWalk.wrap64_in _ ⟨by omega, by omega⟩]; omega
  have k0 : (k : Int) < (n : Int) := by omega
  go_enter Try.func4, Try.ntmps4
  go_wp2_with fail
  refine (new_any 2 _).mono ?_
  rintro e w1 ⟨rfl, hb1, he1⟩
  rw [show procs 2 = 2 from rfl] at hb1
  have hN1 : Net w1 w.heap.size w.heap.size 2 none 0 0 [] := ⟨Nat.le_refl _, hb1, World.ownsRow_nil _ _ _ 3⟩
  have HN1 := Lib.hid hN1
  have hw1 := hb1.lt
  clear hN1 hb1
  go_wp2_with (at_builtin; go_must (refine wpList_appB bytesE rfl (.tmp 25) (.tmp 26) rfl w1.heap.size _ _ _ [] rfl ?r0 _ _ _ l rfl ?r1 (by omega) ?b1 w1 ?w1 ?_))
  case r0 => exact OwnB.made w1 w1.heap.size _ 0 w1.heap.size rfl (Nat.le_refl _) (by omega) rfl
  case r1 => exact hs.ext (he1.alloc' _)
  case b1 => exact ((Ext.refl w1).alloc' _).size
  case w1 => exact (Ext.refl w1).alloc' _
  intro A2 c2 w2 hO2 he2 hs2
  have hO2 : OwnB w2 w1.heap.size 5 A2 n c2 l := by simpa using hO2
  have hE2 : Ext w w2 := he1.trans he2
  have HN2 := Lib.hid (HN1.out.ext he2)
  have hz2 := he2.size
  go_wp2_with fail
  refine (send_ok _ _ _ _ _ _ _ 1 0 A2 n c2 l w2 HN2.out hO2.sl (by omega) (by omega) (by omega) (by omega) (by omega) (by omega)).mono ?_
  rintro e w3 ⟨a3, k3, A3, c3, rfl, hN3, hO3, hB3, hK3⟩
  have hN3 : Net w3 w.heap.size w.heap.size 2 A3 1 c3 [⟨1, 0, a3, n, k3⟩] := hN3
  obtain ⟨gs, rfl, hgs1, hgs3, _⟩ := hO2.at hp
  have hO2' : OwnB w3 w1.heap.size 5 (some ⟨gs, 0, none⟩) n c2 l := own_kept hO2 hK3 hw1 (fun g _ => by intro h; cases h)
  have HN3 := Lib.hid hN3
  have HO3 := Lib.hid hO3
  have hB3' : Below w.heap.size w w3 := Below.trans hE2 hB3
  have hz3 := hK3.size
  clear hN3 hO3 hO2 hB3 hK3 HN1 HN2
  obtain ⟨q1, q2⟩ := hO2'.cell hkn
  have HS4 := Lib.hid (OwnB.set hO2' k (xorB (nthB l k) 255))
  have HO2 := Lib.hid hO2'
  have hx1 := xorB_eq (nthB l k) 255
  rw [show ((255 : UInt8).toNat : Int) = 255 from rfl] at hx1
  have HXX : Hid (∃ x, nthB l k = x) := ⟨_, rfl⟩
  obtain ⟨x, hxx⟩ := HXX.out
  rw [hxx] at q1 hx1 HS4
  have Hxx := Lib.hid hxx
  clear hxx HXX hO2'
  go_wp2_with fail
  generalize w3.setCell ⟨gs, k, none⟩ (.int .u8 ((xorB x 255).toNat : Int)) = w4 at *
  have hG4 := HS4.out.2
  have hz4 := hG4.size
  have HN4 := Lib.hid (HN3.out.bytes HO2.out hG4)
  have HO4 := Lib.hid (OwnB.grown HO3.out hG4 hgs3)
  have hB4 : Below w.heap.size w w4 := below_grown hB3' (by omega) hG4 (by omega)
  clear HN3 HO3 hB3' HO2 hG4 HS4 q1 q2
  refine (get_at 0 0 1 0 a3 n k3 _ _ _ _ _ _ _ l w4 HN4.out rfl rfl (by omega) (by omega) HO4.out.sl hn).mono ?_
  rintro e w5 ⟨a5, k5, rfl, hO5, he5⟩
  obtain ⟨gx, rfl, hgx1, hgx2, _⟩ := hO5.at hp
  have hE5 := he5.alloc' (.cells (pcs 1 0 (some ⟨gx, 0, none⟩) n k5) 35)
  have hz5 := hE5.size
  have HN5 := Lib.hid (HN4.out.ext hE5)
  have hO5' := hO5.ext ((Ext.refl w5).alloc' (.cells (pcs 1 0 (some ⟨gx, 0, none⟩) n k5) 35))
  have HO5 := Lib.hid hO5'
  have HO4' := Lib.hid (HO4.out.ext hE5)
  have hB5 := Below.trans hB4 (hE5.mono (show w.heap.size ≤ w4.heap.size by omega))
  have s1 := run_str hO5'.sl
  have s2 := run_str (hs.ext hB5)
  obtain ⟨q1, q2⟩ := hO5'.cell hkn
  have HS6 := Lib.hid (OwnB.set hO5 k (xorB (nthB l k) 255))
  have HO5b := Lib.hid hO5
  have HN5b := Lib.hid (HN4.out.ext he5)
  have HO4b := Lib.hid (HO4.out.ext he5)
  have hB5b := Below.trans hB4 (he5.mono (show w.heap.size ≤ w4.heap.size by omega))
  rw [Hxx.out] at q1 HS6
  have hzl : w4.heap.size ≤ w5.heap.size := he5.size
  have hgne : ¬ w5.heap.size = gx := by omega
  have hgne2 : ¬ gx = w5.heap.size := by omega
  clear hO5 hO5' he5 HN4
  go_wp2_with fail
  have hG6 := HS6.out.2
  have hA6 := (Ext.refl (w5.setCell ⟨gx, k, none⟩ (.int .u8 ((xorB x 255).toNat : Int)))).alloc' (.cells (pcs 1 0 (some ⟨gx, 0, none⟩) n k5) 35)
  have hz6 := hA6.size
  have HN6 := Lib.hid ((HN5b.out.bytes HO5b.out hG6).ext hA6)
  have HO6 := Lib.hid ((OwnB.grownUp HO4b.out HO5b.out hG6 (fun g hg => (row_lt HO4.out g hg).2)).ext hA6)
  have hB6 := Below.trans (below_grown hB5b (by omega) hG6 (by omega)) (hA6.mono (by have := hG6.size; omega))
  clear HN5b HO4b HO5b hB5b HN5 HO5 HO4' s1 s2 q1 q2 hB5 hE5 HO4 hB4
  have hz6' := hG6.size
  have hz7 : w2.heap.size < ((w5.setCell ⟨gx, k, none⟩ (.int .u8 ((xorB x 255).toNat : Int))).alloc (.cells (pcs 1 0 (some ⟨gx, 0, none⟩) n k5) 35)).heap.size := by omega
  generalize (w5.setCell ⟨gx, k, none⟩ (.int .u8 ((xorB x 255).toNat : Int))).alloc (.cells (pcs 1 0 (some ⟨gx, 0, none⟩) n k5) 35) = w6 at *
  clear hG6 hA6 HS6
  refine (dup_at 0 0 1 0 a3 n k3 _ _ _ _ _ _ _ l w6 HN6.out rfl rfl (by omega) (by omega) HO6.out.sl hn).mono ?_
  rintro e w7 ⟨a7, k7, A7, c7, rfl, hN7, hO7, hB7, hK7⟩
  have HN7 := Lib.hid hN7
  have HO7 := Lib.hid hO7
  have HO3 := Lib.hid (OwnB.kept HO6.out hK7 (by omega) HN6.out.own)
  have hB7' := Below.trans hB6 hB7
  have hz8 := hK7.size
  have HLT := Lib.hid (fun g hg => (row_lt HO6.out g hg).2)
  clear hN7 hO7 hB7 hK7 HN6 HO6 hB6
  go_wp2_with fail
  refine (cor_at 1 (k : Int) 1 1 k 1 1 0 a7 n k7 _ _ _ _ _ _ _ _ l w7 HN7.out rfl rfl rfl rfl (by omega) (by omega) HO7.out hkn (by decide)).mono ?_
  rintro e w8 ⟨rfl, hO8, hG8⟩
  rw [Hxx.out] at hO8
  have HN8 := Lib.hid (HN7.out.bytes HO7.out hG8)
  have HO3' := Lib.hid (OwnB.grownUp HO3.out HO7.out hG8 HLT.out)
  have HO8 := Lib.hid hO8
  have hz9 := hG8.size
  have hB8 : Below w.heap.size w w8 := Below.grown hB7' hG8 (by omega) (fun g hg => by have := (row_lt HO7.out g hg).1; omega)
  clear hO8 hG8 HO3 HN7 HO7 hB7' HLT
  go_wp2_with fail
  refine (takeP_at 0 0 1 0 a3 n k3 _ _ _ _ _ _ _ l w8 HN8.out rfl rfl (by omega) (by omega) HO3'.out.sl hn).mono ?_
  rintro e w9 ⟨a9, k9, rfl, hO9, hN9, hB9, hK9⟩
  have hN9' : Net w9 w.heap.size w.heap.size 2 A7 1 c7 [⟨1, 0, a7, n, k7⟩] := hN9
  have hA9 := (Ext.refl w9).alloc' (.cells (pcs 1 0 a9 n k9) 35)
  have HN9 := Lib.hid (hN9'.ext hA9)
  have HRW := Lib.hid (show ∀ g, Value.ownBlock (.slice A7 1 c7) = some g → g < w9.heap.size from fun g hg => (row_lt hN9'.own g hg).2)
  have HO7 := Lib.hid ((OwnB.kept HO8.out hK9 (by omega) HN8.out.own).ext hA9)
  have HO9 := Lib.hid (hO9.ext hA9)
  have hby := Blk.new w9 35 (pcs 1 0 a9 n k9)
  have hz10 := hK9.size
  have hz11 := hA9.size
  have hB9' := Below.trans (Below.trans hB8 hB9) (hA9.mono (by omega))
  have HBY := Lib.hid hby
  clear hN9 hN9' hO9 hB9 hK9 HN8 HO8 HO3' hB8 hby
  go_wp2_with fail
  generalize w9.alloc (.cells (pcs 1 0 a9 n k9) 35) = W9 at *
  clear hA9
  refine (takeP_at 0 0 1 0 a7 n k7 _ _ _ _ _ _ _ (l.set k (xorB x 1)) W9 HN9.out rfl rfl (by omega) (by omega) HO7.out.sl hn).mono ?_
  rintro e w10 ⟨a10, k10, rfl, hO10, hN10, hB10, hK10⟩
  have hN10' : Net w10 w.heap.size w.heap.size 2 A7 0 c7 [] := hN10
  have hA10 := (Ext.refl w10).alloc' (.cells (pcs 1 0 a10 n k10) 35)
  have HN10 := Lib.hid (hN10'.ext hA10)
  have hB10' := Below.trans (Below.trans hB9' hB10) (hA10.mono (by have := hK10.size; omega))
  have hby := (HBY.out.kept hK10 (by omega) (fun e => by have := HRW.out _ e; omega)).alloc (.cells (pcs 1 0 a10 n k10) 35)
  have s1 := run_str ((OwnB.kept HO9.out hK10 (by omega) HN9.out.own).ext hA10).sl
  have s2 := run_str (hs.ext hB10')
  have s3 := run_str (hO10.ext hA10).sl
  have y2 : (w10.alloc (.cells (pcs 1 0 a10 n k10) 35)).cell? ⟨w9.heap.size, 2, none⟩ = some (.slice a9 n k9) := hby.cell 2
  have hne : l.set k (xorB x 1) ≠ l := fun e => by
    have h1 : nthB (l.set k (xorB x 1)) k = xorB x 1 := by
      unfold nthB; rw [List.getD_eq_getElem?_getD, List.getElem?_set_self (by rw [hs.len]; exact hkn)]; rfl
    rw [e, Hxx.out] at h1
    exact xorB_ne x h1.symm
  have t3 : ¬ (strB (l.set k (xorB x 1))).toList = (strB l).toList := fun e => hne (strB_list e)
  have t4 : ((strB (l.set k (xorB x 1))).toList == (strB l).toList) = false := beq_eq_false_iff_ne.2 t3
  clear hN10 hN10' hO10 hB10 hK10 HN9 HO7 HO9 hB9' hne HBY hby
  generalize l.set k (xorB x 1) = l' at *
  go_wp2_with (first | (go_at_call 25; refine (len_any _ _ _ _ _ _ _ _ HN10.out).mono ?_; rintro e w11 ⟨rfl, rfl⟩) | (go_at_call 18; refine (awake39_any _).mono ?_; rintro e w12 ⟨rfl, he12⟩))
  go_ret
  exact ⟨rfl, Ext.trans hB10' he12⟩
end Go.Proofs.Ytengpfpeeihaoaa
