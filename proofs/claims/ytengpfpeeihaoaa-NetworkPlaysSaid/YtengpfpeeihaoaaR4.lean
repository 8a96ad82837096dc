/- The reference's network: Flow. -/
import Derived.Test.YtengpfpeeihaoaaR2
import Derived.Deep.AppendLies
namespace Go.Proofs.Ytengpfpeeihaoaa
open Go.RowKit
set_option linter.unusedVariables false
set_option linter.unusedSimpArgs false

/-- two slices of one's own lie in two blocks -/
def Ap (v v' : Value) : Prop := ∀ g, Value.ownBlock v = some g → Value.ownBlock v' ≠ some g
theorem Ap.symm {v v' : Value} (h : Ap v v') : Ap v' v := fun g h1 h2 => h g h2 h1
theorem wpList_appL {P : Program} {t e : TypeId} {z : Value} {size bytes : Nat} {ops : Array Oper} {rest : List Oper} {o : Oper} {a : Act} {w : World} {Q : Exit → Act → World → Prop} (E : Elem P t e z size bytes) (hgd : o.guard = none) (s x : Operand)
    (ho : o.op = .call { callee := .builtin .append, args := #[s, x], argTypes := #[t, t] })
    (base : Nat) (A : Option Addr) (n c : Nat) (xs : List Value) (hs : a.eval s = .slice A n c) (hown : w.ownsRow base e size (.slice A n c) n xs)
    (g2 : Nat) (ys : List Value) (hx : a.eval x = .slice (some ⟨g2, 0, none⟩) 1 1) (hr : w.rangeAt g2 0 ys) (hl : ys.length = 1 * size) (h1 : ∀ u ∈ ys, u.oneCell' = true)
    (hb : (n + 1) * bytes ≤ 140737488355328) (h63 : n + 1 ≤ 4611686018427387904) (hbase : base ≤ w.heap.size)
    (h : ∀ A' c' w', w'.ownsRow base e size (.slice A' (n + 1) c') (n + 1) (xs ++ ys) → w.grownBy w' (Value.ownBlock (.slice A n c)) → (∀ g, Value.ownBlock (.slice A' (n + 1) c') = some g → Value.ownBlock (.slice A n c) = some g ∨ g = w.heap.size) → wpList P ops Q rest (a.put o.dst (.slice A' (n + 1) c')) w') : wpList P ops Q (o :: rest) a w := by
  obtain ⟨i, hi, hz, hsz, hby⟩ := E.get
  refine wpList_append_lies (w := w) hgd s x t ho base e i z size bytes E.ut hi hz hsz hby E.zs E.pos (.slice A n c) n xs hs hown ⟨g2, 0, none⟩ 1 1 ys hx hl (fun j u hu => by rw [Addr.add_mid]; exact hr j u hu) h1 (by omega) (by simp only [maxLen]; omega) hb hbase _ rfl ?_
  intro g cap w' h2 h3 h4 h5
  exact h _ _ _ h2 h3 (fun g' hg' => by
    have : g = g' := by simpa [Value.ownBlock] using hg'
    subst this; exact h4)
/-- behind an append to one of two slices of one's own -/
theorem two_grown {w w' : World} {base : Nat} {e : TypeId} {size : Nat} {v v' u : Value} {n : Nat} {xs : List Value} (hu : w.ownsRow base e size u n xs) (hap : Ap v u) (hg : w.grownBy w' (Value.ownBlock v))
    {H : Nat} (hH : w.heap.size ≤ H) (hn : ∀ g, Value.ownBlock v' = some g → Value.ownBlock v = some g ∨ g = H) : w'.ownsRow base e size u n xs ∧ Ap v' u :=
  ⟨own_grown' hu hg (fun g e => hap g e), fun g hg' hu' => by
    rcases hn g hg' with h | h
    · exact hap g h hu'
    · have := (row_lt hu g hu').2; omega⟩
theorem ext_grown {w wr w' : World} {e : TypeId} {size : Nat} {v : Value} {n : Nat} {xs : List Value} (hE : Ext w wr) (hv : wr.ownsRow w.heap.size e size v n xs) {o : Obj} (hg : (wr.alloc o).grownBy w' (Value.ownBlock v)) : Ext w w' :=
  Below.grown (hE.alloc' o) hg (hE.alloc' o).size (fun k hk => (row_lt hv k hk).1)
theorem within_f {g f t : Int} (h : inB g f = false) : within g f t = false := by simp [within, h]
theorem within_t {g f t : Int} (h : inB g f = true) : within g f t = inB g t := by simp [within, h]

/-- a new row is stored into the network -/
theorem rset_end {w wr : World} {base b : Nat} {p : Int} {A : Option Addr} {n c : Nat} {L L' : List Pc} {A2 : Option Addr} {m2 c2 : Nat} (hN : RNet w base b p A n c L) (hE : Ext w wr)
    (hO : wr.ownsRow w.heap.size 48 3 (.slice A2 m2 c2) m2 (rowP L')) :
    RNet (wr.setCell ⟨b, 1, none⟩ (.slice A2 m2 c2)) base b p A2 m2 c2 L' ∧ Below base w (wr.setCell ⟨b, 1, none⟩ (.slice A2 m2 c2)) ∧ Kept w (wr.setCell ⟨b, 1, none⟩ (.slice A2 m2 c2)) b (Value.ownBlock (.slice A n c)) := by
  have hblt := hN.blk.lt
  have hle := hN.le
  refine ⟨⟨hle, (hN.blk.ext hE).set 1 _, own_mono (ownsRow_setCell_below hO hblt _) (by omega)⟩, Below.setCell (hE.mono (by omega)) hle _, ⟨?_, ?_⟩⟩
  · simp only [World.setCell, Array.size_modify]; exact hE.size
  · intro k hk hkb _
    rw [Below.heap_setCell _ _ _ _ (show k ≠ b from hkb)]
    exact hE.block k hk
set_option maxRecDepth 100000 in
set_option maxHeartbeats 4000000 in
theorem rflow_any (grp : Int) (base b : Nat) (p : Int) (A : Option Addr) (n c : Nat) (L : List Pc) (w : World) (hN : RNet w base b p A n c L) (hL : ∀ x ∈ L, x.ok) (hn : n ≤ 4096) :
    Calls Try.prog 33 #[.pointer (some ⟨b, 0, none⟩), .int .i64 grp] w fun e w' => ∃ A1 m1 c1 A2 m2 c2,
      e = .returned (.slice A1 m1 c1) ∧ w'.ownsRow w.heap.size 48 3 (.slice A1 m1 c1) m1 (rowP (L.filter (fun x => within grp x.f x.t))) ∧ RNet w' base b p A2 m2 c2 (L.filter (fun x => !within grp x.f x.t)) ∧ Below base w w' ∧ Kept w w' b (Value.ownBlock (.slice A n c)) := by
  have hlen := hN.len
  have HN := Lib.hid hN
  have HL := Lib.hid hL
  have HLen := Lib.hid hlen
  have hblt := hN.blk.lt
  have hble := hN.le
  clear hN hL hlen
  go_enter Try.func33, Try.ntmps33
  go_wp2_with fail
  go_loopw [5, 6, 7] (fun o r i wr => ∃ (k : Nat) (A1 : Option Addr) (m1 c1 : Nat) (A2 : Option Addr) (m2 c2 : Nat), k ≤ n ∧ i = .int .i64 (k : Int) ∧ o = .slice A1 m1 c1 ∧ r = .slice A2 m2 c2 ∧ wr.ownsRow w.heap.size 48 3 (.slice A1 m1 c1) m1 (rowP ((L.take k).filter (fun x => within grp x.f x.t))) ∧ wr.ownsRow w.heap.size 48 3 (.slice A2 m2 c2) m2 (rowP ((L.take k).filter (fun x => !within grp x.f x.t))) ∧ Ap (.slice A1 m1 c1) (.slice A2 m2 c2) ∧ Ext w wr) (fun _ _ i _ => n - (intOf i).toNat)
  case atStart => exact ⟨0, none, 0, 0, none, 0, 0, by omega, rfl, rfl, rfl, by simpa [rowP] using World.ownsRow_nil w w.heap.size _ 3, by simpa [rowP] using World.ownsRow_nil w w.heap.size _ 3, (fun g h => by cases h), Ext.refl _⟩
  case round =>
    obtain ⟨k, A1, m1, c1, A2, m2, c2, hk, rfl, rfl, rfl, hO1, hO2, hap, hE⟩ := hrel
    have hm1 : m1 ≤ n := by
      have h1 := hO1.1; rw [rowP_length] at h1
      have h2 := List.length_filter_le (fun x : Pc => within grp x.f x.t) (L.take k); rw [List.length_take] at h2
      omega
    have hm2 : m2 ≤ n := by
      have h1 := hO2.1; rw [rowP_length] at h1
      have h2 := List.length_filter_le (fun x : Pc => !within grp x.f x.t) (L.take k); rw [List.length_take] at h2
      omega
    have hNr := HN.out.ext hE
    have z1 : wr.cell? ⟨b, 1, none⟩ = some (.slice A n c) := hNr.blk.cell 1
    have HE := Lib.hid hE
    have HO1 := Lib.hid hO1
    have HO2 := Lib.hid hO2
    have HAP := Lib.hid hap
    clear hO1 hO2 hap hE
    by_cases hlt : k < n
    · have hkl : k < L.length := by have := HLen.out; omega
      obtain ⟨g, rfl, hgb, hg, _⟩ := rown_at3 hNr.own (by omega)
      obtain ⟨e0, e1, e2⟩ := own_cells3 hNr.own hkl
      have hok := HL.out _ (nthP_mem hkl)
      have HT := Lib.hid (take_succ L hkl)
      clear hkl hNr
      generalize nthP L k = x at *
      obtain ⟨f, t, a, m, kk⟩ := x
      obtain ⟨o1, o2, o3, o4⟩ := hok
      have o1 : 0 ≤ f := o1
      have o2 : f < 62 := o2
      have o3 : 0 ≤ t := o3
      have o4 : t < 62 := o4
      have hfin := Lib.hid (refIn_any grp f o1 o2)
      have htin := Lib.hid (refIn_any grp t o3 o4)
      rcases hx : within grp f t with _ | _
      · have HF1 := Lib.hid (show rowP ((L.take (k + 1)).filter (fun x => within grp x.f x.t)) = rowP ((L.take k).filter (fun x => within grp x.f x.t)) from by rw [HT.out, List.filter_append]; simp [hx])
        have HF2 := Lib.hid (show rowP ((L.take (k + 1)).filter (fun x => !within grp x.f x.t)) = rowP ((L.take k).filter (fun x => !within grp x.f x.t)) ++ rowP [⟨f, t, a, m, kk⟩] from by rw [HT.out, List.filter_append, rowP_append]; simp [hx])
        have HX := Lib.hid hx
        clear hx
        rcases hy : inB grp f with _ | _
        · rw [hy] at hfin
          clear hy HX
          go_wp2_with (first | (go_at_call 50; refine (hfin.out _).mono ?_; rintro e w3 ⟨rfl, rfl⟩) | (at_builtin; go_must (refine wpList_appL (o := ⟨some 58, _, _, _, _, _⟩) rparcelsE rfl (.tmp 49) (.tmp 57) rfl w.heap.size A2 m2 c2 _ rfl (own_ext HO2.out ((Ext.refl _).alloc' _)) wr.heap.size (rowP [⟨f, t, a, m, kk⟩]) rfl (rangeAt_of_blk (Blk.new _ _ _)) (by rw [rowP_length]; rfl) (rowP_one' _) (by omega) (by omega) (HE.out.alloc' _).size ?_)))
          intro A4 c4 w4 hO4 hg4 hn4
          obtain ⟨hO1', hap'⟩ := two_grown (own_ext HO1.out ((Ext.refl _).alloc' _)) HAP.out.symm hg4 (by simp) hn4
          have hE4 := ext_grown HE.out HO2.out hg4
          go_wp2_with fail
          go_roundw
          case rel => exact ⟨k + 1, A1, m1, c1, A4, m2 + 1, c4, by omega, by go_num, rfl, rfl, by rw [HF1.out]; exact hO1', by rw [HF2.out]; exact hO4, hap'.symm, hE4⟩
          case measure => simp [intOf]; omega
        · rw [hy] at hfin
          have hty := (within_t (t := t) hy).symm.trans HX.out
          rw [hty] at htin
          clear hy HX hty
          go_wp2_with fail
          refine (hfin.out _).mono ?_; rintro e w3 ⟨rfl, rfl⟩
          go_wp2_with fail
          refine (htin.out _).mono ?_; rintro e w3 ⟨rfl, rfl⟩
          go_wp2_with (at_builtin; go_must (refine wpList_appL (o := ⟨some 58, _, _, _, _, _⟩) rparcelsE rfl (.tmp 49) (.tmp 57) rfl w.heap.size A2 m2 c2 _ rfl (own_ext HO2.out ((Ext.refl _).alloc' _)) wr.heap.size (rowP [⟨f, t, a, m, kk⟩]) rfl (rangeAt_of_blk (Blk.new _ _ _)) (by rw [rowP_length]; rfl) (rowP_one' _) (by omega) (by omega) (HE.out.alloc' _).size ?_))
          intro A4 c4 w4 hO4 hg4 hn4
          obtain ⟨hO1', hap'⟩ := two_grown (own_ext HO1.out ((Ext.refl _).alloc' _)) HAP.out.symm hg4 (by simp) hn4
          have hE4 := ext_grown HE.out HO2.out hg4
          go_wp2_with fail
          go_roundw
          case rel => exact ⟨k + 1, A1, m1, c1, A4, m2 + 1, c4, by omega, by go_num, rfl, rfl, by rw [HF1.out]; exact hO1', by rw [HF2.out]; exact hO4, hap'.symm, hE4⟩
          case measure => simp [intOf]; omega
      · have HF1 := Lib.hid (show rowP ((L.take (k + 1)).filter (fun x => within grp x.f x.t)) = rowP ((L.take k).filter (fun x => within grp x.f x.t)) ++ rowP [⟨f, t, a, m, kk⟩] from by rw [HT.out, List.filter_append, rowP_append]; simp [hx])
        have HF2 := Lib.hid (show rowP ((L.take (k + 1)).filter (fun x => !within grp x.f x.t)) = rowP ((L.take k).filter (fun x => !within grp x.f x.t)) from by rw [HT.out, List.filter_append]; simp [hx])
        have HX := Lib.hid hx
        clear hx
        rcases hy : inB grp f with _ | _
        · exact absurd HX.out (by rw [within_f hy]; decide)
        · rw [hy] at hfin
          have hty := (within_t (t := t) hy).symm.trans HX.out
          rw [hty] at htin
          clear hy HX hty
          go_wp2_with fail
          refine (hfin.out _).mono ?_; rintro e w3 ⟨rfl, rfl⟩
          go_wp2_with fail
          refine (htin.out _).mono ?_; rintro e w3 ⟨rfl, rfl⟩
          go_wp2_with (at_builtin; go_must (refine wpList_appL (o := ⟨some 48, _, _, _, _, _⟩) rparcelsE rfl (.tmp 39) (.tmp 47) rfl w.heap.size A1 m1 c1 _ rfl (own_ext HO1.out ((Ext.refl _).alloc' _)) wr.heap.size (rowP [⟨f, t, a, m, kk⟩]) rfl (rangeAt_of_blk (Blk.new _ _ _)) (by rw [rowP_length]; rfl) (rowP_one' _) (by omega) (by omega) (HE.out.alloc' _).size ?_))
          intro A4 c4 w4 hO4 hg4 hn4
          obtain ⟨hO2', hap'⟩ := two_grown (own_ext HO2.out ((Ext.refl _).alloc' _)) HAP.out hg4 (by simp) hn4
          have hE4 := ext_grown HE.out HO1.out hg4
          go_wp2_with fail
          go_roundw
          case rel => exact ⟨k + 1, A4, m1 + 1, c4, A2, m2, c2, by omega, by go_num, rfl, rfl, by rw [HF1.out]; exact hO4, by rw [HF2.out]; exact hO2', hap', hE4⟩
          case measure => simp [intOf]; omega
    · obtain rfl : k = n := by omega
      have z2 := hNr.blk.frozen 1
      have HE1 := Lib.hid (show (L.take k).filter (fun x => within grp x.f x.t) = L.filter (fun x => within grp x.f x.t) from by rw [List.take_of_length_le (by have := HLen.out; omega)])
      have HE2 := Lib.hid (show (L.take k).filter (fun x => !within grp x.f x.t) = L.filter (fun x => !within grp x.f x.t) from by rw [List.take_of_length_le (by have := HLen.out; omega)])
      clear hNr
      go_wp2_with fail
      go_ret
      refine ⟨A1, m1, c1, A2, m2, c2, rfl, ?_, rset_end HN.out HE.out (by rw [← HE2.out]; exact HO2.out)⟩
      rw [← HE1.out]
      exact ownsRow_setCell_below HO1.out hblt _
end Go.Proofs.Ytengpfpeeihaoaa
