/- filter. -/
import Derived.Test.YtengpfpeeihaoaaNet8
namespace Go.Proofs.Ytengpfpeeihaoaa
open Go.RowKit
set_option linter.unusedVariables false
set_option linter.unusedSimpArgs false

set_option maxRecDepth 100000 in
set_option maxHeartbeats 2000000 in
theorem filter_any (fn B : Nat) (eg : ∀ args w, (callFunc fn args).run Try.prog w = .ok (.enter fn args) w) (q : Pc → Bool) (base b : Nat) (p : Int) (A : Option Addr) (n c : Nat) (L : List Pc) (w : World)
    (hN : Net w base b p A n c L) (grp : Int) (hq : Fits fn B grp q L) (hcell : w.cell? ⟨B, 0, none⟩ = some (.int .i64 grp)) (hB : B < w.heap.size) (hBb : B ≠ b) (hBA : Value.ownBlock (.slice A n c) ≠ some B) (hn : n ≤ 4096) :
    Calls Try.prog 47 #[.pointer (some ⟨b, 0, none⟩), .func (.func fn) #[] #[.pointer (some ⟨B, 0, none⟩)]] w fun e w' => ∃ A1 m1 c1 m,
      e = .returned (.slice A1 m1 c1) ∧ w'.ownsRow w.heap.size 35 3 (.slice A1 m1 c1) m1 (rowP (L.filter q)) ∧ Net w' base b p A m c (L.filter (fun x => !q x)) ∧ Below base w w' ∧ Kept w w' b (Value.ownBlock (.slice A n c)) := by
  have hlen := hN.len
  have HQ := Lib.hid hq
  clear hq
  have c1 : w.cell? ⟨b, 1, none⟩ = some (.slice A n c) := hN.blk.cell 1
  go_enter Try.func47, Try.ntmps47
  go_wp2_with fail
  go_loopw [5, 15] (fun o i wr => ∃ (k : Nat) (A1 : Option Addr) (m1 c1 : Nat), k ≤ n ∧ i = .int .i64 (k : Int) ∧ o = .slice A1 m1 c1 ∧ wr.ownsRow w.heap.size 35 3 (.slice A1 m1 c1) m1 (rowP ((L.take k).filter q)) ∧ Ext w wr) (fun _ i _ => n - (intOf i).toNat)
  case atStart => exact ⟨0, none, 0, 0, by omega, rfl, rfl, by simpa [rowP] using World.ownsRow_nil w w.heap.size _ 3, Ext.refl _⟩
  case round =>
    obtain ⟨k, A1, m1, c1', hk, rfl, rfl, hO, hE⟩ := hrel
    have hm1 : m1 ≤ n := by
      have h1 := hO.1; rw [rowP_length] at h1
      have h2 := List.length_filter_le q (L.take k); rw [List.length_take] at h2
      omega
    by_cases hlt : k < n
    · obtain ⟨g, rfl, hg, hra⟩ := own_at (own_ext hN.own hE) (by omega)
      obtain ⟨e0, e1, e2⟩ := cellsP hra (k := k) (by omega)
      obtain ⟨x, hxe⟩ : ∃ x, nthP L k = x := ⟨_, rfl⟩
      have hc := Lib.hid (fun o => HQ.out x (by rw [← hxe]; exact nthP_mem (by omega)) (wr.alloc o) (Lib.cell?_alloc_some o ((hE.cell (p := ⟨B, 0, none⟩) hB).trans hcell)) (by have := hE.size; simp; omega))
      rw [hxe] at e0 e1 e2
      have HX := Lib.hid hxe
      clear hxe
      rcases hx : q x with _ | _
      · have Hx := Lib.hid hx
        rw [hx] at hc
        clear hx
        go_wp2_with fail
        refine (hc.out _).mono ?_
        rintro e w3 ⟨rfl, he3⟩
        have hE3 := hE.trans (((Ext.refl _).alloc' _).trans he3)
        have hO3 := own_ext hO (((Ext.refl _).alloc' _).trans he3)
        have HF := Lib.hid (show (L.take (k + 1)).filter q = (L.take k).filter q from by rw [take_succ L (by omega), List.filter_append, HX.out]; simp [Hx.out])
        go_wp2_with fail
        go_roundw
        case rel => exact ⟨k + 1, A1, m1, c1', by omega, by go_num, rfl, by rw [HF.out]; exact hO3, hE3⟩
        case measure => simp [intOf]; omega
      · have Hx := Lib.hid hx
        rw [hx] at hc
        clear hx
        go_wp2_with fail
        refine (hc.out _).mono ?_
        rintro e w3 ⟨rfl, he3⟩
        have hbx := (Blk.new wr 35 (pcs x.f x.t x.a x.n x.c)).ext he3
        have b0 : w3.cell? ⟨wr.heap.size, 0, none⟩ = some (.int .i64 x.f) := hbx.cell 0
        have b1 : w3.cell? ⟨wr.heap.size, 1, none⟩ = some (.int .i64 x.t) := hbx.cell 1
        have b2 : w3.cell? ⟨wr.heap.size, 2, none⟩ = some (.slice x.a x.n x.c) := hbx.cell 2
        have hE3 := hE.trans (((Ext.refl _).alloc' _).trans he3)
        have hO3 := own_ext hO (((Ext.refl _).alloc' _).trans he3)
        have HF := Lib.hid (show rowP ((L.take (k + 1)).filter q) = rowP ((L.take k).filter q) ++ rowP [x] from by rw [take_succ L (by omega), List.filter_append, HX.out, rowP_append]; simp [Hx.out])
        go_wp2_with (at_builtin; go_must (refine wpList_app parcelsE rfl (.tmp 22) (.tmp 24) rfl w.heap.size A1 m1 c1' (rowP ((L.take k).filter q)) rfl (own_ext hO3 ((Ext.refl _).alloc' _)) (some ⟨w3.heap.size, 0, none⟩) 1 1 (rowP [x]) rfl (Rd.of_blk (Blk.new _ _ _)) (by rw [rowP_length]; rfl) (rowP_one' _) (by omega) (by omega) ?z1 w ?z2 ?_))
        case z1 => exact (hE3.alloc' _).size
        case z2 => exact hE3.alloc' _
        intro A4 c4 w4 hO4 hE4 hs4
        go_wp2_with fail
        go_roundw
        case rel => exact ⟨k + 1, A4, m1 + 1, c4, by omega, by go_num, rfl, by rw [HF.out]; exact hO4, hE4⟩
        case measure => simp [intOf]; omega
    · obtain rfl : k = n := by omega
      have hNr := hN.ext hE
      have c1r : wr.cell? ⟨b, 1, none⟩ = some (.slice A k c) := hNr.blk.cell 1
      have hD := Lib.hid (deleteFn_any fn B eg q base A k c L wr hNr.own grp HQ.out ((hE.cell (p := ⟨B, 0, none⟩) hB).trans hcell) (Nat.lt_of_lt_of_le hB hE.size) hBA hn)
      rw [List.take_of_length_le (by omega)] at hO
      go_wp2_with fail
      refine hD.out.mono ?_
      rintro e w5 ⟨m, rfl, hO5, hG5⟩
      have hb5 := hNr.blk.grown hG5 (Ne.symm hNr.ne)
      have q1 : w5.cell? ⟨b, 1, none⟩ = some (.slice A k c) := hb5.cell 1
      have q2 := hb5.frozen 1
      have hlt := hN.blk.lt
      have hrow := row_lt hN.own
      go_wp2_with fail
      go_ret
      refine ⟨A1, m1, c1', m, rfl, ?_, ⟨hN.le, hb5.set 1 _, own_far hO5 (own_ne hO5 hb5) _⟩, ?_, ⟨?_, ?_⟩⟩
      · exact ownsRow_setCell_below (own_grown hO hG5 (fun g hg => (hrow g hg).2)) hlt _
      · exact Below.setCell (Below.grown (hE.mono (by have := hN.le; omega)) hG5 (by have := hN.le; have := hE.size; omega) (fun k hk => (hrow k hk).1)) hN.le _
      · have h1 := hE.size
        have h2 := hG5.size
        simp only [World.setCell, Array.size_modify]
        omega
      · intro j hj hjb hjr
        rw [Below.heap_setCell _ _ _ _ (show j ≠ b from hjb), hG5.block j (by have := hE.size; omega) hjr, hE.block j hj]
end Go.Proofs.Ytengpfpeeihaoaa
