/- NetworkPlays: the walk of the law. (Printed by gen_plays.py.) -/
import Derived.Test.YtengpfpeeihaoaaPl10
namespace Go.Proofs.Ytengpfpeeihaoaa
open Go.RowKit
set_option linter.unusedVariables false
set_option linter.unusedSimpArgs false

theorem pGet {w : World} {B b b2 : Nat} {p : Int} {X Y : List Rec} (h : Play w B b b2 p X Y) (z : Int) (i : Nat) (hz : z = (i : Int)) (hi : i < X.length) (hn : X.length ≤ 4096) :
    Calls Try.prog 21 #[.pointer (some ⟨b, 0, none⟩), .int .i64 z] w fun e w' => ∃ a' c', e = .returned (.tuple #[pcv (nthX X i).1.f (nthX X i).1.t a' (nthX X i).1.n c', .bool true]) ∧ OwnB w' w.heap.size 5 a' (nthX X i).1.n c' (nthX X i).2 ∧ Ext w w' := by
  subst hz
  obtain ⟨A, c, hN⟩ := h.net
  have hsm := h.small hi
  have := get_ok i B b p A X.length c _ (nthX X i).2 w hN hi hn (by rw [nthX_map X hi]; exact (h.own _ (nthX_mem X hi)).sl) (by rw [nthX_map X hi]; omega)
  rw [nthX_map X hi] at this
  exact this
theorem pGetNo {w : World} {B b b2 : Nat} {p : Int} {X Y : List Rec} (h : Play w B b b2 p X Y) (z : Int) (hz : z < 0 ∨ (X.length : Int) ≤ z) (hn : X.length ≤ 4096) :
    Calls Try.prog 21 #[.pointer (some ⟨b, 0, none⟩), .int .i64 z] w fun e w' => e = .returned (.tuple #[pcv 0 0 none 0 0, .bool false]) ∧ Ext w w' := by
  obtain ⟨A, c, hN⟩ := h.net
  exact get_no z B b p A X.length c _ w hN hn hz
theorem procs_le (P : Int) : procs P ≤ 62 := by unfold procs; (repeat' split) <;> omega
set_option maxRecDepth 100000 in
set_option maxHeartbeats 4000000 in
theorem netPlays_any (P ask : Int) (Al : Option Addr) (nl cl : Nat) (w : World) (hnl : nl ≤ 9223372036854775807) (hel : Elems w Al nl) :
    Calls Try.prog 5 #[.int .i64 P, .slice Al nl cl, .int .i64 ask] w fun e w' => e = .returned (.bool true) ∧ Ext w w' := by
  have HEL := Lib.hid hel
  clear hel
  go_enter Try.func5, Try.ntmps5
  go_wp2_with fail
  refine (new_any P _).mono ?_
  rintro e w1 ⟨rfl, hb1, he1⟩
  have hw1 := hb1.lt
  have HB1 := Lib.hid hb1
  have HE1 := Lib.hid he1
  clear hb1 he1
  go_wp2_with fail
  refine (rnew_any P _).mono ?_
  rintro e w2 ⟨rfl, hb2, he2⟩
  have HB2 := Lib.hid hb2
  have HE2 := Lib.hid he2
  clear hb2 he2
  have hp := procs_le P
  have HPL := Lib.hid (show Play w2 w.heap.size w.heap.size w1.heap.size (procs P) [] [] from ⟨⟨none, 0, Nat.le_refl _, HB1.out.ext HE2.out, World.ownsRow_nil _ _ _ 3⟩, ⟨none, 0, HE1.out.size, HB2.out, World.ownsRow_nil _ _ _ 3⟩, (fun _ h => by cases h), (fun _ h => by cases h), List.Pairwise.nil, (fun _ h => by cases h), (fun _ h => by cases h), (fun _ h => by cases h), (fun _ h => by cases h), (fun _ h => by cases h)⟩)
  go_wp2_with fail
  refine loop_any w w.heap.size w.heap.size w1.heap.size (procs P) ask Al nl cl _ ?hexit hnl hp (Nat.le_refl _) HEL.out _ _ ⟨rfl, rfl, rfl, rfl, rfl, rfl, rfl, 0, rfl, Nat.zero_le _, [], [], HPL.out, rfl, Nat.le_refl _, by omega, HE1.out.trans HE2.out⟩
  intro a' w3 hX
  obtain ⟨h1, h2, h3, h7, h8, kk, X, Y, hP, hkeys, hX, h80, hE⟩ := hX
  obtain ⟨u, ha, hu⟩ := act_eq a' h1 h2
  have e2 := (hu 2).trans h3
  have e7 := (hu 7).trans h7
  have e8 := (hu 8).trans h8
  rw [ha, e2, e7, e8]
  clear ha hu h1 h2 h3 h7 h8 e2 e7 e8 a'
  obtain ⟨N, A9, c9, A8, c8, hN9, hN, hR⟩ := hP.nets hkeys
  have hNN : N ≤ 4096 := by omega
  have HP := Lib.hid hP
  have HK := Lib.hid hkeys
  have HE := Lib.hid hE
  have HN9 := Lib.hid hN9
  have HR := Lib.hid hR
  have z1 : w3.cell? ⟨w1.heap.size, 1, none⟩ = some (.slice A8 N c8) := hR.blk.cell 1
  have HZ := Lib.hid z1
  clear hP hkeys hE hN9 hN hR HPL HB1 HB2 hX h80
  generalize hb2 : w1.heap.size = b2 at *
  clear hb2 hw1
  go_wp2_with fail
  clear z1
  go_loopw [19] (fun i wq => ∃ (j : Nat), j ≤ N ∧ i = .int .i64 (j : Int) ∧ Ext w3 wq) (fun i _ => N - (intOf i).toNat)
  case atStart => exact ⟨0, by omega, rfl, Ext.refl _⟩
  case round =>
    obtain ⟨j, hj, rfl, hq⟩ := hrel
    have HQ := Lib.hid hq
    have z1 : wr.cell? ⟨b2, 1, none⟩ = some (.slice A8 N c8) := hE3 hq HZ.out
    clear hq
    by_cases hlt : j < N
    · have hjX : j < X.length := by have := HN9.out; omega
      have hjY : j < Y.length := by rw [keys_len HK.out]; exact hjX
      have hXn : X.length ≤ 4096 := by have := HN9.out; omega
      have HG := Lib.hid (pGet (HP.out.ext HQ.out) (j : Int) j rfl hjX hXn)
      have HKN := Lib.hid (key_parts (keys_nth HK.out hjX))
      have HNY := Lib.hid (nthX_map Y hjY)
      have HSY := Lib.hid ((HP.out.rown _ (nthX_mem Y hjY)).sl)
      obtain ⟨g, rfl, hgb, hg, _⟩ := rown_at3 HR.out.own (by omega)
      have HCY := Lib.hid (own_cells3 HR.out.own (i := j) (by rw [List.length_map]; exact hjY))
      rw [HNY.out, ← HKN.out.1, ← HKN.out.2.1] at HCY
      rw [← HKN.out.2.2] at HSY
      clear HNY HKN
      generalize nthX X j = xj at *
      generalize nthX Y j = yj at *
      obtain ⟨⟨f1, t1, a1, m1, k1⟩, l1⟩ := xj
      obtain ⟨⟨f2, t2, a2, m2, k2⟩, l2⟩ := yj
      have j0 : (0 : Int) ≤ (j : Int) := by omega
      have j1 : (j : Int) < (N : Int) := by omega
      go_wp2_with fail
      refine HG.out.mono ?_
      rintro e w4 ⟨a4, c4, rfl, hO4, he4⟩
      have hA4 := (Ext.refl w4).alloc' (.cells (pcs f1 t1 a4 m1 c4) 35)
      have HX4 := Lib.hid (Blk.new w4 35 (pcs f1 t1 a4 m1 c4))
      have HO4 := Lib.hid (hO4.ext hA4)
      have HE4 := Lib.hid (HQ.out.trans (he4.trans hA4))
      clear hO4 he4 hA4 z1
      go_wp2_with fail
      generalize w4.alloc (.cells (pcs f1 t1 a4 m1 c4) 35) = W4 at *
      have HSS := Lib.hid (fun (w' : World) (he : Ext W4 w') => (⟨hE3 he (HX4.out.cell 0), hE3 he (HX4.out.cell 1), hE3 he (HX4.out.cell 2), hE3 (HE4.out.trans he) HZ.out, hE3 (HE4.out.trans he) HCY.out.1, hE3 (HE4.out.trans he) HCY.out.2.1, hE3 (HE4.out.trans he) HCY.out.2.2⟩ : w'.cell? ⟨w4.heap.size, 0, none⟩ = some (.int .i64 f1) ∧ w'.cell? ⟨w4.heap.size, 1, none⟩ = some (.int .i64 t1) ∧ w'.cell? ⟨w4.heap.size, 2, none⟩ = some (.slice a4 m1 c4) ∧ w'.cell? ⟨b2, 1, none⟩ = some (.slice (some ⟨g, 0, none⟩) N c8) ∧ w'.cell? ⟨g, j * 3, none⟩ = some (.int .i64 f1) ∧ w'.cell? ⟨g, j * 3 + 1, none⟩ = some (.int .i64 t1) ∧ w'.cell? ⟨g, j * 3 + 2, none⟩ = some (.slice a2 m2 k2)))
      go_region_held3 (fun w' => w'.cell? ⟨w4.heap.size, 0, none⟩ = some (.int .i64 f1) ∧ w'.cell? ⟨w4.heap.size, 1, none⟩ = some (.int .i64 t1) ∧ w'.cell? ⟨w4.heap.size, 2, none⟩ = some (.slice a4 m1 c4) ∧ w'.cell? ⟨b2, 1, none⟩ = some (.slice (some ⟨g, 0, none⟩) N c8) ∧ w'.cell? ⟨g, j * 3, none⟩ = some (.int .i64 f1) ∧ w'.cell? ⟨g, j * 3 + 1, none⟩ = some (.int .i64 t1) ∧ w'.cell? ⟨g, j * 3 + 2, none⟩ = some (.slice a2 m2 k2)) (first | exact HSS.out _ HX5.out | exact HSS.out _ (Ext.refl _).drew') ((go_at_call 29; refine (same_any f1 t1 a4 a2 m1 m2 c4 k2 l1 _ (HO4.out.sl.ext (Ext.refl _).drew') (HSY.out.ext (HE4.out.drew'))).mono ?_; rintro e w5 ⟨rfl, he5⟩; have HX5 := Lib.hid (((Ext.refl W4).drew').trans he5); clear he5))
      go_wp2_with fail
      go_roundw
      case rel => exact ⟨j + 1, by omega, by go_num, HE4.out.trans HX5.out⟩
      case measure => simp [intOf]; omega
    · have j1 : ¬ (j : Int) < (N : Int) := by omega
      have HPq := Lib.hid (HP.out.ext HQ.out)
      have HEq := Lib.hid (HE.out.trans HQ.out)
      have hXn : X.length ≤ 4096 := by have := HN9.out; omega
      by_cases hr : 0 ≤ ask ∧ ask < (N : Int)
      · obtain ⟨i, rfl⟩ := Int.eq_ofNat_of_zero_le hr.1
        have hi : i < X.length := by have := HN9.out; omega
        have HG := Lib.hid (pGet HPq.out (i : Int) i rfl hi hXn)
        have i0 : (0 : Int) ≤ (i : Int) := hr.1
        have i1 : (i : Int) < (N : Int) := hr.2
        generalize nthX X i = xj at *
        obtain ⟨⟨f1, t1, a1, m1, k1⟩, l1⟩ := xj
        clear hr
        go_wp2_with fail
        refine HG.out.mono ?_
        rintro e w4 ⟨a4, c4, rfl, hO4, he4⟩
        have hA4 := he4.alloc' (.cells (pcs f1 t1 a4 m1 c4) 35)
        have y1 : (w4.alloc (.cells (pcs f1 t1 a4 m1 c4) 35)).cell? ⟨b2, 1, none⟩ = some (.slice A8 N c8) := hE3 hA4 z1
        have HE4 := Lib.hid (HEq.out.trans hA4)
        clear hO4 he4 hA4 z1
        go_wp2_with (go_at_call 18; refine (awake39_any _).mono ?_; rintro e w12 ⟨rfl, he12⟩)
        go_ret
        exact ⟨rfl, HE4.out.trans he12⟩
      · have HG := Lib.hid (pGetNo HPq.out ask (show ask < 0 ∨ (X.length : Int) ≤ ask by have := HN9.out; omega) hXn)
        by_cases hneg : ask < 0
        · have i0 : decide ((0 : Int) ≤ ask) = false := decide_eq_false (by omega)
          clear hr
          go_wp2_with fail
          refine HG.out.mono ?_
          rintro e w4 ⟨rfl, he4⟩
          have hA4 := he4.alloc' (.cells (pcs 0 0 none 0 0) 35)
          have y1 : (w4.alloc (.cells (pcs 0 0 none 0 0) 35)).cell? ⟨b2, 1, none⟩ = some (.slice A8 N c8) := hE3 hA4 z1
          have HE4 := Lib.hid (HEq.out.trans hA4)
          clear he4 hA4 z1
          go_wp2_with (go_at_call 18; refine (awake39_any _).mono ?_; rintro e w12 ⟨rfl, he12⟩)
          go_ret
          exact ⟨rfl, HE4.out.trans he12⟩
        · have i0 : (0 : Int) ≤ ask := by omega
          have i1 : decide (ask < (N : Int)) = false := decide_eq_false (by omega)
          clear hr hneg
          go_wp2_with fail
          refine HG.out.mono ?_
          rintro e w4 ⟨rfl, he4⟩
          have hA4 := he4.alloc' (.cells (pcs 0 0 none 0 0) 35)
          have y1 : (w4.alloc (.cells (pcs 0 0 none 0 0) 35)).cell? ⟨b2, 1, none⟩ = some (.slice A8 N c8) := hE3 hA4 z1
          have HE4 := Lib.hid (HEq.out.trans hA4)
          clear he4 hA4 z1
          go_wp2_with (go_at_call 18; refine (awake39_any _).mono ?_; rintro e w12 ⟨rfl, he12⟩)
          go_ret
          exact ⟨rfl, HE4.out.trans he12⟩
end Go.Proofs.Ytengpfpeeihaoaa
