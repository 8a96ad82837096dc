/- slices.DeleteFunc over parcels: the walk. -/
import Derived.Test.YtengpfpeeihaoaaNet7
namespace Go.Proofs.Ytengpfpeeihaoaa
open Go.RowKit
set_option linter.unusedVariables false
set_option linter.unusedSimpArgs false

theorem rowP_take (L : List Pc) : ∀ k, (rowP L).take (k * 3) = rowP (L.take k) := by
  induction L with
  | nil => intro k; simp [rowP]
  | cons p r ih =>
    intro k
    cases k with
    | zero => simp [rowP]
    | succ k =>
      show (p.cs ++ rowP r).take _ = p.cs ++ rowP (r.take k)
      rw [← ih k, show (k + 1) * 3 = k * 3 + 3 from by omega]
      rfl
set_option maxRecDepth 100000 in
set_option maxHeartbeats 2000000 in
theorem deleteFn_any (fn B : Nat) (eg : ∀ args w, (callFunc fn args).run Try.prog w = .ok (.enter fn args) w) (q : Pc → Bool) (base : Nat) (A : Option Addr) (n c : Nat) (L : List Pc) (w : World)
    (h : w.ownsRow base 35 3 (.slice A n c) n (rowP L)) (grp : Int) (hq : Fits fn B grp q L) (hcell : w.cell? ⟨B, 0, none⟩ = some (.int .i64 grp)) (hB : B < w.heap.size) (hBA : Value.ownBlock (.slice A n c) ≠ some B) (hn : n ≤ 4096) :
    Calls Try.prog 71 #[.slice A n c, .func (.func fn) #[] #[.pointer (some ⟨B, 0, none⟩)]] w fun e w' => ∃ m, e = .returned (.slice A m c) ∧
      w'.ownsRow base 35 3 (.slice A m c) m (rowP (L.filter (fun x => !q x))) ∧ w.grownBy w' (Value.ownBlock (.slice A n c)) := by
  have hlen : L.length = n := by have := h.1; rw [rowP_length] at this; omega
  have HQ := Lib.hid hq
  clear hq
  have HI := Lib.hid (indexFn_any fn B eg q base A n c L w h grp HQ.out hcell hB hn)
  go_enter Try.func71, Try.ntmps71
  go_wp2_with fail
  refine HI.out.mono ?_
  rintro e w1 ⟨he1, ⟨rfl, hno⟩ | ⟨k, hk, rfl, hyes, hno⟩⟩
  · have HNo := Lib.hid hno
    clear hno
    go_wp2_with fail
    go_ret
    refine ⟨n, rfl, ?_, he1.grown _⟩
    rw [List.filter_eq_self.2]
    · exact own_ext h he1
    · intro x hx
      obtain ⟨j, hj, rfl⟩ := List.getElem_of_mem hx
      have := HNo.out j (by omega)
      unfold nthP at this
      simpa [hj] using this
  · have HD := Lib.hid (show Del q L L k (k + 1) from by
      have hf : (L.take k).filter (fun x => !q x) = L.take k := by
        rw [List.filter_eq_self]
        intro x hx
        obtain ⟨j, hj, rfl⟩ := List.getElem_of_mem hx
        have hj' : j < k := by rw [List.length_take] at hj; omega
        have := hno j hj'
        unfold nthP at this
        simpa [show j < L.length from by omega] using this
      exact Del.drop ⟨rfl, Nat.le_refl _, by omega, hf.symm, rfl⟩ (by omega) hyes)
    clear hno hyes
    obtain ⟨g, rfl, hg, hra⟩ := own_at h (by omega)
    have hBg : ¬ B = g := fun hh => hBA (by rw [hh]; rfl)
    go_wp2_with fail
    go_loopw [5, 6] (fun i j wr => ∃ (a b : Nat) (M : List Pc), i = .int .i64 (a : Int) ∧ j = .int .i64 (b : Int) ∧ a < b ∧ b ≤ n ∧ Del q L M a b ∧ wr.ownsRow base 35 3 (.slice (some ⟨g, 0, none⟩) n c) n (rowP M) ∧ w.grownBy wr (some g)) (fun _ j _ => n - (intOf j).toNat)
    case atStart => exact ⟨k, k + 1, L, rfl, by go_num, by omega, by omega, HD.out, own_ext h he1, he1.grown _⟩
    case round =>
      obtain ⟨a, b, M, rfl, rfl, hab, hbn, hD, hO, hG⟩ := hrel
      have HDel := Lib.hid hD
      have hMl := hD.len
      clear hD
      by_cases hlt : b < n
      · have hr1 := (own_at hO (by omega))
        obtain ⟨g', hgg, _, hra'⟩ := hr1
        obtain rfl : g = g' := by injection hgg with h1; injection h1
        obtain ⟨e0, e1, e2⟩ := cellsP hra' (k := b) (by omega)
        rw [(drop_nth HDel.out.rest (by omega) HDel.out.len).1] at e0 e1 e2
        have hcB : wr.heap[B]? = w.heap[B]? := hG.block B hB (fun hh => hBg (by injection hh))
        have hcw : ∀ o, (wr.alloc o).cell? ⟨B, 0, none⟩ = some (.int .i64 grp) := fun o => Lib.cell?_alloc_some o ((World.cell?_of_block (a := ⟨B, 0, none⟩) hcB).trans hcell)
        have hBW : ∀ o, B < (wr.alloc o).heap.size := fun o => by have := hG.size; simp; omega
        obtain ⟨x, hxe⟩ : ∃ x, nthP L b = x := ⟨_, rfl⟩
        have hc := Lib.hid (fun o => HQ.out x (by rw [← hxe]; exact nthP_mem (by omega)) (wr.alloc o) (hcw o) (hBW o))
        rw [hxe] at e0 e1 e2
        have HX := Lib.hid hxe
        clear hxe hcw hBW hcB
        rcases hx : q x with _ | _
        · have Hx := Lib.hid hx
          rw [hx] at hc
          clear hx
          go_wp2_with fail
          refine (hc.out _).mono ?_
          rintro e w3 ⟨rfl, he3⟩
          have hbx := (Blk.new wr 35 (pcs x.f x.t x.a x.n x.c)).ext he3
          have b0 : w3.cell? ⟨wr.heap.size, 0, none⟩ = some (.int .i64 x.f) := hbx.cell 0
          have b1 : w3.cell? ⟨wr.heap.size, 1, none⟩ = some (.int .i64 x.t) := hbx.cell 1
          have b2 : w3.cell? ⟨wr.heap.size, 2, none⟩ = some (.slice x.a x.n x.c) := hbx.cell 2
          have hO3 := own_ext hO (((Ext.refl _).alloc' _).trans he3)
          obtain ⟨g', hgg, _, hra3⟩ := own_at hO3 (by omega)
          obtain rfl : g = g' := by injection hgg with h1; injection h1
          obtain ⟨d0, d1, d2⟩ := cellsP hra3 (k := a) (by omega)
          have f0 := hO3.frozenAt (a * 3)
          have f1 := hO3.frozenAt (a * 3 + 1)
          have f2 := hO3.frozenAt (a * 3 + 2)
          have han : (a : Int) < (n : Int) := by omega
          go_wp2_with fail
          have hS := own_setP hO3 (i := a) (by omega) x
          go_roundw
          case rel => (repeat apply Exists.intro); exact ⟨⟨a + 1, b + 1, M.set a x, by go_num, by go_num, by omega, by omega, by rw [← HX.out]; exact HDel.out.keep (by omega) (by rw [HX.out]; exact Hx.out), hS.1, Grown.trans (Grown.trans hG (Ext.grown (((Ext.refl _).alloc' _).trans he3) _)) hS.2⟩, rfl⟩
          case measure => simp [intOf]; omega
        · have Hx := Lib.hid hx
          rw [hx] at hc
          clear hx
          go_wp2_with fail
          refine (hc.out _).mono ?_
          rintro e w3 ⟨rfl, he3⟩
          have hO3 := own_ext hO (((Ext.refl _).alloc' _).trans he3)
          go_wp2_with fail
          go_roundw
          case rel => (repeat apply Exists.intro); exact ⟨⟨a, b + 1, M, rfl, by go_num, by omega, by omega, HDel.out.drop (by omega) (by rw [HX.out]; exact Hx.out), hO3, Grown.trans hG (Ext.grown (((Ext.refl _).alloc' _).trans he3) _)⟩, rfl⟩
          case measure => simp [intOf]; omega
      · obtain rfl : b = n := by omega
        have hcap := own_cap hO
        have ha1 : a ≤ b := by omega
        have ha2 : a ≤ c := by omega
        have ha3 : ¬ c = a := by omega
        have hcl := fun ty => run_clearP wr ty g (a * 3) (b - a) (c - a) (by omega) (fun j hj => by rw [hO.cellAt (a * 3 + j) (by omega), List.getElem?_eq_getElem (by rw [rowP_length]; omega)]; rfl) (fun j hj => hO.frozenAt _)
        obtain ⟨xs', k1, k2, k3⟩ := own_over (Builtin.zeroCells (pcs 0 0 none 0 0) (b - a)).toList (a * 3) wr (rowP M) hO
        generalize wr.setCells g (a * 3) (Builtin.zeroCells (pcs 0 0 none 0 0) (b - a)).toList = w9 at *
        go_wp2_with fail
        go_ret
        refine ⟨a, rfl, ?_, Grown.trans hG k3⟩
        have := own_cut k1 (i := a) (by omega) (by simp)
        rw [k2, rowP_take, HDel.out.kept, List.take_of_length_le (by omega)] at this
        exact this
end Go.Proofs.Ytengpfpeeihaoaa
