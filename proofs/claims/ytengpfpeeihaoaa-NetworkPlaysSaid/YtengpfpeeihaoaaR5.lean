/- The reference's network: Discard. -/
import Derived.Test.YtengpfpeeihaoaaR4
namespace Go.Proofs.Ytengpfpeeihaoaa
open Go.RowKit
set_option linter.unusedVariables false
set_option linter.unusedSimpArgs false

theorem hE3 {w w' : World} (h : Ext w w') {p : Addr} {v : Value} (hc : w.cell? p = some v) : w'.cell? p = some v := (h.cell (block_lt_of_cell hc)).trans hc
theorem beq_of {u v : Bool} (h : false = (u != v)) : (u == v) = true := by revert h; cases u <;> cases v <;> decide
theorem beq_of' {u v : Bool} (h : true = (u != v)) : (u == v) = false := by revert h; cases u <;> cases v <;> decide
theorem filter_split (q : Pc → Bool) (L : List Pc) : (L.filter q).length + (L.filter (fun x => !q x)).length = L.length := by
  induction L with
  | nil => rfl
  | cons a r ih => cases h : q a <;> simp [h] <;> omega
set_option maxRecDepth 100000 in
set_option maxHeartbeats 1000000 in
theorem rdiscard_any (grp : Int) (base b : Nat) (p : Int) (A : Option Addr) (n c : Nat) (L : List Pc) (w : World) (hN : RNet w base b p A n c L) (hL : ∀ x ∈ L, x.ok) (hn : n ≤ 4096) :
    Calls Try.prog 35 #[.pointer (some ⟨b, 0, none⟩), .int .i64 grp] w fun e w' => ∃ A2 m2 c2,
      e = .returned (.int .i64 ((L.filter (fun x => between grp x.f x.t)).length : Int)) ∧ RNet w' base b p A2 m2 c2 (L.filter (fun x => !between grp x.f x.t)) ∧ Below base w w' ∧ Kept w w' b (Value.ownBlock (.slice A n c)) := by
  have hlen := hN.len
  have HN := Lib.hid hN
  have HL := Lib.hid hL
  have HLen := Lib.hid hlen
  have HSP := Lib.hid (filter_split (fun x => between grp x.f x.t) L)
  have hblt := hN.blk.lt
  have hble := hN.le
  clear hN hL hlen
  go_enter Try.func35, Try.ntmps35
  go_wp2_with fail
  go_loopw [5, 6] (fun r i wr => ∃ (k : Nat) (A2 : Option Addr) (m2 c2 : Nat), k ≤ n ∧ i = .int .i64 (k : Int) ∧ r = .slice A2 m2 c2 ∧ wr.ownsRow w.heap.size 48 3 (.slice A2 m2 c2) m2 (rowP ((L.take k).filter (fun x => !between grp x.f x.t))) ∧ Ext w wr) (fun _ i _ => n - (intOf i).toNat)
  case atStart => exact ⟨0, none, 0, 0, by omega, rfl, rfl, by simpa [rowP] using World.ownsRow_nil w w.heap.size _ 3, Ext.refl _⟩
  case round =>
    obtain ⟨k, A2, m2, c2, hk, rfl, rfl, hO2, hE⟩ := hrel
    have hm2 : m2 ≤ n := by
      have h1 := hO2.1; rw [rowP_length] at h1
      have h2 := List.length_filter_le (fun x : Pc => !between grp x.f x.t) (L.take k); rw [List.length_take] at h2
      omega
    have hNr := HN.out.ext hE
    have z1 : wr.cell? ⟨b, 1, none⟩ = some (.slice A n c) := hNr.blk.cell 1
    have HE := Lib.hid hE
    have HO2 := Lib.hid hO2
    clear hO2 hE
    by_cases hlt : k < n
    · have hkl : k < L.length := by have := HLen.out; omega
      obtain ⟨g, rfl, hgb, hg, _⟩ := rown_at3 hNr.own (by omega)
      obtain ⟨e0, e1, e2⟩ := own_cells3 hNr.own hkl
      have hok := HL.out _ (nthP_mem hkl)
      have HT := Lib.hid (take_succ L hkl)
      have HNr := Lib.hid hNr
      clear hkl hNr
      generalize nthP L k = x at *
      obtain ⟨f, t, a, m, kk⟩ := x
      obtain ⟨o1, o2, o3, o4⟩ := hok
      have o1 : 0 ≤ f := o1
      have o2 : f < 62 := o2
      have o3 : 0 ≤ t := o3
      have o4 : t < 62 := o4
      have HBT := Lib.hid (show between grp f t = (inB grp f != inB grp t) from rfl)
      have j0 : (0 : Int) ≤ (k : Int) := by omega
      have j1 : (k : Int) < (n : Int) := by omega
      rcases hx : between grp f t with _ | _
      · have huv : (inB grp f == inB grp t) = true := beq_of (hx.symm.trans HBT.out)
        have HF2 := Lib.hid (show rowP ((L.take (k + 1)).filter (fun x => !between grp x.f x.t)) = rowP ((L.take k).filter (fun x => !between grp x.f x.t)) ++ rowP [⟨f, t, a, m, kk⟩] from by rw [HT.out, List.filter_append, rowP_append]; simp [hx])
        clear hx HBT
        go_wp2_with fail
        go_quiet ((go_at_call 50; refine Calls.quiet_of_same ((refIn_any grp _ (by assumption) (by assumption) _).mono fun _ _ h => ⟨h.1, h.2.symm⟩)))
        have hEq : Ext w (wr.drewN nq) := below_drewN HE.out _
        have HE' := Lib.hid hEq
        have HO2' := Lib.hid (own_ext HO2.out (below_drewN (Ext.refl wr) nq))
        have hNq := HN.out.ext hEq
        have y1 : (wr.drewN nq).cell? ⟨b, 1, none⟩ = some (.slice (some ⟨g, 0, none⟩) n c) := hNq.blk.cell 1
        have y2 : (wr.drewN nq).cell? ⟨g, k * 3, none⟩ = some (.int .i64 f) := (hE3 (below_drewN (Ext.refl wr) nq) e0)
        have y3 : (wr.drewN nq).cell? ⟨g, k * 3 + 1, none⟩ = some (.int .i64 t) := (hE3 (below_drewN (Ext.refl wr) nq) e1)
        have y4 : (wr.drewN nq).cell? ⟨g, k * 3 + 2, none⟩ = some (.slice a m kk) := (hE3 (below_drewN (Ext.refl wr) nq) e2)
        clear e0 e1 e2 z1 hNq hEq HE HO2
        generalize wr.drewN nq = W at *
        go_wp2_with (at_builtin; go_must (refine wpList_appL (o := ⟨some 47, _, _, _, _, _⟩) rparcelsE rfl (.tmp 38) (.tmp 46) rfl w.heap.size A2 m2 c2 _ rfl (own_ext HO2'.out ((Ext.refl _).alloc' _)) W.heap.size (rowP [⟨f, t, a, m, kk⟩]) rfl (rangeAt_of_blk (Blk.new _ _ _)) (by rw [rowP_length]; rfl) (rowP_one' _) (by omega) (by omega) (HE'.out.alloc' _).size ?_))
        intro A4 c4 w4 hO4 hg4 hn4
        have hE4 := ext_grown HE'.out HO2'.out hg4
        go_wp2_with fail
        go_roundw
        case rel => exact ⟨k + 1, A4, m2 + 1, c4, by omega, by go_num, rfl, by rw [HF2.out]; exact hO4, hE4⟩
        case measure => simp [intOf]; omega
      · have huv : (inB grp f == inB grp t) = false := beq_of' (hx.symm.trans HBT.out)
        have HF2 := Lib.hid (show rowP ((L.take (k + 1)).filter (fun x => !between grp x.f x.t)) = rowP ((L.take k).filter (fun x => !between grp x.f x.t)) from by rw [HT.out, List.filter_append]; simp [hx])
        clear hx HBT
        go_wp2_with fail
        go_quiet ((go_at_call 50; refine Calls.quiet_of_same ((refIn_any grp _ (by assumption) (by assumption) _).mono fun _ _ h => ⟨h.1, h.2.symm⟩)))
        have hEq : Ext w (wr.drewN nq) := below_drewN HE.out _
        have HO2' := own_ext HO2.out (below_drewN (Ext.refl wr) nq)
        go_wp2_with fail
        go_roundw
        case rel => exact ⟨k + 1, A2, m2, c2, by omega, by go_num, rfl, by rw [HF2.out]; exact HO2', hEq⟩
        case measure => simp [intOf]; omega
    · obtain rfl : k = n := by omega
      have z2 := hNr.blk.frozen 1
      have HE2 := Lib.hid (show (L.take k).filter (fun x => !between grp x.f x.t) = L.filter (fun x => !between grp x.f x.t) from by rw [List.take_of_length_le (by have := HLen.out; omega)])
      have HM := Lib.hid (show ((L.filter (fun x => between grp x.f x.t)).length : Int) = (k : Int) - (m2 : Int) from by
        have h1 := HO2.out.1; rw [rowP_length, HE2.out] at h1; have h2 := HSP.out; have h3 := HLen.out; omega)
      have hmk : (m2 : Int) ≤ (k : Int) := by omega
      clear hNr
      go_wp2_with fail
      go_ret
      refine ⟨A2, m2, c2, ?_, rset_end HN.out HE.out (by rw [← HE2.out]; exact HO2.out)⟩
      rw [HM.out]; rfl
end Go.Proofs.Ytengpfpeeihaoaa
