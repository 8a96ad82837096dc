/- Flow, Discard, Len; the law's own sanity check. -/
import Derived.Test.YtengpfpeeihaoaaNet9
namespace Go.Proofs.Ytengpfpeeihaoaa
open Go.RowKit
set_option linter.unusedVariables false
set_option linter.unusedSimpArgs false

/-- both ends of a parcel are numbers of processes -/
def Pc.ok (x : Pc) : Prop := 0 ≤ x.f ∧ x.f < 62 ∧ 0 ≤ x.t ∧ x.t < 62
theorem fitsFlow (B : Nat) (grp : Int) (L : List Pc) (h : ∀ x ∈ L, x.ok) : Fits 48 B grp (fun x => within grp x.f x.t) L := fun x hx W hc hB => by
  obtain ⟨h1, h2, h3, h4⟩ := h x hx
  exact flowFn_any grp x.f x.t x.a x.n x.c B h1 h2 h3 h4 W hc hB
theorem fitsDisc (B : Nat) (grp : Int) (L : List Pc) (h : ∀ x ∈ L, x.ok) : Fits 51 B grp (fun x => between grp x.f x.t) L := fun x hx W hc hB => by
  obtain ⟨h1, h2, h3, h4⟩ := h x hx
  exact discFn_any grp x.f x.t x.a x.n x.c B h1 h2 h3 h4 W hc hB
set_option maxRecDepth 100000 in
set_option maxHeartbeats 2000000 in
theorem len_any (base b : Nat) (p : Int) (A : Option Addr) (n c : Nat) (L : List Pc) (w : World) (hN : Net w base b p A n c L) :
    Calls Try.prog 25 #[.pointer (some ⟨b, 0, none⟩)] w fun e w' => e = .returned (.int .i64 (n : Int)) ∧ w = w' := by
  have c1 : w.cell? ⟨b, 1, none⟩ = some (.slice A n c) := hN.blk.cell 1
  go_enter Try.func25, Try.ntmps25
  go_wp2_with fail
  go_ret
  exact ⟨rfl, rfl⟩
set_option maxRecDepth 100000 in
set_option maxHeartbeats 2000000 in
theorem flow_any (grp : Int) (base b : Nat) (p : Int) (A : Option Addr) (n c : Nat) (L : List Pc) (w : World) (hN : Net w base b p A n c L) (hL : ∀ x ∈ L, x.ok) (hn : n ≤ 4096) :
    Calls Try.prog 32 #[.pointer (some ⟨b, 0, none⟩), .int .i64 grp] w fun e w' => ∃ A1 m1 c1 m,
      e = .returned (.slice A1 m1 c1) ∧ w'.ownsRow w.heap.size 35 3 (.slice A1 m1 c1) m1 (rowP (L.filter (fun x => within grp x.f x.t))) ∧ Net w' base b p A m c (L.filter (fun x => !within grp x.f x.t)) ∧ Below base w w' ∧ Kept w w' b (Value.ownBlock (.slice A n c)) := by
  have eg : ∀ args w, (callFunc 48 args).run Try.prog w = .ok (.enter 48 args) w := fun args w => by kernel_rfl
  have hE : Ext w (w.alloc (.cells #[.int .i64 grp] 3)) := (Ext.refl w).alloc' _
  have hbx := Blk.new w 3 #[.int .i64 grp]
  have hlt := hN.blk.lt
  have hrow := row_lt hN.own
  have hF := Lib.hid (filter_any _ w.heap.size eg (fun x => within grp x.f x.t) base b p A n c L _ (hN.ext hE) grp (fitsFlow _ grp L hL) (hbx.cell 0) hbx.lt (by omega) (fun hh => by have := hrow _ hh; omega) hn)
  go_enter Try.func32, Try.ntmps32
  go_wp2_with fail
  refine hF.out.mono ?_
  rintro e w1 ⟨A1, m1, c1, m, rfl, hO, hN1, hB1, hK⟩
  go_wp2_with fail
  go_ret
  refine ⟨A1, m1, c1, m, rfl, own_mono hO hE.size, hN1, Below.trans (hE.mono (by have := hN.le; omega)) hB1, ⟨Nat.le_trans hE.size hK.size, fun k hk hkb hkr => (hK.block k (by have := hE.size; omega) hkb hkr).trans (hE.block k hk)⟩⟩
end Go.Proofs.Ytengpfpeeihaoaa
