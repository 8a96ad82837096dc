/- The parcels of a view (the reference's Split). -/
import Derived.Test.YtbfepgjeecndiaaGreatK43
import Derived.Test.YtbfepgjeecndiaaGreatK46
import Derived.Test.YtbfepgjeecndiaaGreatK47
namespace Go.Proofs.YtbfepgjeecndiaaGreat
set_option maxRecDepth 100000
set_option maxHeartbeats 16000000
open Go.RowKit
set_option linter.unusedVariables false
set_option linter.unusedSimpArgs false
attribute [local go_sem ↓] Go.wp_at_zero Go.wp_at_succ
theorem SlG.part2 {α : Type} [RowT α] {w : World} {A : Option Addr} {n c i lo hi : Nat} {L : List α} (h : SlG w A n c L) (hlo : lo = min (i * 64) n) (hhi : hi = min (i * 64 + 64) n) {A5 : Option Addr} (hA : (c = lo ∧ A5 = A) ∨ (¬ c = lo ∧ A5 = A.map (·.add (lo * RowT.sz α)))) : SlG w A5 (hi - lo) (c - lo) (prt L i) := by
 have hle := h.le
 have hcap := h.cap
 unfold prt
 by_cases h1 : i * 64 < n
 ·obtain rfl : lo = i * 64 := by omega
  rcases hA with ⟨h2, _⟩ | ⟨h2, rfl⟩
  ·omega
  have h3 := (h.cut (k := i * 64) (by omega) (by omega)).upto (k := hi - i * 64) (c' := c - i * 64) (by omega) (by omega) (by omega)
  have hl : (L.drop (i * 64)).length = n - i * 64 := by rw [List.length_drop, h.len]
  have e : (L.drop (i * 64)).take (hi - i * 64) = (L.drop (i * 64)).take 64 := by
   by_cases h4 : i * 64 + 64 ≤ n
   ·rw [show hi - i * 64 = 64 from by omega]
   ·rw [List.take_of_length_le (by omega), List.take_of_length_le (by omega)]
  rwa [e] at h3
 ·have e1 : hi - lo = 0 := by omega
  rw [List.drop_of_length_le (by rw [h.len]; omega), List.take_nil, e1]
  exact SlG.empty _ _ _ (by omega)
theorem rPcEnc2_any (A : Option Addr) (n c : Nat) (L : List SgR) (B : Option Addr) (m d : Nat) (X : List TeR) (w : World) (hS : SlG w A n c L) (hX : SlG w B m d X) :
  Calls Tryz.prog 10 #[.agg (vwA A n c B m d)] w (PcEnc2 w (pcE L X) (encPc L X)) := rPcEnc_any A n c L B m d X w hS hX
theorem rSplit_any (A : Option Addr) (n c : Nat) (L : List SgR) (B : Option Addr) (m d : Nat) (X : List TeR) (w : World) (hS : SlG w A n c L) (hX : SlG w B m d X) (hn : n ≤ 1000000) (hm : m ≤ 1000000) (hSn : ∀ S, S ∈ L → S.n ≤ 140737488355328) (hXn : ∀ T, T ∈ X → T.n ≤ 140737488355328) :
  Calls Tryz.prog 15 #[.agg (vwA A n c B m d)] w (SpOut w L X) := by
 obtain ⟨W2, hW2⟩ : ∃ W2, w.alloc (.cells (vwA A n c B m d) 25) = W2 := ⟨_, rfl⟩
 have HEW := Lib.hid (show Ext w W2 from by rw [← hW2]; exact (Ext.refl w).alloc' _)
 have HP := Lib.hid (show Blk W2 w.heap.size 25 (vwA A n c B m d) from by rw [← hW2]; exact Blk.new _ _ _)
 have HU0 := refUnion_any A n c L B m d X none 0 0 [] none 0 0 [] W2 (hS.ext HEW.out) (hX.ext HEW.out) (VwO.nil W2 0).sl1 (VwO.nil W2 0).sl2 hn hm (by omega) (by omega) (by rw [List.append_nil]; exact hSn) (by rw [List.append_nil]; exact hXn)
 rw [List.append_nil, List.append_nil, Nat.add_zero, Nat.add_zero] at HU0
 have HU := Lib.hid HU0
 clear hS hX hSn hXn HU0
 obtain ⟨c0, c1⟩ := vw_facts HP.out
 go_enter Tryz.func15, Tryz.ntmps15
 go_upto_region 2 with (first | (go_at_call 32; (with_reducible refine HU.out.mono ?_); rintro e w3 ⟨A3, n3, c3, L3, B3, m3, d3, X3, rfl, hv3, hL3, hX3, hn3', hm3', he3⟩))
 obtain ⟨g, hg⟩ : ∃ q, w3.heap.size = q := ⟨_, rfl⟩
 obtain ⟨W9, hW9⟩ : ∃ W, w3.alloc (.cells (vwA A3 n3 c3 B3 m3 d3) 25) = W := ⟨_, rfl⟩
 have HE9 := Lib.hid (show Ext w3 W9 from by rw [← hW9]; exact (Ext.refl w3).alloc' _)
 have HBG := Lib.hid (show Blk W9 g 25 (vwA A3 n3 c3 B3 m3 d3) from by rw [← hW9, ← hg]; exact Blk.new _ _ _)
 have HGL := Lib.hid (show g < W9.heap.size from HBG.out.lt)
 have HV9 := Lib.hid (hv3.ext HE9.out)
 have HEW9 := Lib.hid ((HEW.out.trans he3).trans HE9.out)
 have HS := Lib.hid HV9.out.sl1
 have HX := Lib.hid HV9.out.sl2
 have hn3 : n3 ≤ 1000000000 := by omega
 have hm3 : m3 ≤ 1000000000 := by omega
 have hle3 := HS.out.le
 have hcap3 := HS.out.cap
 have hle4 := HX.out.le
 have hcap4 := HX.out.cap
 have HOKS := Lib.hid (show ∀ S ∈ L3, S.sig.length = S.n from fun S hS => (HS.out.ok S hS).sig.len)
 have HOKX := Lib.hid (show ∀ T ∈ X3, T.l.length = T.n from fun T hT => SlB.len (HX.out.ok T hT))
 obtain ⟨LV, hLV⟩ : ∃ q, canonO ltSv (L.map SgR.V) = q := ⟨_, rfl⟩
 obtain ⟨XV, hXV⟩ : ∃ q, canonO lexB (X.map TeR.l) = q := ⟨_, rfl⟩
 have HL3 := Lib.hid (hL3.trans hLV)
 have HX3 := Lib.hid (hX3.trans hXV)
 have HPO := Lib.hid (show UnF w L X LV XV from ⟨hLV, hXV⟩)
 have HLV := Lib.hid (show LV.length = n3 from by rw [← HL3.out, List.length_map]; exact HS.out.len)
 have HXV := Lib.hid (show XV.length = m3 from by rw [← HX3.out, List.length_map]; exact HX.out.len)
 rw [hW9, hg]
 clear hW9 hg he3 hv3 hL3 hX3 HU HP HV9 HE9 c0 c1 hW2 hLV hXV hn3' hm3'
 go_wp2_with fail
 go_loopw [5, 6] (fun vo vi wr => ∃ (i a : Nat) (A0 : Option Addr) (c0 : Nat) (D : List TeR), vi = .int .i64 (a : Int) ∧ vo = .slice A0 i c0 ∧ i ≤ 2000000000 ∧ a ≤ 3000000000 ∧ Hid (a = i * 64) ∧ Hid (i ≤ splN LV XV) ∧ Hid (RwT wr W9.heap.size A0 i c0 D) ∧ Hid (Ext W9 wr) ∧ Hid (splF LV XV (splN LV XV - i) i (D.map TeR.l) = splV LV XV) ∧ Hid (∀ T ∈ D, T.n ≤ 10000000)) (fun _ a _ => n3 + m3 + 64 - (intOf a).toNat)
 case atStart => exact ⟨0, 0, none, 0, [], rfl, rfl, Nat.zero_le _, Nat.zero_le _, Lib.hid rfl, Lib.hid (Nat.zero_le _), Lib.hid (RwT.nil _ _), Lib.hid (Ext.refl _), Lib.hid rfl, Lib.hid (fun T hT => by cases hT)⟩
 case round =>
  obtain ⟨i, a, A0, c0, D, rfl, rfl, hi, ha, HAE, HIK, HRW, HE, HSP, HDn⟩ := hrel
  have HBG := Lib.hid (HBG.out.ext HE.out)
  obtain ⟨q0, q1⟩ := vw_facts HBG.out
  by_cases hcond : a < n3 ∨ a < m3
  case neg =>
   have j1 : ¬ (a : Int) < (n3 : Int) := by omega
   have j2 : ¬ (a : Int) < (m3 : Int) := by omega
   have HEND := Lib.hid (show splN LV XV ≤ i from by
    have h1 := HLV.out
    have h2 := HXV.out
    have h3 := HAE.out
    unfold splN; omega)
   have HSV := Lib.hid (show splV LV XV = (D.map TeR.l, 0) from by rw [← HSP.out, splF_end HEND.out])
   clear HSP HEND hcond
   go_wp2_with fail
   go_ret2
   exact SpOut.mk HPO.out HSV.out HRW.out HEW9.out.size rfl HDn.out (HEW9.out.trans HE.out)
  case pos =>
  have HNE := Lib.hid (show i < splN LV XV from by
   have h1 := HLV.out
   have h2 := HXV.out
   have h3 := HAE.out
   unfold splN; omega)
  have HCOND := Lib.hid (show (a : Int) < (n3 : Int) ∨ (¬ (a : Int) < (n3 : Int) ∧ (a : Int) < (m3 : Int)) from by omega)
  obtain ⟨lo1, hlo1⟩ : ∃ q, q = min a n3 := ⟨_, rfl⟩
  obtain ⟨hi1, hhi1⟩ : ∃ q, q = min (a + 64) n3 := ⟨_, rfl⟩
  obtain ⟨lo2, hlo2⟩ : ∃ q, q = min a m3 := ⟨_, rfl⟩
  obtain ⟨hi2, hhi2⟩ : ∃ q, q = min (a + 64) m3 := ⟨_, rfl⟩
  obtain ⟨A5, hA5⟩ : ∃ A5, (c3 = lo1 ∧ A5 = A3) ∨ (¬ c3 = lo1 ∧ A5 = A3.map (·.add (lo1 * 23))) := by
   by_cases h : c3 = lo1
   ·exact ⟨_, .inl ⟨h, rfl⟩⟩
   ·exact ⟨_, .inr ⟨h, rfl⟩⟩
  obtain ⟨B5, hB5⟩ : ∃ B5, (d3 = lo2 ∧ B5 = B3) ∨ (¬ d3 = lo2 ∧ B5 = B3.map (·.add lo2)) := by
   by_cases h : d3 = lo2
   ·exact ⟨_, .inl ⟨h, rfl⟩⟩
   ·exact ⟨_, .inr ⟨h, rfl⟩⟩
  obtain ⟨n5, hn5⟩ : ∃ q, hi1 - lo1 = q := ⟨_, rfl⟩
  obtain ⟨k5, hk5⟩ : ∃ q, c3 - lo1 = q := ⟨_, rfl⟩
  obtain ⟨m5, hm5⟩ : ∃ q, hi2 - lo2 = q := ⟨_, rfl⟩
  obtain ⟨k6, hk6⟩ : ∃ q, d3 - lo2 = q := ⟨_, rfl⟩
  have HS5 := Lib.hid (show SlG W9 A5 n5 k5 (prt L3 i) from by rw [← hn5, ← hk5]; exact HS.out.part2 (by rw [← HAE.out]; exact hlo1) (by rw [← HAE.out]; exact hhi1) hA5)
  have HX5 := Lib.hid (show SlG W9 B5 m5 k6 (prt X3 i) from by rw [← hm5, ← hk6]; exact HX.out.part2 (by rw [← HAE.out]; exact hlo2) (by rw [← HAE.out]; exact hhi2) (by rw [show RowT.sz TeR = 1 from rfl, Nat.mul_one]; exact hB5))
  have HPA := Lib.hid hA5
  have HPB := Lib.hid hB5
  have p1 : min (a : Int) (n3 : Int) = (lo1 : Int) := by omega
  have p2 : min ((a : Int) + 64) (n3 : Int) = (hi1 : Int) := by omega
  have p3 : (lo1 : Int) ≤ (hi1 : Int) := by omega
  have hw64 : IntKind.i64.wrap ((a : Int) + 64) = (a : Int) + 64 := by rw [IntKind.wrap_i64]; omega
  have p4 : (hi1 : Int) ≤ (c3 : Int) := by omega
  have p5 : (hi1 : Int) - (lo1 : Int) = (n5 : Int) := by omega
  have r1 : min (a : Int) (m3 : Int) = (lo2 : Int) := by omega
  have r2 : min ((a : Int) + 64) (m3 : Int) = (hi2 : Int) := by omega
  have r3 : (lo2 : Int) ≤ (hi2 : Int) := by omega
  have r4 : (hi2 : Int) ≤ (d3 : Int) := by omega
  have r5 : (hi2 : Int) - (lo2 : Int) = (m5 : Int) := by omega
  clear hA5 hB5 hlo1 hhi1 hlo2 hhi2 hcond
  rcases HCOND.out with hg1 | ⟨hg1, hg2⟩
  all_goals
   go_upto_region 6 with (fail)
   go_cut [7] (fun t7 wx => ∃ (g7 : Nat), t7 = .pointer (some ⟨g7, 0, none⟩) ∧ Hid (Blk wx g7 25 (vwA A5 n5 k5 B5 m5 k6)) ∧ Hid (Ext W9 wx) ∧ Hid (RwT wx W9.heap.size A0 i c0 D))
   case first =>
    have HE := Lib.hid (HE.out.trans (Ext.refl wr).drew')
    have HRW := Lib.hid (show RwT wr.drew W9.heap.size A0 i c0 D from HRW.out.ext (Ext.refl wr).drew')
    clear q0 q1
    refine wp_region_held_drew (S := fun W => Blk W g 25 (vwA A3 n3 c3 B3 m3 d3)) (by kernel_rfl) (HBG.out.drew) (fun hHeld => ?_)
    (refine Go.Proofs.YtbfepgjeecndiaaGreat.wr 0 (oi := ⟨some 27, .fieldAddr 25 (.tmp 4) 0, 0, "wallet.go:184", #[], none⟩) (v := ?_) rfl (by kernel_rfl) (by rfl) (fun _ _ _ h => h) ?h hHeld ?_; case h => (intro W hSW; go_simp <;> with_reducible rfl))
    try simp only [lays]
    (refine Go.Proofs.YtbfepgjeecndiaaGreat.wr 1 (oi := ⟨some 28, .load 22 (.tmp 27), 22, "wallet.go:184", #[⟨0, .data⟩], none⟩) (v := ?_) rfl (by kernel_rfl) (by rfl) (fun _ _ _ h => h) ?h hHeld ?_; case h => (intro W hSW; obtain ⟨c0, c1⟩ := vw_facts hSW; go_simp <;> with_reducible rfl))
    try simp only [lays]
    (refine Go.Proofs.YtbfepgjeecndiaaGreat.wr 2 (oi := ⟨some 29, .move (.tmp 6), 3, "wallet.go:184", #[], none⟩) (v := ?_) rfl (by kernel_rfl) (by rfl) (fun _ _ _ h => h) ?h hHeld ?_; case h => (intro W hSW; go_simp <;> with_reducible rfl))
    try simp only [lays]
    (refine Go.Proofs.YtbfepgjeecndiaaGreat.wr 3 (oi := ⟨some 30, .fieldAddr 25 (.tmp 4) 0, 0, "wallet.go:184", #[], none⟩) (v := ?_) rfl (by kernel_rfl) (by rfl) (fun _ _ _ h => h) ?h hHeld ?_; case h => (intro W hSW; go_simp <;> with_reducible rfl))
    try simp only [lays]
    (refine Go.Proofs.YtbfepgjeecndiaaGreat.wr 4 (oi := ⟨some 31, .load 22 (.tmp 30), 22, "wallet.go:184", #[⟨3, .data⟩], none⟩) (v := ?_) rfl (by kernel_rfl) (by rfl) (fun _ _ _ h => h) ?h hHeld ?_; case h => (intro W hSW; obtain ⟨c0, c1⟩ := vw_facts hSW; go_simp <;> with_reducible rfl))
    try simp only [lays]
    (refine Go.Proofs.YtbfepgjeecndiaaGreat.wr 5 (oi := ⟨some 32, .call { callee := .builtin .len, args := #[.tmp 31], argTypes := #[22] }, 3, "wallet.go:184", #[⟨4, .data⟩], none⟩) (v := ?_) rfl (by kernel_rfl) (by rfl) (fun _ _ _ h => h) ?h hHeld ?_; case h => (intro W hSW; obtain ⟨c0, c1⟩ := vw_facts hSW; go_simp <;> with_reducible rfl))
    try simp only [lays]
    (refine Go.Proofs.YtbfepgjeecndiaaGreat.wr 6 (oi := ⟨some 33, .call { callee := .builtin .min, args := #[.tmp 29, .tmp 32], argTypes := #[3, 3] }, 3, "wallet.go:184", #[⟨2, .data⟩, ⟨5, .data⟩], none⟩) (v := ?_) rfl (by kernel_rfl) (by rfl) (fun _ _ _ h => h) ?h hHeld ?_; case h => (intro W hSW; obtain ⟨c0, c1⟩ := vw_facts hSW; go_simp <;> with_reducible rfl))
    try simp only [lays]
    (refine Go.Proofs.YtbfepgjeecndiaaGreat.wr 7 (oi := ⟨some 34, .move (.tmp 6), 3, "wallet.go:184", #[], none⟩) (v := ?_) rfl (by kernel_rfl) (by rfl) (fun _ _ _ h => h) ?h hHeld ?_; case h => (intro W hSW; go_simp <;> with_reducible rfl))
    try simp only [lays]
    (refine Go.Proofs.YtbfepgjeecndiaaGreat.wr 8 (oi := ⟨some 35, .binOp .add 3 (.tmp 34) (.const (.int .i64 64)) 3, 3, "wallet.go:184", #[⟨7, .data⟩], none⟩) (v := ?_) rfl (by kernel_rfl) (by rfl) (fun _ _ _ h => h) ?h hHeld ?_; case h => (intro W hSW; go_simp <;> with_reducible rfl))
    try simp only [lays]
    (refine Go.Proofs.YtbfepgjeecndiaaGreat.wr 9 (oi := ⟨some 36, .fieldAddr 25 (.tmp 4) 0, 0, "wallet.go:184", #[], none⟩) (v := ?_) rfl (by kernel_rfl) (by rfl) (fun _ _ _ h => h) ?h hHeld ?_; case h => (intro W hSW; go_simp <;> with_reducible rfl))
    try simp only [lays]
    (refine Go.Proofs.YtbfepgjeecndiaaGreat.wr 10 (oi := ⟨some 37, .load 22 (.tmp 36), 22, "wallet.go:184", #[⟨9, .data⟩], none⟩) (v := ?_) rfl (by kernel_rfl) (by rfl) (fun _ _ _ h => h) ?h hHeld ?_; case h => (intro W hSW; obtain ⟨c0, c1⟩ := vw_facts hSW; go_simp <;> with_reducible rfl))
    try simp only [lays]
    (refine Go.Proofs.YtbfepgjeecndiaaGreat.wr 11 (oi := ⟨some 38, .call { callee := .builtin .len, args := #[.tmp 37], argTypes := #[22] }, 3, "wallet.go:184", #[⟨10, .data⟩], none⟩) (v := ?_) rfl (by kernel_rfl) (by rfl) (fun _ _ _ h => h) ?h hHeld ?_; case h => (intro W hSW; obtain ⟨c0, c1⟩ := vw_facts hSW; go_simp <;> with_reducible rfl))
    try simp only [lays]
    (refine Go.Proofs.YtbfepgjeecndiaaGreat.wr 12 (oi := ⟨some 39, .call { callee := .builtin .min, args := #[.tmp 35, .tmp 38], argTypes := #[3, 3] }, 3, "wallet.go:184", #[⟨8, .data⟩, ⟨11, .data⟩], none⟩) (v := ?_) rfl (by kernel_rfl) (by rfl) (fun _ _ _ h => h) ?h hHeld ?_; case h => (intro W hSW; obtain ⟨c0, c1⟩ := vw_facts hSW; go_simp <;> with_reducible rfl))
    try simp only [lays]
    (refine wpAnyH_take (i := 13) (oi := ⟨some 40, .slice 22 (.tmp 28) (some (.tmp 33)) (some (.tmp 39)) none, 22, "wallet.go:184", #[⟨1, .data⟩, ⟨6, .data⟩, ⟨12, .data⟩], none⟩) (v := .slice A5 n5 k5) rfl (by kernel_rfl) (by kernel_rfl) (by kernel_rfl) (fun _ _ _ h => h) ?hy13 hHeld ?_; case hy13 => (refine Or.inl ⟨by rfl, ?_⟩; intro W hSW; obtain ⟨c0, c1⟩ := vw_facts hSW; cases HPA.out with | inl h => (have hh := h.1; have hA := h.2; have e0 : k5 = 0 := (by omega); have e1 : hi1 ≤ lo1 := (by omega); have e2 : lo1 ≤ hi1 := (by omega); clear h; rw [hA, e0]; go_simp <;> rfl) | inr h => (have hh := h.1; have hA := h.2; have e2 : lo1 ≤ hi1 := (by omega); clear h; rw [hA]; go_simp <;> rfl)))
    try simp only [lays]
    (refine Go.Proofs.YtbfepgjeecndiaaGreat.wr 14 (oi := ⟨some 41, .fieldAddr 25 (.tmp 4) 1, 0, "wallet.go:184", #[], none⟩) (v := ?_) rfl (by kernel_rfl) (by rfl) (fun _ _ _ h => h) ?h hHeld ?_; case h => (intro W hSW; go_simp <;> with_reducible rfl))
    try simp only [lays]
    (refine Go.Proofs.YtbfepgjeecndiaaGreat.wr 15 (oi := ⟨some 42, .load 23 (.tmp 41), 23, "wallet.go:184", #[⟨14, .data⟩], none⟩) (v := ?_) rfl (by kernel_rfl) (by rfl) (fun _ _ _ h => h) ?h hHeld ?_; case h => (intro W hSW; obtain ⟨c0, c1⟩ := vw_facts hSW; go_simp <;> with_reducible rfl))
    try simp only [lays]
    (refine Go.Proofs.YtbfepgjeecndiaaGreat.wr 16 (oi := ⟨some 43, .move (.tmp 6), 3, "wallet.go:184", #[], none⟩) (v := ?_) rfl (by kernel_rfl) (by rfl) (fun _ _ _ h => h) ?h hHeld ?_; case h => (intro W hSW; go_simp <;> with_reducible rfl))
    try simp only [lays]
    (refine Go.Proofs.YtbfepgjeecndiaaGreat.wr 17 (oi := ⟨some 44, .fieldAddr 25 (.tmp 4) 1, 0, "wallet.go:184", #[], none⟩) (v := ?_) rfl (by kernel_rfl) (by rfl) (fun _ _ _ h => h) ?h hHeld ?_; case h => (intro W hSW; go_simp <;> with_reducible rfl))
    try simp only [lays]
    (refine Go.Proofs.YtbfepgjeecndiaaGreat.wr 18 (oi := ⟨some 45, .load 23 (.tmp 44), 23, "wallet.go:184", #[⟨17, .data⟩], none⟩) (v := ?_) rfl (by kernel_rfl) (by rfl) (fun _ _ _ h => h) ?h hHeld ?_; case h => (intro W hSW; obtain ⟨c0, c1⟩ := vw_facts hSW; go_simp <;> with_reducible rfl))
    try simp only [lays]
    (refine Go.Proofs.YtbfepgjeecndiaaGreat.wr 19 (oi := ⟨some 46, .call { callee := .builtin .len, args := #[.tmp 45], argTypes := #[23] }, 3, "wallet.go:184", #[⟨18, .data⟩], none⟩) (v := ?_) rfl (by kernel_rfl) (by rfl) (fun _ _ _ h => h) ?h hHeld ?_; case h => (intro W hSW; obtain ⟨c0, c1⟩ := vw_facts hSW; go_simp <;> with_reducible rfl))
    try simp only [lays]
    (refine Go.Proofs.YtbfepgjeecndiaaGreat.wr 20 (oi := ⟨some 47, .call { callee := .builtin .min, args := #[.tmp 43, .tmp 46], argTypes := #[3, 3] }, 3, "wallet.go:184", #[⟨16, .data⟩, ⟨19, .data⟩], none⟩) (v := ?_) rfl (by kernel_rfl) (by rfl) (fun _ _ _ h => h) ?h hHeld ?_; case h => (intro W hSW; obtain ⟨c0, c1⟩ := vw_facts hSW; go_simp <;> with_reducible rfl))
    try simp only [lays]
    (refine Go.Proofs.YtbfepgjeecndiaaGreat.wr 21 (oi := ⟨some 48, .move (.tmp 6), 3, "wallet.go:184", #[], none⟩) (v := ?_) rfl (by kernel_rfl) (by rfl) (fun _ _ _ h => h) ?h hHeld ?_; case h => (intro W hSW; go_simp <;> with_reducible rfl))
    try simp only [lays]
    (refine Go.Proofs.YtbfepgjeecndiaaGreat.wr 22 (oi := ⟨some 49, .binOp .add 3 (.tmp 48) (.const (.int .i64 64)) 3, 3, "wallet.go:184", #[⟨21, .data⟩], none⟩) (v := ?_) rfl (by kernel_rfl) (by rfl) (fun _ _ _ h => h) ?h hHeld ?_; case h => (intro W hSW; go_simp <;> with_reducible rfl))
    try simp only [lays]
    (refine Go.Proofs.YtbfepgjeecndiaaGreat.wr 23 (oi := ⟨some 50, .fieldAddr 25 (.tmp 4) 1, 0, "wallet.go:184", #[], none⟩) (v := ?_) rfl (by kernel_rfl) (by rfl) (fun _ _ _ h => h) ?h hHeld ?_; case h => (intro W hSW; go_simp <;> with_reducible rfl))
    try simp only [lays]
    (refine Go.Proofs.YtbfepgjeecndiaaGreat.wr 24 (oi := ⟨some 51, .load 23 (.tmp 50), 23, "wallet.go:184", #[⟨23, .data⟩], none⟩) (v := ?_) rfl (by kernel_rfl) (by rfl) (fun _ _ _ h => h) ?h hHeld ?_; case h => (intro W hSW; obtain ⟨c0, c1⟩ := vw_facts hSW; go_simp <;> with_reducible rfl))
    try simp only [lays]
    (refine Go.Proofs.YtbfepgjeecndiaaGreat.wr 25 (oi := ⟨some 52, .call { callee := .builtin .len, args := #[.tmp 51], argTypes := #[23] }, 3, "wallet.go:184", #[⟨24, .data⟩], none⟩) (v := ?_) rfl (by kernel_rfl) (by rfl) (fun _ _ _ h => h) ?h hHeld ?_; case h => (intro W hSW; obtain ⟨c0, c1⟩ := vw_facts hSW; go_simp <;> with_reducible rfl))
    try simp only [lays]
    (refine Go.Proofs.YtbfepgjeecndiaaGreat.wr 26 (oi := ⟨some 53, .call { callee := .builtin .min, args := #[.tmp 49, .tmp 52], argTypes := #[3, 3] }, 3, "wallet.go:184", #[⟨22, .data⟩, ⟨25, .data⟩], none⟩) (v := ?_) rfl (by kernel_rfl) (by rfl) (fun _ _ _ h => h) ?h hHeld ?_; case h => (intro W hSW; obtain ⟨c0, c1⟩ := vw_facts hSW; go_simp <;> with_reducible rfl))
    try simp only [lays]
    (refine wpAnyH_take (i := 27) (oi := ⟨some 54, .slice 23 (.tmp 42) (some (.tmp 47)) (some (.tmp 53)) none, 23, "wallet.go:184", #[⟨15, .data⟩, ⟨20, .data⟩, ⟨26, .data⟩], none⟩) (v := .slice B5 m5 k6) rfl (by kernel_rfl) (by kernel_rfl) (by kernel_rfl) (fun _ _ _ h => h) ?hy27 hHeld ?_; case hy27 => (refine Or.inl ⟨by rfl, ?_⟩; intro W hSW; obtain ⟨c0, c1⟩ := vw_facts hSW; cases HPB.out with | inl h => (have hh := h.1; have hA := h.2; have e0 : k6 = 0 := (by omega); have e1 : hi2 ≤ lo2 := (by omega); have e2 : lo2 ≤ hi2 := (by omega); clear h; rw [hA, e0]; go_simp <;> rfl) | inr h => (have hh := h.1; have hA := h.2; have e2 : lo2 ≤ hi2 := (by omega); clear h; rw [hA]; go_simp <;> rfl)))
    try simp only [lays]
    (refine Go.Proofs.YtbfepgjeecndiaaGreat.wr 28 (oi := ⟨some 55, .build 25 #[(0, .tmp 40), (1, .tmp 54)], 25, "wallet.go:184", #[⟨13, .data⟩, ⟨27, .data⟩], none⟩) (v := ?_) rfl (by kernel_rfl) (by rfl) (fun _ _ _ h => h) ?h hHeld ?_; case h => (intro W hSW; go_simp <;> with_reducible rfl))
    try simp only [lays]
    refine wpAnyH_ready (rs := [29]) (by kernel_rfl) (by simp) ?_
    refine AllReadyH.cons (o := ⟨some 7, .alloc 25, 0, "wallet.go:184", #[], none⟩) rfl (fun K hK => ?_) AllReadyH.nil
    refine step_allocVw rfl (by rfl) ?_; intro g7 W7 h7; have HG7 := Lib.hid (Nat.le_trans HE.out.size h7.out.2.2); have HXX := Lib.hid (h7.out.2.1); have HE := Lib.hid (HE.out.trans HXX.out); have HRW := Lib.hid (HRW.out.ext HXX.out); have HG := Lib.hid h7.out.1; clear h7
    refine hK.out _ _ (hHeld.ext HXX.out) (fun hHeld => ?_)
    clear hK K
    try simp only [lays]
    refine wpAnyH_ready (rs := [30]) (by kernel_rfl) (by simp) ?_
    refine AllReadyH.cons (o := ⟨none, .store 25 (.tmp 7) (.tmp 55), 0, "wallet.go:184", #[⟨29, .data⟩, ⟨28, .data⟩, ⟨0, .phase⟩, ⟨1, .phase⟩, ⟨2, .phase⟩, ⟨3, .phase⟩, ⟨4, .phase⟩, ⟨5, .phase⟩, ⟨6, .phase⟩, ⟨7, .phase⟩, ⟨8, .phase⟩, ⟨9, .phase⟩, ⟨10, .phase⟩, ⟨11, .phase⟩, ⟨12, .phase⟩, ⟨13, .phase⟩, ⟨14, .phase⟩, ⟨15, .phase⟩, ⟨16, .phase⟩, ⟨17, .phase⟩, ⟨18, .phase⟩, ⟨19, .phase⟩, ⟨20, .phase⟩, ⟨21, .phase⟩, ⟨22, .phase⟩, ⟨23, .phase⟩, ⟨24, .phase⟩, ⟨25, .phase⟩, ⟨26, .phase⟩, ⟨27, .phase⟩, ⟨28, .phase⟩, ⟨29, .phase⟩], none⟩) rfl (fun K hK => ?_) AllReadyH.nil
    refine step_storeVw rfl (.tmp 7) (.tmp 55) (by rfl) g7 A5 n5 k5 B5 m5 k6 (by rfl) (by rfl) HG.out ?_; intro W10 h10; have HST := Lib.hid (VwB.ofStore HG.out HG7.out HE.out HRW.out h10.out); have hBg := HST.out.2.2.2 _ _ (by have := HGL.out; have := HG7.out; omega) hHeld; clear h10
    refine hK.out _ _ (hBg) (fun hHeld => ?_)
    clear hK K
    try simp only [lays]
    refine wpAnyH_done (by kernel_rfl) ?_ _
    clear p1 p2 p3 p4 p5 r1 r2 r3 r4 r5 hn5 hk5 hm5 hk6
    go_wp2_with fail
    go_meet
    exact ⟨g7, rfl, Lib.hid HST.out.2.1, Lib.hid HST.out.1, Lib.hid HST.out.2.2.1⟩
   case rest =>
    clear p1 p2 p3 p4 p5 r1 r2 r3 r4 r5 hn5 hk5 hm5 hk6 q0 q1 HPA HPB hg1
    obtain ⟨g7, rfl, HGU, HE10, HRW10⟩ := hcut
    clear HE HRW HBG
    obtain ⟨W8, hW8⟩ : ∃ W8, wc = W8 := ⟨_, rfl⟩
    rw [hW8] at HGU HE10 HRW10 ⊢
    clear hW8
    obtain ⟨q0, q1⟩ := vw_facts HGU.out
    have HPL := Lib.hid (show (prt L3 i).map SgR.V = prt LV i from by rw [prt_map, HL3.out])
    have HPX := Lib.hid (show (prt X3 i).map TeR.l = prt XV i from by rw [prt_map, HX3.out])
    have HPE := Lib.hid (rPcEnc2_any A5 n5 k5 (prt L3 i) B5 m5 k6 (prt X3 i) W8 (HS5.out.ext HE10.out) (HX5.out.ext HE10.out))
    have HPV := Lib.hid (show pcE (prt L3 i) (prt X3 i) = pcEV (prt LV i) (prt XV i) from by
     rw [pcE_V (L := prt L3 i) (X := prt X3 i) (fun S hS => HOKS.out S (List.mem_of_mem_drop (List.mem_of_mem_take hS))) (fun T hT => HOKX.out T (List.mem_of_mem_drop (List.mem_of_mem_take hT))), HPL.out, HPX.out])
    have HPC := Lib.hid (show encPc (prt L3 i) (prt X3 i) = encPcV (prt LV i) (prt XV i) from by rw [encPc_V, HPL.out, HPX.out])
    obtain ⟨z, hz⟩ : ∃ z, pcE (prt L3 i) (prt X3 i) = z := ⟨_, rfl⟩
    have HZ := Lib.hid hz
    clear hz HS5 HX5
    have HPE2 := Lib.hid (show Calls Tryz.prog 10 #[.agg (vwA A5 n5 k5 B5 m5 k6)] W8 (PcEnc2 W8 z (encPcV (prt LV i) (prt XV i))) from by rw [← HZ.out, ← HPC.out]; exact HPE.out)
    have HPV := Lib.hid (show pcEV (prt LV i) (prt XV i) = z from by rw [← HPV.out, HZ.out])
    clear HPE HZ HPC HPL HPX
    go_wp2_with fail
    refine HPE2.out.mono ?_
    rintro e w11 ⟨⟨hne, rfl⟩ | ⟨hz0, A6, n6, c6, rfl, ho6, hn6⟩, he11⟩
    ·have HSV := Lib.hid (show splV LV XV = ([], z) from by
      have h1 : pcEV (prt LV i) (prt XV i) ≠ 0 := by rw [HPV.out]; exact hne
      rw [← HSP.out, splF_no HNE.out h1, HPV.out])
     have z1 : (z != 0) = true := bne_iff_ne.2 hne
     have z2 : (z == 0) = false := beq_eq_false_iff_ne.2 hne
     clear HSP HPE2 q0 q1
     go_wp2_with fail
     go_ret2
     exact SpOut.mk HPO.out HSV.out (RwT.nil _ _) (Nat.le_refl _) rfl (fun T hT => by cases hT) ((HEW9.out.trans HE10.out).trans he11)
    ·have HSP2 := Lib.hid (show splF LV XV (splN LV XV - (i + 1)) (i + 1) ((D ++ [TeR.mk A6 n6 c6 (encPcV (prt LV i) (prt XV i))]).map TeR.l) = splV LV XV from by
      rw [← HSP.out, splF_yes HNE.out (by rw [HPV.out]; exact hz0), List.map_append]; rfl)
     have HDn2 := Lib.hid (show ∀ T ∈ D ++ [TeR.mk A6 n6 c6 (encPcV (prt LV i) (prt XV i))], T.n ≤ 10000000 from fun T hT => by
      rcases List.mem_append.1 hT with hT | hT
      ·exact HDn.out T hT
      ·rw [List.mem_singleton.1 hT]; exact hn6)
     obtain ⟨l6, hl6⟩ : ∃ l, encPcV (prt LV i) (prt XV i) = l := ⟨_, rfl⟩
     rw [hl6] at HSP2 HDn2 ho6
     have HE11 := Lib.hid (HE10.out.trans he11)
     have HRW11 := Lib.hid (HRW10.out.ext he11)
     have HO6 := Lib.hid (own_mono ho6 HE10.out.size)
     have hab : a ≤ n3 + m3 ∧ i + 1 ≤ 2000000000 := by have := HCOND.out; have := HAE.out; omega
     subst hz0
     clear hl6 ho6 he11 HSP HPE2 HDn HPV q0 q1
     go_wp2_with (at_builtin; go_must (refine wpList_appGG teE rfl (.tmp 64) (.tmp 66) rfl W9.heap.size A0 i c0 (gcs D) rfl ?r0 (some ⟨w11.heap.size, 0, none⟩) 1 1 [.slice A6 n6 c6] rfl ?r1 (by rfl) (fun u hu => by rw [List.mem_singleton.1 hu]; rfl) (by omega) (by omega) ?b1 ?_))
     case r0 => exact (HRW11.out.ext ((Ext.refl w11).alloc' _)).own
     case r1 => exact Rd.of_blk (Blk.new w11 28 #[.slice A6 n6 c6])
     case b1 => have := HE11.out.size; simp; omega
     intro A7 c7 w12 ho12 hg12
     have HRA := Lib.hid (HRW11.out.ext ((Ext.refl w11).alloc' (.cells #[.slice A6 n6 c6] 28)))
     have HOA := Lib.hid (show OwnB (w11.alloc (.cells #[.slice A6 n6 c6] 28)) W9.heap.size 5 A6 n6 c6 l6 from OwnB.alloc HO6.out _)
     have HEA := Lib.hid (HE11.out.alloc' (.cells #[.slice A6 n6 c6] 28))
     have HE12 := Lib.hid (Below.grown HEA.out hg12 HEA.out.size (fun k hk => (World.ownsRow.lt HRA.out.own k hk).1))
     have HRW12 := Lib.hid (HRA.out.push (T := ⟨A6, n6, c6, l6⟩) HOA.out hg12 ho12)
     clear ho12 hg12 HRA HOA HEA HRW11 HO6 HE11 HRW10 HE10 HGU
     go_wp2_with fail
     go_roundw
     case rel => exact ⟨i + 1, a + 64, A7, c7, _, by go_num, rfl, hab.2, by omega, Lib.hid (by have := HAE.out; omega), Lib.hid HNE.out, HRW12, HE12, HSP2, HDn2⟩
     case measure => simp [intOf]; have := HCOND.out; omega
end Go.Proofs.YtbfepgjeecndiaaGreat
