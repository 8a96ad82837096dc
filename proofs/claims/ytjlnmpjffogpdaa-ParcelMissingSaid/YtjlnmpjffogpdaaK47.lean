/- The reference's Missing: what another view has more. -/
import Derived.Test.YtjlnmpjffogpdaaK42
import Derived.Test.YtjlnmpjffogpdaaK46
import Derived.Test.YtjlnmpjffogpdaaLay
namespace Go.Proofs.Ytjlnmpjffogpdaa
open Go.RowKit
set_option linter.unusedVariables false
set_option linter.unusedSimpArgs false
attribute [local go_sem ↓] Go.wp_at_zero Go.wp_at_succ

set_option maxRecDepth 100000 in
theorem run_guardVt (P Q : VtR) (x y : Operand) (w : World) : (eqGuard .eql 28 x y (.agg (vtA P)) (.agg (vtA Q))).run Try.prog w = .ok () w := by kernel_rfl
theorem yields_eqVt {ops : Array Oper} {o : Oper} {a : Act} {S : World → Prop} (hw : Region.wanted o (yielded ops a.tmps) = true) (x y : Operand) {t2 : TypeId} (ho : o.op = .binOp .eql 28 x y t2) (P Q : VtR) (vp vq : Value) (hp : Value.agg (vtA P) = vp) (hq : Value.agg (vtA Q) = vq) (hP : P.wf) (hQ : Q.wf) (hx : a.eval x = vp) (hy : a.eval y = vq) : YieldsIf Try.prog ops S o (.bool (decide (P = Q))) a :=
  .inl ⟨hw, fun w hw' => by
    have h1 := run_guardVt P Q x y w
    have h2 := run_eqVt P Q hP hQ w
    rw [hp, hq] at h1 h2
    unfold execOp
    simp only [ho, hx, hy, Sem.run_bind, Sem.run_pure, h1, h2, Result.andThen_ok]⟩
/-- the state of the reference's Missing: its result in a block of its own, in rows of its own -/
structure RmS (W9 W : World) (A : Option Addr) (n c : Nat) (D : List SgR) (B : Option Addr) (m d : Nat) (X : List TeR) : Prop where
  blk : Blk W W9.heap.size 32 (vwA A n c B m d)
  own1 : W.ownsRow (W9.heap.size + 1) 45 23 (.slice A n c) n (gcs D)
  own2 : W.ownsRow (W9.heap.size + 1) 33 1 (.slice B m d) m (gcs X)
  low : Ext W9 W
section
variable {W9 w w' : World} {A A' : Option Addr} {n c c' : Nat} {D : List SgR} {B B' : Option Addr} {m d d' : Nat} {X : List TeR}
theorem RmS.ext (h : RmS W9 w A n c D B m d X) (he : Ext w w') : RmS W9 w' A n c D B m d X := ⟨h.blk.ext he, own_ext h.own1 he, own_ext h.own2 he, h.low.trans he⟩
theorem RmS.big (h : RmS W9 w A n c D B m d X) : W9.heap.size + 1 ≤ w.heap.size := h.blk.lt
theorem RmS.grow1 (h : RmS W9 w A n c D B m d X) (hg : w.grownBy w' (Value.ownBlock (.slice A n c))) : Ext W9 w' ∧ Blk w' W9.heap.size 32 (vwA A n c B m d) :=
  ⟨Below.grown h.low hg h.low.size (fun k hk => Nat.le_trans (Nat.le_succ _) (World.ownsRow.lt h.own1 k hk).1), h.blk.grown hg (own_other h.own1 h.blk (by decide))⟩
theorem RmS.grow2 (h : RmS W9 w A n c D B m d X) (hg : w.grownBy w' (Value.ownBlock (.slice B m d))) : Ext W9 w' ∧ Blk w' W9.heap.size 32 (vwA A n c B m d) :=
  ⟨Below.grown h.low hg h.low.size (fun k hk => Nat.le_trans (Nat.le_succ _) (World.ownsRow.lt h.own2 k hk).1), h.blk.grown hg (own_other h.own2 h.blk (by decide))⟩
theorem RmS.push1 (h : RmS W9 w A n c D B m d X) {S : SgR} (hg : w.grownBy w' (Value.ownBlock (.slice A n c))) (ho : w'.ownsRow (W9.heap.size + 1) 45 23 (.slice A' (n + 1) c') (n + 1) (gcs D ++ sgL S)) : RmS W9 (w'.setCell ⟨W9.heap.size, 0, none⟩ (.slice A' (n + 1) c')) A' (n + 1) c' (D ++ [S]) B m d X := by
  obtain ⟨h1, h2⟩ := h.grow1 hg
  have h3 := grown_set w' W9.heap.size 0 (.slice A' (n + 1) c')
  have h4 := World.ownsRow.kept h.own2 hg (own_ne h.own2 h.own1 (by decide))
  refine ⟨h2.set 0 _, ?_, World.ownsRow.kept h4 h3 (.inr (Ne.symm (own_other h4 h2 (by decide)))), h1.setCell (p := ⟨W9.heap.size, 0, none⟩) (Nat.le_refl _) _⟩
  rw [gcs_append, gcs_one]
  exact World.ownsRow.kept ho h3 (.inr (Ne.symm (own_other ho h2 (by decide))))
theorem RmS.push2 (h : RmS W9 w A n c D B m d X) {T : TeR} (hg : w.grownBy w' (Value.ownBlock (.slice B m d))) (ho : w'.ownsRow (W9.heap.size + 1) 33 1 (.slice B' (m + 1) d') (m + 1) (gcs X ++ [.slice T.A T.n T.c])) : RmS W9 (w'.setCell ⟨W9.heap.size, 1, none⟩ (.slice B' (m + 1) d')) A n c D B' (m + 1) d' (X ++ [T]) := by
  obtain ⟨h1, h2⟩ := h.grow2 hg
  have h3 := grown_set w' W9.heap.size 1 (.slice B' (m + 1) d')
  have h4 := World.ownsRow.kept h.own1 hg (own_ne h.own1 h.own2 (by decide))
  refine ⟨h2.set 1 _, World.ownsRow.kept h4 h3 (.inr (Ne.symm (own_other h4 h2 (by decide)))), ?_, h1.setCell (p := ⟨W9.heap.size, 1, none⟩) (Nat.le_refl _) _⟩
  rw [gcs_append, gcs_one]
  exact World.ownsRow.kept ho h3 (.inr (Ne.symm (own_other ho h2 (by decide))))
end
theorem flt_no {α : Type} [RowT α] {L : List α} {i : Nat} {p : α → Bool} (hi : i < L.length) (h : p (nthG L i) = false) : (L.take (i + 1)).filter p = (L.take i).filter p := by
  rw [take_nthG hi, List.filter_append, List.filter_cons_of_neg (by rw [h]; simp), List.filter_nil, List.append_nil]
theorem flt_yes {α : Type} [RowT α] {L : List α} {i : Nat} {p : α → Bool} (hi : i < L.length) (h : p (nthG L i) = true) : (L.take (i + 1)).filter p = (L.take i).filter p ++ [nthG L i] := by
  rw [take_nthG hi, List.filter_append, List.filter_cons_of_pos h, List.filter_nil]
theorem any_v (L : List SgR) (v : VtR) : L.any (fun S => decide (S.v = v)) = decide (v ∈ L.map SgR.v) := by
  rw [Bool.eq_iff_iff, List.any_eq_true, decide_eq_true_eq, List.mem_map]
  constructor
  · rintro ⟨x, hx, h⟩; exact ⟨x, hx, of_decide_eq_true h⟩
  · rintro ⟨x, hx, h⟩; exact ⟨x, hx, decide_eq_true h⟩
theorem any_l (X : List TeR) (l : List UInt8) : X.any (fun S => decide (S.l = l)) = decide (l ∈ X.map TeR.l) := by
  rw [Bool.eq_iff_iff, List.any_eq_true, decide_eq_true_eq, List.mem_map]
  constructor
  · rintro ⟨x, hx, h⟩; exact ⟨x, hx, of_decide_eq_true h⟩
  · rintro ⟨x, hx, h⟩; exact ⟨x, hx, decide_eq_true h⟩
set_option maxRecDepth 100000 in
set_option maxHeartbeats 32000000 in
theorem refMissing_any (A1 : Option Addr) (n1 c1 : Nat) (L1 : List SgR) (B1 : Option Addr) (m1 d1 : Nat) (X1 : List TeR) (A2 : Option Addr) (n2 c2 : Nat) (L2 : List SgR) (B2 : Option Addr) (m2 d2 : Nat) (X2 : List TeR) (w : World) (hS : SlG w A1 n1 c1 L1) (hX : SlG w B1 m1 d1 X1) (hS2 : SlG w A2 n2 c2 L2) (hX2 : SlG w B2 m2 d2 X2) (hn1 : n1 ≤ 1000000) (hm1 : m1 ≤ 1000000) (hn2 : n2 ≤ 1000000) (hm2 : m2 ≤ 1000000)
    (hSn : ∀ S, S ∈ L2 → S.n ≤ 140737488355328) (hXn : ∀ T, T ∈ X2 → T.n ≤ 140737488355328) :
    Calls Try.prog 13 #[.agg (vwA A1 n1 c1 B1 m1 d1), .agg (vwA A2 n2 c2 B2 m2 d2)] w (MiOut w L1 X1 L2 X2 n2 m2) := by
  have hcx1 := hS.cap
  have hcx2 := hX.cap
  obtain ⟨W2, hW2⟩ : ∃ W2, ((w.alloc (.cells (vwA A1 n1 c1 B1 m1 d1) 32)).alloc (.cells (vwA A2 n2 c2 B2 m2 d2) 32)).alloc (.cells (vwA none 0 0 none 0 0) 32) = W2 := ⟨_, rfl⟩
  have HEW := Lib.hid (show Ext w W2 from by rw [← hW2]; exact (((Ext.refl w).alloc' _).alloc' _).alloc' _)
  have HPA := Lib.hid (show Blk W2 w.heap.size 32 (vwA A1 n1 c1 B1 m1 d1) from by rw [← hW2]; exact ((Blk.new w 32 (vwA A1 n1 c1 B1 m1 d1)).alloc _).alloc _)
  have HPB := Lib.hid (show Blk W2 (w.heap.size + 1) 32 (vwA A2 n2 c2 B2 m2 d2) from by rw [← hW2]; exact (Blk.newAt (w.alloc _) _ _ (w.heap.size + 1) (by simp)).alloc _)
  have HPR := Lib.hid (show Blk W2 (w.heap.size + 2) 32 (vwA none 0 0 none 0 0) from by rw [← hW2]; exact Blk.newAt ((w.alloc _).alloc _) _ _ (w.heap.size + 2) (by simp))
  have HU := Lib.hid (refUnion_any A2 n2 c2 L2 B2 m2 d2 X2 none 0 0 [] none 0 0 [] W2 (hS2.ext HEW.out) (hX2.ext HEW.out) (SlG.nil _) (SlG.nil _) hn2 hm2 (by omega) (by omega) (by rw [List.append_nil]; exact hSn) (by rw [List.append_nil]; exact hXn))
  rw [List.append_nil, List.append_nil] at HU
  obtain ⟨p0, p1⟩ := vw_facts HPB.out
  have HS := Lib.hid hS
  have HX := Lib.hid hX
  have HL1 := Lib.hid hS.len
  have HX1 := Lib.hid hX.len
  clear hS hX hS2 hX2 hSn hXn
  go_enter Try.func13, Try.ntmps13
  go_upto_region 2 with (first | (go_at_call 14; (with_reducible refine HU.out.mono ?_); rintro e w3 ⟨Au, nu, cu, LU, Bu, mu, du, XU, rfl, hvu, hLU, hXU, hnu, hmu, he3⟩))
  obtain ⟨g, hg⟩ : ∃ q, w3.heap.size = q := ⟨_, rfl⟩
  obtain ⟨W9, hW9⟩ : ∃ W, w3.alloc (.cells (vwA Au nu cu Bu mu du) 32) = W := ⟨_, rfl⟩
  have HX9 := Lib.hid (show Ext w3 W9 from by rw [← hW9]; exact (Ext.refl w3).alloc' _)
  have HBU := Lib.hid (show Blk W9 g 32 (vwA Au nu cu Bu mu du) from by rw [← hW9, ← hg]; exact Blk.new _ _ _)
  have HBA := Lib.hid (HPA.out.ext (he3.trans HX9.out))
  have HBR := Lib.hid (HPR.out.ext (he3.trans HX9.out))
  have HVU := Lib.hid ((hvu.ext HX9.out).mono HEW.out.size)
  have HE9 := Lib.hid ((HEW.out.trans he3).trans HX9.out)
  have HLV := Lib.hid hLU
  have HXV := Lib.hid hXU
  have HN2 := Lib.hid (show W2.heap.size = w.heap.size + 3 from by rw [← hW2]; simp)
  have HRB := Lib.hid (show w.heap.size + 2 < W9.heap.size from by have h1 := HEW.out.size; have h2 := he3.size; have h3 := HX9.out.size; have := HN2.out; omega)
  have hnu2 : nu ≤ 1000000 := by omega
  have hmu2 : mu ≤ 1000000 := by omega
  rw [hW9, hg]
  clear hW9 hg he3 hvu hLU hXU HU HPA HPB HPR HX9 p0 p1 hW2 HN2 HEW
  obtain ⟨W10, hW10⟩ : ∃ W, W9.alloc (.cells (vwA none 0 0 none 0 0) 32) = W := ⟨_, rfl⟩
  have HM := Lib.hid (show RmS W9 W10 none 0 0 [] none 0 0 [] from by rw [← hW10]; exact ⟨Blk.new _ _ _, World.ownsRow_nil _ _ _ _, World.ownsRow_nil _ _ _ _, (Ext.refl _).alloc' _⟩)
  have HSU := Lib.hid (show SlG W9 Au nu cu LU from HVU.out.sl1)
  have HXU := Lib.hid (show SlG W9 Bu mu du XU from HVU.out.sl2)
  have HSA := Lib.hid (HS.out.ext HE9.out)
  have HXA := Lib.hid (HX.out.ext HE9.out)
  have HLU := Lib.hid HSU.out.len
  have HLX := Lib.hid HXU.out.len
  have hcu1 := HSU.out.cap
  have hcu2 := HXU.out.cap
  clear HS HX
  go_upto_region 3 with (fail)
  clear hW10
  obtain ⟨p, hp⟩ : ∃ p : SgR → Bool, (fun S => !decide (S.v ∈ L1.map SgR.v)) = p := ⟨_, rfl⟩
  have HP := Lib.hid hp
  obtain ⟨pt, hpt⟩ : ∃ p : TeR → Bool, (fun T => !decide (T.l ∈ X1.map TeR.l)) = p := ⟨_, rfl⟩
  have HPT := Lib.hid hpt
  clear hp hpt
  go_wp2_with fail
  go_loopw [7] (fun vi wr => ∃ (i : Nat) (A : Option Addr) (nn c : Nat) (D : List SgR), vi = .int .i64 (i : Int) ∧ i ≤ nu ∧ nn ≤ i ∧ Hid (D = (LU.take i).filter p) ∧ Hid (RmS W9 wr A nn c D none 0 0 [])) (fun i _ => nu - (intOf i).toNat)
  case atStart => exact ⟨0, none, 0, 0, [], rfl, Nat.zero_le _, Nat.le_refl _, Lib.hid rfl, HM⟩
  case round =>
    clear HM
    obtain ⟨i, A, nn, c, D, rfl, hi, hnn, HD, HM⟩ := hrel
    obtain ⟨e0, e1⟩ := vw_facts (HBU.out.ext HM.out.low)
    by_cases hlt : i < nu
    · obtain ⟨b2, o2, rfl, hr2, hb2⟩ := HSU.out.at (by omega)
      have i1 : (i : Int) < (nu : Int) := by omega
      obtain ⟨U, hU⟩ : ∃ U, nthG LU i = U := ⟨_, rfl⟩
      have HRS := Lib.hid (fun (W : World) (he : Ext W9 W) => (show W.rangeAt b2 (o2 + i * 23) (sgL (nthG LU i)) from el_at (rangeAt_keep hr2 (he.block b2 hb2)) (k := i) (by rw [HLU.out]; exact hlt)))
      have HWU := Lib.hid ((HSU.out.nth (k := i) hlt).v)
      rw [hU] at HRS HWU
      have HUE := Lib.hid hU
      have HRU := Lib.hid (fun (W : World) (he : Ext W9 W) => (rangeAt_take (k := 22) (HRS.out W he) : W.rangeAt b2 (o2 + i * 23) (vtL U.v)))
      obtain ⟨vq, hvq⟩ : ∃ v, Value.agg (vtA U.v) = v := ⟨_, rfl⟩
      have HVQ := Lib.hid hvq
      obtain ⟨vu, hvu⟩ : ∃ v, Value.agg (sgA U) = v := ⟨_, rfl⟩
      have HVU' := Lib.hid hvu
      clear hU hr2 hvq hvu
      obtain ⟨W0, rfl⟩ : ∃ W0, W0 = wr := ⟨_, rfl⟩
      have HZW := Lib.hid HM.out.low
      go_wp2_with fail
      clear e0 e1
      go_loopw [8, 9] (fun vb vk wr => ∃ (k : Nat) (kn : Bool), vk = .int .i64 (k : Int) ∧ vb = .bool kn ∧ k ≤ n1 ∧ Hid ((L1.take k).any (fun S => decide (S.v = U.v)) = kn) ∧ Hid (Ext W0 wr)) (fun _ k _ => n1 - (intOf k).toNat)
      case atStart => exact ⟨0, false, rfl, rfl, Nat.zero_le _, Lib.hid rfl, Lib.hid (Ext.refl _)⟩
      case round =>
        obtain ⟨k, kn, rfl, rfl, hkn, HKN, HZ⟩ := hrel
        have HZ0' := Lib.hid (HZW.out.trans HZ.out)
        obtain ⟨c0, c1⟩ := vw_facts (HBA.out.ext HZ0'.out)
        by_cases hk2 : k < n1
        · have i2 : (k : Int) < (n1 : Int) := by omega
          obtain ⟨b1, o1, rfl, hr1, hb1⟩ := HSA.out.at (by omega)
          obtain ⟨P, hP⟩ : ∃ P, nthG L1 k = P := ⟨_, rfl⟩
          have HRP := Lib.hid (fun (W : World) (he : Ext W9 W) => (show W.rangeAt b1 (o1 + k * 23) (vtL (nthG L1 k).v) from rangeAt_take (k := 22) (el_at (rangeAt_keep hr1 (he.block b1 hb1)) (k := k) (by rw [HL1.out]; exact hk2))))
          have HWP := Lib.hid ((HSA.out.nth (k := k) hk2).v)
          rw [hP] at HRP HWP
          have HPE := Lib.hid hP
          obtain ⟨vp, hvp⟩ : ∃ v, Value.agg (vtA P.v) = v := ⟨_, rfl⟩
          have HVP := Lib.hid hvp
          clear hP hr1 hvp
          have HZ0 := HZ0'
          clear HZ0'
          cases kn with
          | true =>
            go_wp2_with fail
            refine wp_region_plan (S := fun W => Ext wr W) (by kernel_rfl) (by kernel_rfl) ((Ext.refl wr).drew') ?_
            (refine plan_take (i := 0) (oi := ⟨some 30, .move (.tmp 8), 4, "wallet.go:161", #[], none⟩) (v := ?_) rfl (by kernel_rfl) (by kernel_rfl) (fx_read (Or.inl ⟨by rfl, ?hy3_0⟩)) ?_; case hy3_0 => (intro W hSW; go_simp <;> with_reducible rfl))
            try simp only [lays]
            (refine plan_take (i := 1) (oi := ⟨some 31, .move (.tmp 30), 4, "wallet.go:161", #[⟨0, .data⟩], none⟩) (v := ?_) rfl (by kernel_rfl) (by kernel_rfl) (fx_read (Or.inl ⟨by rfl, ?hy3_1⟩)) ?_; case hy3_1 => (intro W hSW; go_simp <;> with_reducible rfl))
            try simp only [lays]
            refine plan_oi (i := 2) (oi := ⟨some 32, .fieldAddr 32 (.tmp 2) 0, 0, "wallet.go:161", #[⟨1, .guard⟩], some (1, false)⟩) rfl (by kernel_rfl) (by kernel_rfl) ?_
            first | (refine ⟨?_, (fx_read (Or.inl ⟨by rfl, ?hy3_2⟩)), ?_⟩; case hy3_2 => (intro W hSW; go_simp <;> with_reducible rfl)) | (refine ⟨undef, fx_skip (by rfl), ?_⟩)
            try simp only [lays]
            refine plan_oi (i := 3) (oi := ⟨some 33, .load 29 (.tmp 32), 29, "wallet.go:161", #[⟨2, .data⟩, ⟨1, .guard⟩], some (1, false)⟩) rfl (by kernel_rfl) (by kernel_rfl) ?_
            first | (refine ⟨?_, (fx_read (Or.inl ⟨by rfl, ?hy3_3⟩)), ?_⟩; case hy3_3 => (intro W hSW; go_simp <;> with_reducible rfl)) | (refine ⟨undef, fx_skip (by rfl), ?_⟩)
            try simp only [lays]
            refine plan_oi (i := 4) (oi := ⟨some 34, .move (.tmp 9), 3, "wallet.go:161", #[⟨1, .guard⟩], some (1, false)⟩) rfl (by kernel_rfl) (by kernel_rfl) ?_
            first | (refine ⟨?_, (fx_read (Or.inl ⟨by rfl, ?hy3_4⟩)), ?_⟩; case hy3_4 => (intro W hSW; go_simp <;> with_reducible rfl)) | (refine ⟨undef, fx_skip (by rfl), ?_⟩)
            try simp only [lays]
            refine plan_oi (i := 5) (oi := ⟨some 35, .indexAddr 29 (.tmp 33) (.tmp 34), 0, "wallet.go:161", #[⟨3, .data⟩, ⟨4, .data⟩, ⟨1, .guard⟩], some (1, false)⟩) rfl (by kernel_rfl) (by kernel_rfl) ?_
            first | (refine ⟨?_, (fx_read (Or.inl ⟨by rfl, ?hy3_5⟩)), ?_⟩; case hy3_5 => (intro W hSW; go_simp <;> with_reducible rfl)) | (refine ⟨undef, fx_skip (by rfl), ?_⟩)
            try simp only [lays]
            refine plan_oi (i := 6) (oi := ⟨some 36, .fieldAddr 45 (.tmp 35) 0, 0, "wallet.go:161", #[⟨5, .data⟩, ⟨1, .guard⟩], some (1, false)⟩) rfl (by kernel_rfl) (by kernel_rfl) ?_
            first | (refine ⟨?_, (fx_read (Or.inl ⟨by rfl, ?hy3_6⟩)), ?_⟩; case hy3_6 => (intro W hSW; go_simp <;> with_reducible rfl)) | (refine ⟨undef, fx_skip (by rfl), ?_⟩)
            try simp only [lays]
            refine plan_oi (i := 7) (oi := ⟨some 37, .load 28 (.tmp 36), 28, "wallet.go:161", #[⟨6, .data⟩, ⟨1, .guard⟩], some (1, false)⟩) rfl (by kernel_rfl) (by kernel_rfl) ?_
            first | (refine ⟨?_, (fx_read (Or.inl ⟨by rfl, ?hy3_7⟩)), ?_⟩; case hy3_7 => (intro W hSW; go_simp <;> with_reducible rfl)) | (refine ⟨undef, fx_skip (by rfl), ?_⟩)
            try simp only [lays]
            refine plan_oi (i := 8) (oi := ⟨some 38, .fieldAddr 32 (.tmp 5) 0, 0, "wallet.go:161", #[⟨1, .guard⟩], some (1, false)⟩) rfl (by kernel_rfl) (by kernel_rfl) ?_
            first | (refine ⟨?_, (fx_read (Or.inl ⟨by rfl, ?hy3_8⟩)), ?_⟩; case hy3_8 => (intro W hSW; go_simp <;> with_reducible rfl)) | (refine ⟨undef, fx_skip (by rfl), ?_⟩)
            try simp only [lays]
            refine plan_oi (i := 9) (oi := ⟨some 39, .load 29 (.tmp 38), 29, "wallet.go:161", #[⟨8, .data⟩, ⟨1, .guard⟩], some (1, false)⟩) rfl (by kernel_rfl) (by kernel_rfl) ?_
            first | (refine ⟨?_, (fx_read (Or.inl ⟨by rfl, ?hy3_9⟩)), ?_⟩; case hy3_9 => (intro W hSW; go_simp <;> with_reducible rfl)) | (refine ⟨undef, fx_skip (by rfl), ?_⟩)
            try simp only [lays]
            refine plan_oi (i := 10) (oi := ⟨some 40, .move (.tmp 7), 3, "wallet.go:161", #[⟨1, .guard⟩], some (1, false)⟩) rfl (by kernel_rfl) (by kernel_rfl) ?_
            first | (refine ⟨?_, (fx_read (Or.inl ⟨by rfl, ?hy3_10⟩)), ?_⟩; case hy3_10 => (intro W hSW; go_simp <;> with_reducible rfl)) | (refine ⟨undef, fx_skip (by rfl), ?_⟩)
            try simp only [lays]
            refine plan_oi (i := 11) (oi := ⟨some 41, .indexAddr 29 (.tmp 39) (.tmp 40), 0, "wallet.go:161", #[⟨9, .data⟩, ⟨10, .data⟩, ⟨1, .guard⟩], some (1, false)⟩) rfl (by kernel_rfl) (by kernel_rfl) ?_
            first | (refine ⟨?_, (fx_read (Or.inl ⟨by rfl, ?hy3_11⟩)), ?_⟩; case hy3_11 => (intro W hSW; go_simp <;> with_reducible rfl)) | (refine ⟨undef, fx_skip (by rfl), ?_⟩)
            try simp only [lays]
            refine plan_oi (i := 12) (oi := ⟨some 42, .fieldAddr 45 (.tmp 41) 0, 0, "wallet.go:161", #[⟨11, .data⟩, ⟨1, .guard⟩], some (1, false)⟩) rfl (by kernel_rfl) (by kernel_rfl) ?_
            first | (refine ⟨?_, (fx_read (Or.inl ⟨by rfl, ?hy3_12⟩)), ?_⟩; case hy3_12 => (intro W hSW; go_simp <;> with_reducible rfl)) | (refine ⟨undef, fx_skip (by rfl), ?_⟩)
            try simp only [lays]
            refine plan_oi (i := 13) (oi := ⟨some 43, .load 28 (.tmp 42), 28, "wallet.go:161", #[⟨12, .data⟩, ⟨1, .guard⟩], some (1, false)⟩) rfl (by kernel_rfl) (by kernel_rfl) ?_
            first | (refine ⟨?_, (fx_read (Or.inl ⟨by rfl, ?hy3_13⟩)), ?_⟩; case hy3_13 => (intro W hSW; go_simp <;> with_reducible rfl)) | (refine ⟨undef, fx_skip (by rfl), ?_⟩)
            try simp only [lays]
            refine plan_oi (i := 14) (oi := ⟨some 44, .binOp .eql 28 (.tmp 37) (.tmp 43) 28, 4, "wallet.go:161", #[⟨7, .data⟩, ⟨13, .data⟩, ⟨1, .guard⟩], some (1, false)⟩) rfl (by kernel_rfl) (by kernel_rfl) ?_
            first | (refine ⟨?_, (fx_read (Or.inl ⟨by rfl, ?hy3_14⟩)), ?_⟩; case hy3_14 => (intro W hSW; go_simp <;> with_reducible rfl)) | (refine ⟨undef, fx_skip (by rfl), ?_⟩)
            try simp only [lays]
            (refine plan_take (i := 15) (oi := ⟨some 45, .pick (.tmp 31) (.const (.bool true)) (.tmp 44), 4, "wallet.go:161", #[⟨1, .data⟩, ⟨14, .data⟩], none⟩) (v := ?_) rfl (by kernel_rfl) (by kernel_rfl) (fx_read (Or.inl ⟨by rfl, ?hy3_15⟩)) ?_; case hy3_15 => (intro W hSW; go_simp <;> with_reducible rfl))
            try simp only [lays]
            (refine plan_take (i := 16) (oi := ⟨some 8, .assign (.tmp 45), 4, "wallet.go:161", #[⟨15, .data⟩, ⟨1, .chain⟩, ⟨0, .phase⟩, ⟨1, .phase⟩, ⟨2, .phase⟩, ⟨3, .phase⟩, ⟨4, .phase⟩, ⟨5, .phase⟩, ⟨6, .phase⟩, ⟨7, .phase⟩, ⟨8, .phase⟩, ⟨9, .phase⟩, ⟨10, .phase⟩, ⟨11, .phase⟩, ⟨12, .phase⟩, ⟨13, .phase⟩, ⟨14, .phase⟩, ⟨15, .phase⟩], none⟩) (v := ?_) rfl (by kernel_rfl) (by kernel_rfl) (fx_read (Or.inl ⟨by rfl, ?hy3_16⟩)) ?_; case hy3_16 => (intro W hSW; go_simp <;> with_reducible rfl))
            try simp only [lays]
            refine Plan.done (by kernel_rfl) (fun W hSW => ?_)
            have HZ2 := Lib.hid (HZ.out.trans hSW)
            have HKN2 := Lib.hid (show (L1.take (k + 1)).any (fun S => decide (S.v = U.v)) = true from by
              rw [take_nthG (L := L1) (k := k) (by rw [HL1.out]; exact hk2), List.any_append, HKN.out, HPE.out]
              simp )
            clear hSW HKN
            go_wp2_with fail
            go_roundw
            case rel => exact ⟨k + 1, true, by go_num, rfl, hk2, HKN2, HZ2⟩
            case measure => simp [intOf]; omega
          | false =>
            by_cases hpe : P.v = U.v
            · skip
              have hde : decide (P.v = U.v) = true := decide_eq_true hpe
              have HDE := Lib.hid hde
              clear hpe
              go_wp2_with fail
              refine wp_region_plan (S := fun W => Ext wr W) (by kernel_rfl) (by kernel_rfl) ((Ext.refl wr).drew') ?_
              (refine plan_take (i := 0) (oi := ⟨some 30, .move (.tmp 8), 4, "wallet.go:161", #[], none⟩) (v := ?_) rfl (by kernel_rfl) (by kernel_rfl) (fx_read (Or.inl ⟨by rfl, ?hy4_0⟩)) ?_; case hy4_0 => (intro W hSW; go_simp <;> with_reducible rfl))
              try simp only [lays]
              (refine plan_take (i := 1) (oi := ⟨some 31, .move (.tmp 30), 4, "wallet.go:161", #[⟨0, .data⟩], none⟩) (v := ?_) rfl (by kernel_rfl) (by kernel_rfl) (fx_read (Or.inl ⟨by rfl, ?hy4_1⟩)) ?_; case hy4_1 => (intro W hSW; go_simp <;> with_reducible rfl))
              try simp only [lays]
              refine plan_oi (i := 2) (oi := ⟨some 32, .fieldAddr 32 (.tmp 2) 0, 0, "wallet.go:161", #[⟨1, .guard⟩], some (1, false)⟩) rfl (by kernel_rfl) (by kernel_rfl) ?_
              first | (refine ⟨?_, (fx_read (Or.inl ⟨by rfl, ?hy4_2⟩)), ?_⟩; case hy4_2 => (intro W hSW; go_simp <;> with_reducible rfl)) | (refine ⟨undef, fx_skip (by rfl), ?_⟩)
              try simp only [lays]
              refine plan_oi (i := 3) (oi := ⟨some 33, .load 29 (.tmp 32), 29, "wallet.go:161", #[⟨2, .data⟩, ⟨1, .guard⟩], some (1, false)⟩) rfl (by kernel_rfl) (by kernel_rfl) ?_
              first | (refine ⟨?_, (fx_read (Or.inl ⟨by rfl, ?hy4_3⟩)), ?_⟩; case hy4_3 => (intro W hSW; obtain ⟨c0, c1⟩ := vw_facts (HBA.out.ext (HZ0.out.trans hSW)); obtain ⟨e0, e1⟩ := vw_facts (HBU.out.ext (HZ0.out.trans hSW)); go_simp <;> with_reducible rfl)) | (refine ⟨undef, fx_skip (by rfl), ?_⟩)
              try simp only [lays]
              refine plan_oi (i := 4) (oi := ⟨some 34, .move (.tmp 9), 3, "wallet.go:161", #[⟨1, .guard⟩], some (1, false)⟩) rfl (by kernel_rfl) (by kernel_rfl) ?_
              first | (refine ⟨?_, (fx_read (Or.inl ⟨by rfl, ?hy4_4⟩)), ?_⟩; case hy4_4 => (intro W hSW; go_simp <;> with_reducible rfl)) | (refine ⟨undef, fx_skip (by rfl), ?_⟩)
              try simp only [lays]
              refine plan_oi (i := 5) (oi := ⟨some 35, .indexAddr 29 (.tmp 33) (.tmp 34), 0, "wallet.go:161", #[⟨3, .data⟩, ⟨4, .data⟩, ⟨1, .guard⟩], some (1, false)⟩) rfl (by kernel_rfl) (by kernel_rfl) ?_
              first | (refine ⟨?_, (fx_read (Or.inl ⟨by rfl, ?hy4_5⟩)), ?_⟩; case hy4_5 => (intro W hSW; go_simp <;> with_reducible rfl)) | (refine ⟨undef, fx_skip (by rfl), ?_⟩)
              try simp only [lays]
              refine plan_oi (i := 6) (oi := ⟨some 36, .fieldAddr 45 (.tmp 35) 0, 0, "wallet.go:161", #[⟨5, .data⟩, ⟨1, .guard⟩], some (1, false)⟩) rfl (by kernel_rfl) (by kernel_rfl) ?_
              first | (refine ⟨?_, (fx_read (Or.inl ⟨by rfl, ?hy4_6⟩)), ?_⟩; case hy4_6 => (intro W hSW; go_simp <;> with_reducible rfl)) | (refine ⟨undef, fx_skip (by rfl), ?_⟩)
              try simp only [lays]
              first | (refine plan_take (i := 7) (oi := ⟨some 37, .load 28 (.tmp 36), 28, "wallet.go:161", #[⟨6, .data⟩, ⟨1, .guard⟩], some (1, false)⟩) (v := vp) rfl (by kernel_rfl) (by kernel_rfl) (fx_read ?hy4_7) ?_; case hy4_7 => (refine yields_loadVtV ?hw (.tmp 36) rfl b1 (o1 + k * 23) ?hx P.v vp HVP.out (fun W hSW => HRP.out W (HZ0.out.trans hSW)); (case hw => rfl); (case hx => rfl))) | (refine plan_take (i := 7) (oi := ⟨some 37, .load 28 (.tmp 36), 28, "wallet.go:161", #[⟨6, .data⟩, ⟨1, .guard⟩], some (1, false)⟩) (v := undef) rfl (by kernel_rfl) (by kernel_rfl) (fx_skip (by rfl)) ?_) | fail "OP7"
              try simp only [lays]
              refine plan_oi (i := 8) (oi := ⟨some 38, .fieldAddr 32 (.tmp 5) 0, 0, "wallet.go:161", #[⟨1, .guard⟩], some (1, false)⟩) rfl (by kernel_rfl) (by kernel_rfl) ?_
              first | (refine ⟨?_, (fx_read (Or.inl ⟨by rfl, ?hy4_8⟩)), ?_⟩; case hy4_8 => (intro W hSW; go_simp <;> with_reducible rfl)) | (refine ⟨undef, fx_skip (by rfl), ?_⟩)
              try simp only [lays]
              refine plan_oi (i := 9) (oi := ⟨some 39, .load 29 (.tmp 38), 29, "wallet.go:161", #[⟨8, .data⟩, ⟨1, .guard⟩], some (1, false)⟩) rfl (by kernel_rfl) (by kernel_rfl) ?_
              first | (refine ⟨?_, (fx_read (Or.inl ⟨by rfl, ?hy4_9⟩)), ?_⟩; case hy4_9 => (intro W hSW; obtain ⟨c0, c1⟩ := vw_facts (HBA.out.ext (HZ0.out.trans hSW)); obtain ⟨e0, e1⟩ := vw_facts (HBU.out.ext (HZ0.out.trans hSW)); go_simp <;> with_reducible rfl)) | (refine ⟨undef, fx_skip (by rfl), ?_⟩)
              try simp only [lays]
              refine plan_oi (i := 10) (oi := ⟨some 40, .move (.tmp 7), 3, "wallet.go:161", #[⟨1, .guard⟩], some (1, false)⟩) rfl (by kernel_rfl) (by kernel_rfl) ?_
              first | (refine ⟨?_, (fx_read (Or.inl ⟨by rfl, ?hy4_10⟩)), ?_⟩; case hy4_10 => (intro W hSW; go_simp <;> with_reducible rfl)) | (refine ⟨undef, fx_skip (by rfl), ?_⟩)
              try simp only [lays]
              refine plan_oi (i := 11) (oi := ⟨some 41, .indexAddr 29 (.tmp 39) (.tmp 40), 0, "wallet.go:161", #[⟨9, .data⟩, ⟨10, .data⟩, ⟨1, .guard⟩], some (1, false)⟩) rfl (by kernel_rfl) (by kernel_rfl) ?_
              first | (refine ⟨?_, (fx_read (Or.inl ⟨by rfl, ?hy4_11⟩)), ?_⟩; case hy4_11 => (intro W hSW; go_simp <;> with_reducible rfl)) | (refine ⟨undef, fx_skip (by rfl), ?_⟩)
              try simp only [lays]
              refine plan_oi (i := 12) (oi := ⟨some 42, .fieldAddr 45 (.tmp 41) 0, 0, "wallet.go:161", #[⟨11, .data⟩, ⟨1, .guard⟩], some (1, false)⟩) rfl (by kernel_rfl) (by kernel_rfl) ?_
              first | (refine ⟨?_, (fx_read (Or.inl ⟨by rfl, ?hy4_12⟩)), ?_⟩; case hy4_12 => (intro W hSW; go_simp <;> with_reducible rfl)) | (refine ⟨undef, fx_skip (by rfl), ?_⟩)
              try simp only [lays]
              first | (refine plan_take (i := 13) (oi := ⟨some 43, .load 28 (.tmp 42), 28, "wallet.go:161", #[⟨12, .data⟩, ⟨1, .guard⟩], some (1, false)⟩) (v := vq) rfl (by kernel_rfl) (by kernel_rfl) (fx_read ?hy4_13) ?_; case hy4_13 => (refine yields_loadVtV ?hw (.tmp 42) rfl b2 (o2 + i * 23) ?hx U.v vq HVQ.out (fun W hSW => HRU.out W (HZ0.out.trans hSW)); (case hw => rfl); (case hx => rfl))) | (refine plan_take (i := 13) (oi := ⟨some 43, .load 28 (.tmp 42), 28, "wallet.go:161", #[⟨12, .data⟩, ⟨1, .guard⟩], some (1, false)⟩) (v := undef) rfl (by kernel_rfl) (by kernel_rfl) (fx_skip (by rfl)) ?_) | fail "OP13"
              try simp only [lays]
              first | (refine plan_take (i := 14) (oi := ⟨some 44, .binOp .eql 28 (.tmp 37) (.tmp 43) 28, 4, "wallet.go:161", #[⟨7, .data⟩, ⟨13, .data⟩, ⟨1, .guard⟩], some (1, false)⟩) (v := .bool (decide (P.v = U.v))) rfl (by kernel_rfl) (by kernel_rfl) (fx_read ?hy4_14) ?_; case hy4_14 => (refine yields_eqVt ?hw (.tmp 37) (.tmp 43) rfl P.v U.v vp vq HVP.out HVQ.out HWP.out HWU.out ?hx ?hy; (case hw => rfl); (case hx => rfl); (case hy => rfl))) | (refine plan_take (i := 14) (oi := ⟨some 44, .binOp .eql 28 (.tmp 37) (.tmp 43) 28, 4, "wallet.go:161", #[⟨7, .data⟩, ⟨13, .data⟩, ⟨1, .guard⟩], some (1, false)⟩) (v := undef) rfl (by kernel_rfl) (by kernel_rfl) (fx_skip (by rfl)) ?_) | fail "OP14"
              try simp only [lays]
              (refine plan_take (i := 15) (oi := ⟨some 45, .pick (.tmp 31) (.const (.bool true)) (.tmp 44), 4, "wallet.go:161", #[⟨1, .data⟩, ⟨14, .data⟩], none⟩) (v := ?_) rfl (by kernel_rfl) (by kernel_rfl) (fx_read (Or.inl ⟨by rfl, ?hy4_15⟩)) ?_; case hy4_15 => (intro W hSW; go_simp <;> with_reducible rfl))
              try simp only [lays]
              (refine plan_take (i := 16) (oi := ⟨some 8, .assign (.tmp 45), 4, "wallet.go:161", #[⟨15, .data⟩, ⟨1, .chain⟩, ⟨0, .phase⟩, ⟨1, .phase⟩, ⟨2, .phase⟩, ⟨3, .phase⟩, ⟨4, .phase⟩, ⟨5, .phase⟩, ⟨6, .phase⟩, ⟨7, .phase⟩, ⟨8, .phase⟩, ⟨9, .phase⟩, ⟨10, .phase⟩, ⟨11, .phase⟩, ⟨12, .phase⟩, ⟨13, .phase⟩, ⟨14, .phase⟩, ⟨15, .phase⟩], none⟩) (v := ?_) rfl (by kernel_rfl) (by kernel_rfl) (fx_read (Or.inl ⟨by rfl, ?hy4_16⟩)) ?_; case hy4_16 => (intro W hSW; go_simp <;> with_reducible rfl))
              try simp only [lays]
              refine Plan.done (by kernel_rfl) (fun W hSW => ?_)
              rw [hde]
              clear hde
              have HZ2 := Lib.hid (HZ.out.trans hSW)
              have HKN2 := Lib.hid (show (L1.take (k + 1)).any (fun S => decide (S.v = U.v)) = true from by
                rw [take_nthG (L := L1) (k := k) (by rw [HL1.out]; exact hk2), List.any_append, HKN.out, HPE.out]
                simp [HDE.out])
              clear hSW HKN HDE
              go_wp2_with fail
              go_roundw
              case rel => exact ⟨k + 1, true, by go_num, rfl, hk2, HKN2, HZ2⟩
              case measure => simp [intOf]; omega
            · skip
              have hde : decide (P.v = U.v) = false := decide_eq_false hpe
              have HDE := Lib.hid hde
              clear hpe
              go_wp2_with fail
              refine wp_region_plan (S := fun W => Ext wr W) (by kernel_rfl) (by kernel_rfl) ((Ext.refl wr).drew') ?_
              (refine plan_take (i := 0) (oi := ⟨some 30, .move (.tmp 8), 4, "wallet.go:161", #[], none⟩) (v := ?_) rfl (by kernel_rfl) (by kernel_rfl) (fx_read (Or.inl ⟨by rfl, ?hy5_0⟩)) ?_; case hy5_0 => (intro W hSW; go_simp <;> with_reducible rfl))
              try simp only [lays]
              (refine plan_take (i := 1) (oi := ⟨some 31, .move (.tmp 30), 4, "wallet.go:161", #[⟨0, .data⟩], none⟩) (v := ?_) rfl (by kernel_rfl) (by kernel_rfl) (fx_read (Or.inl ⟨by rfl, ?hy5_1⟩)) ?_; case hy5_1 => (intro W hSW; go_simp <;> with_reducible rfl))
              try simp only [lays]
              refine plan_oi (i := 2) (oi := ⟨some 32, .fieldAddr 32 (.tmp 2) 0, 0, "wallet.go:161", #[⟨1, .guard⟩], some (1, false)⟩) rfl (by kernel_rfl) (by kernel_rfl) ?_
              first | (refine ⟨?_, (fx_read (Or.inl ⟨by rfl, ?hy5_2⟩)), ?_⟩; case hy5_2 => (intro W hSW; go_simp <;> with_reducible rfl)) | (refine ⟨undef, fx_skip (by rfl), ?_⟩)
              try simp only [lays]
              refine plan_oi (i := 3) (oi := ⟨some 33, .load 29 (.tmp 32), 29, "wallet.go:161", #[⟨2, .data⟩, ⟨1, .guard⟩], some (1, false)⟩) rfl (by kernel_rfl) (by kernel_rfl) ?_
              first | (refine ⟨?_, (fx_read (Or.inl ⟨by rfl, ?hy5_3⟩)), ?_⟩; case hy5_3 => (intro W hSW; obtain ⟨c0, c1⟩ := vw_facts (HBA.out.ext (HZ0.out.trans hSW)); obtain ⟨e0, e1⟩ := vw_facts (HBU.out.ext (HZ0.out.trans hSW)); go_simp <;> with_reducible rfl)) | (refine ⟨undef, fx_skip (by rfl), ?_⟩)
              try simp only [lays]
              refine plan_oi (i := 4) (oi := ⟨some 34, .move (.tmp 9), 3, "wallet.go:161", #[⟨1, .guard⟩], some (1, false)⟩) rfl (by kernel_rfl) (by kernel_rfl) ?_
              first | (refine ⟨?_, (fx_read (Or.inl ⟨by rfl, ?hy5_4⟩)), ?_⟩; case hy5_4 => (intro W hSW; go_simp <;> with_reducible rfl)) | (refine ⟨undef, fx_skip (by rfl), ?_⟩)
              try simp only [lays]
              refine plan_oi (i := 5) (oi := ⟨some 35, .indexAddr 29 (.tmp 33) (.tmp 34), 0, "wallet.go:161", #[⟨3, .data⟩, ⟨4, .data⟩, ⟨1, .guard⟩], some (1, false)⟩) rfl (by kernel_rfl) (by kernel_rfl) ?_
              first | (refine ⟨?_, (fx_read (Or.inl ⟨by rfl, ?hy5_5⟩)), ?_⟩; case hy5_5 => (intro W hSW; go_simp <;> with_reducible rfl)) | (refine ⟨undef, fx_skip (by rfl), ?_⟩)
              try simp only [lays]
              refine plan_oi (i := 6) (oi := ⟨some 36, .fieldAddr 45 (.tmp 35) 0, 0, "wallet.go:161", #[⟨5, .data⟩, ⟨1, .guard⟩], some (1, false)⟩) rfl (by kernel_rfl) (by kernel_rfl) ?_
              first | (refine ⟨?_, (fx_read (Or.inl ⟨by rfl, ?hy5_6⟩)), ?_⟩; case hy5_6 => (intro W hSW; go_simp <;> with_reducible rfl)) | (refine ⟨undef, fx_skip (by rfl), ?_⟩)
              try simp only [lays]
              first | (refine plan_take (i := 7) (oi := ⟨some 37, .load 28 (.tmp 36), 28, "wallet.go:161", #[⟨6, .data⟩, ⟨1, .guard⟩], some (1, false)⟩) (v := vp) rfl (by kernel_rfl) (by kernel_rfl) (fx_read ?hy5_7) ?_; case hy5_7 => (refine yields_loadVtV ?hw (.tmp 36) rfl b1 (o1 + k * 23) ?hx P.v vp HVP.out (fun W hSW => HRP.out W (HZ0.out.trans hSW)); (case hw => rfl); (case hx => rfl))) | (refine plan_take (i := 7) (oi := ⟨some 37, .load 28 (.tmp 36), 28, "wallet.go:161", #[⟨6, .data⟩, ⟨1, .guard⟩], some (1, false)⟩) (v := undef) rfl (by kernel_rfl) (by kernel_rfl) (fx_skip (by rfl)) ?_) | fail "OP7"
              try simp only [lays]
              refine plan_oi (i := 8) (oi := ⟨some 38, .fieldAddr 32 (.tmp 5) 0, 0, "wallet.go:161", #[⟨1, .guard⟩], some (1, false)⟩) rfl (by kernel_rfl) (by kernel_rfl) ?_
              first | (refine ⟨?_, (fx_read (Or.inl ⟨by rfl, ?hy5_8⟩)), ?_⟩; case hy5_8 => (intro W hSW; go_simp <;> with_reducible rfl)) | (refine ⟨undef, fx_skip (by rfl), ?_⟩)
              try simp only [lays]
              refine plan_oi (i := 9) (oi := ⟨some 39, .load 29 (.tmp 38), 29, "wallet.go:161", #[⟨8, .data⟩, ⟨1, .guard⟩], some (1, false)⟩) rfl (by kernel_rfl) (by kernel_rfl) ?_
              first | (refine ⟨?_, (fx_read (Or.inl ⟨by rfl, ?hy5_9⟩)), ?_⟩; case hy5_9 => (intro W hSW; obtain ⟨c0, c1⟩ := vw_facts (HBA.out.ext (HZ0.out.trans hSW)); obtain ⟨e0, e1⟩ := vw_facts (HBU.out.ext (HZ0.out.trans hSW)); go_simp <;> with_reducible rfl)) | (refine ⟨undef, fx_skip (by rfl), ?_⟩)
              try simp only [lays]
              refine plan_oi (i := 10) (oi := ⟨some 40, .move (.tmp 7), 3, "wallet.go:161", #[⟨1, .guard⟩], some (1, false)⟩) rfl (by kernel_rfl) (by kernel_rfl) ?_
              first | (refine ⟨?_, (fx_read (Or.inl ⟨by rfl, ?hy5_10⟩)), ?_⟩; case hy5_10 => (intro W hSW; go_simp <;> with_reducible rfl)) | (refine ⟨undef, fx_skip (by rfl), ?_⟩)
              try simp only [lays]
              refine plan_oi (i := 11) (oi := ⟨some 41, .indexAddr 29 (.tmp 39) (.tmp 40), 0, "wallet.go:161", #[⟨9, .data⟩, ⟨10, .data⟩, ⟨1, .guard⟩], some (1, false)⟩) rfl (by kernel_rfl) (by kernel_rfl) ?_
              first | (refine ⟨?_, (fx_read (Or.inl ⟨by rfl, ?hy5_11⟩)), ?_⟩; case hy5_11 => (intro W hSW; go_simp <;> with_reducible rfl)) | (refine ⟨undef, fx_skip (by rfl), ?_⟩)
              try simp only [lays]
              refine plan_oi (i := 12) (oi := ⟨some 42, .fieldAddr 45 (.tmp 41) 0, 0, "wallet.go:161", #[⟨11, .data⟩, ⟨1, .guard⟩], some (1, false)⟩) rfl (by kernel_rfl) (by kernel_rfl) ?_
              first | (refine ⟨?_, (fx_read (Or.inl ⟨by rfl, ?hy5_12⟩)), ?_⟩; case hy5_12 => (intro W hSW; go_simp <;> with_reducible rfl)) | (refine ⟨undef, fx_skip (by rfl), ?_⟩)
              try simp only [lays]
              first | (refine plan_take (i := 13) (oi := ⟨some 43, .load 28 (.tmp 42), 28, "wallet.go:161", #[⟨12, .data⟩, ⟨1, .guard⟩], some (1, false)⟩) (v := vq) rfl (by kernel_rfl) (by kernel_rfl) (fx_read ?hy5_13) ?_; case hy5_13 => (refine yields_loadVtV ?hw (.tmp 42) rfl b2 (o2 + i * 23) ?hx U.v vq HVQ.out (fun W hSW => HRU.out W (HZ0.out.trans hSW)); (case hw => rfl); (case hx => rfl))) | (refine plan_take (i := 13) (oi := ⟨some 43, .load 28 (.tmp 42), 28, "wallet.go:161", #[⟨12, .data⟩, ⟨1, .guard⟩], some (1, false)⟩) (v := undef) rfl (by kernel_rfl) (by kernel_rfl) (fx_skip (by rfl)) ?_) | fail "OP13"
              try simp only [lays]
              first | (refine plan_take (i := 14) (oi := ⟨some 44, .binOp .eql 28 (.tmp 37) (.tmp 43) 28, 4, "wallet.go:161", #[⟨7, .data⟩, ⟨13, .data⟩, ⟨1, .guard⟩], some (1, false)⟩) (v := .bool (decide (P.v = U.v))) rfl (by kernel_rfl) (by kernel_rfl) (fx_read ?hy5_14) ?_; case hy5_14 => (refine yields_eqVt ?hw (.tmp 37) (.tmp 43) rfl P.v U.v vp vq HVP.out HVQ.out HWP.out HWU.out ?hx ?hy; (case hw => rfl); (case hx => rfl); (case hy => rfl))) | (refine plan_take (i := 14) (oi := ⟨some 44, .binOp .eql 28 (.tmp 37) (.tmp 43) 28, 4, "wallet.go:161", #[⟨7, .data⟩, ⟨13, .data⟩, ⟨1, .guard⟩], some (1, false)⟩) (v := undef) rfl (by kernel_rfl) (by kernel_rfl) (fx_skip (by rfl)) ?_) | fail "OP14"
              try simp only [lays]
              (refine plan_take (i := 15) (oi := ⟨some 45, .pick (.tmp 31) (.const (.bool true)) (.tmp 44), 4, "wallet.go:161", #[⟨1, .data⟩, ⟨14, .data⟩], none⟩) (v := ?_) rfl (by kernel_rfl) (by kernel_rfl) (fx_read (Or.inl ⟨by rfl, ?hy5_15⟩)) ?_; case hy5_15 => (intro W hSW; go_simp <;> with_reducible rfl))
              try simp only [lays]
              (refine plan_take (i := 16) (oi := ⟨some 8, .assign (.tmp 45), 4, "wallet.go:161", #[⟨15, .data⟩, ⟨1, .chain⟩, ⟨0, .phase⟩, ⟨1, .phase⟩, ⟨2, .phase⟩, ⟨3, .phase⟩, ⟨4, .phase⟩, ⟨5, .phase⟩, ⟨6, .phase⟩, ⟨7, .phase⟩, ⟨8, .phase⟩, ⟨9, .phase⟩, ⟨10, .phase⟩, ⟨11, .phase⟩, ⟨12, .phase⟩, ⟨13, .phase⟩, ⟨14, .phase⟩, ⟨15, .phase⟩], none⟩) (v := ?_) rfl (by kernel_rfl) (by kernel_rfl) (fx_read (Or.inl ⟨by rfl, ?hy5_16⟩)) ?_; case hy5_16 => (intro W hSW; go_simp <;> with_reducible rfl))
              try simp only [lays]
              refine Plan.done (by kernel_rfl) (fun W hSW => ?_)
              rw [hde]
              clear hde
              have HZ2 := Lib.hid (HZ.out.trans hSW)
              have HKN2 := Lib.hid (show (L1.take (k + 1)).any (fun S => decide (S.v = U.v)) = false from by
                rw [take_nthG (L := L1) (k := k) (by rw [HL1.out]; exact hk2), List.any_append, HKN.out, HPE.out]
                simp [HDE.out])
              clear hSW HKN HDE
              go_wp2_with fail
              go_roundw
              case rel => exact ⟨k + 1, false, by go_num, rfl, hk2, HKN2, HZ2⟩
              case measure => simp [intOf]; omega
        · obtain rfl : k = n1 := by omega
          have i2 : ¬ (k : Int) < (k : Int) := by omega
          have HAL := Lib.hid (show decide (U.v ∈ L1.map SgR.v) = kn from by have := HKN.out; rwa [List.take_of_length_le (by rw [HL1.out]; exact Nat.le_refl _), any_v] at this)
          have HMK := Lib.hid (HM.out.ext HZ.out)
          clear HKN HZ0' HM HZ HZW
          cases kn with
          | true =>
            have HD2 := Lib.hid (show D = (LU.take (i + 1)).filter p from by rw [flt_no (by rw [HLU.out]; exact hlt) (by rw [← HP.out, HUE.out]; show (!decide (U.v ∈ List.map SgR.v L1)) = false; rw [HAL.out]; rfl)]; exact HD.out)
            clear HD
            go_wp2_with fail
            go_roundw
            case rel => exact ⟨i + 1, A, nn, c, D, by go_num, hlt, by omega, HD2, HMK⟩
            case measure => simp [intOf]; omega
          | false =>
            have HD2 := Lib.hid (show D ++ [U] = (LU.take (i + 1)).filter p from by rw [flt_yes (by rw [HLU.out]; exact hlt) (by rw [← HP.out, HUE.out]; show (!decide (U.v ∈ List.map SgR.v L1)) = true; rw [HAL.out]; rfl), HUE.out, ← HD.out])
            have HVU := HVU'
            have HMd := Lib.hid (HMK.out.ext (Ext.refl wr).drew')
            have qd : wr.drew.cell? ⟨W9.heap.size, 0, none⟩ = some (.slice A nn c) := HMd.out.blk.cell 0
            clear HD
            go_upto_region 12 with (fail)
            refine wp_region_held_drew (S := fun W => Ext W9 W) (by kernel_rfl) (HMd.out.low) (fun hHeld => ?_)
            (refine wpAnyH_take (i := 0) (oi := ⟨some 48, .fieldAddr 32 (.tmp 6) 0, 0, "wallet.go:164", #[], none⟩) (v := ?_) rfl (by kernel_rfl) (by kernel_rfl) (by kernel_rfl) (fun _ _ _ h => h) (Or.inl ⟨by rfl, ?hy1_0_l1⟩) hHeld ?_; case hy1_0_l1 => (intro W hSW; go_simp <;> with_reducible rfl))
            try simp only [lays]
            (refine wpAnyH_take (i := 2) (oi := ⟨some 50, .fieldAddr 32 (.tmp 5) 0, 0, "wallet.go:164", #[], none⟩) (v := ?_) rfl (by kernel_rfl) (by kernel_rfl) (by kernel_rfl) (fun _ _ _ h => h) (Or.inl ⟨by rfl, ?hy1_2_l3⟩) hHeld ?_; case hy1_2_l3 => (intro W hSW; go_simp <;> with_reducible rfl))
            try simp only [lays]
            (refine wpAnyH_take (i := 3) (oi := ⟨some 51, .load 29 (.tmp 50), 29, "wallet.go:164", #[⟨2, .data⟩], none⟩) (v := ?_) rfl (by kernel_rfl) (by kernel_rfl) (by kernel_rfl) (fun _ _ _ h => h) (Or.inl ⟨by rfl, ?hy1_3_l5⟩) hHeld ?_; case hy1_3_l5 => (intro W hSW; obtain ⟨e0, e1⟩ := vw_facts (HBU.out.ext hSW); go_simp <;> with_reducible rfl))
            try simp only [lays]
            (refine wpAnyH_take (i := 4) (oi := ⟨some 52, .move (.tmp 7), 3, "wallet.go:164", #[], none⟩) (v := ?_) rfl (by kernel_rfl) (by kernel_rfl) (by kernel_rfl) (fun _ _ _ h => h) (Or.inl ⟨by rfl, ?hy1_4_l7⟩) hHeld ?_; case hy1_4_l7 => (intro W hSW; go_simp <;> with_reducible rfl))
            try simp only [lays]
            (refine wpAnyH_take (i := 5) (oi := ⟨some 53, .indexAddr 29 (.tmp 51) (.tmp 52), 0, "wallet.go:164", #[⟨3, .data⟩, ⟨4, .data⟩], none⟩) (v := ?_) rfl (by kernel_rfl) (by kernel_rfl) (by kernel_rfl) (fun _ _ _ h => h) (Or.inl ⟨by rfl, ?hy1_5_l9⟩) hHeld ?_; case hy1_5_l9 => (intro W hSW; go_simp <;> with_reducible rfl))
            try simp only [lays]
            (refine wpAnyH_take (i := 6) (oi := ⟨some 54, .load 45 (.tmp 53), 45, "wallet.go:164", #[⟨5, .data⟩], none⟩) (v := vu) rfl (by kernel_rfl) (by kernel_rfl) (by kernel_rfl) (fun _ _ _ h => h) ?hy1_6_l11 hHeld ?_; case hy1_6_l11 => (refine yields_loadSgV ?hw (.tmp 53) rfl b2 (o2 + i * 23) ?hx U vu HVU.out (fun W hSW => HRS.out W hSW); (case hw => rfl); (case hx => rfl)))
            try simp only [lays]
            refine wpAnyH_ready (rs := [1, 7]) (by kernel_rfl) (by simp) ?_
            refine (AllReadyH.cons (o := ⟨some 49, .load 29 (.tmp 48), 29, "wallet.go:164", #[⟨0, .data⟩], none⟩) rfl (fun K hK => ?ka1_12_6_1_n1) (AllReadyH.cons (o := ⟨some 55, .buildSlice 29 1 #[(0, .tmp 54)], 29, "wallet.go:164", #[⟨6, .data⟩], none⟩) rfl (fun K hK => ?ka1_12_6_7_n1) AllReadyH.nil))
            case' ka1_12_6_1_n1 =>
              (go_simp)
              refine hK.out _ _ (hHeld) (fun hHeld => ?_)
              clear hK K
              try simp only [lays]
              refine wpAnyH_ready (rs := [7]) (by kernel_rfl) (by simp) ?_
              refine (AllReadyH.cons (o := ⟨some 55, .buildSlice 29 1 #[(0, .tmp 54)], 29, "wallet.go:164", #[⟨6, .data⟩], none⟩) rfl (fun K hK => ?_) AllReadyH.nil)
              (refine step_buildSg rfl (.tmp 54) (by rfl) U vu HVU.out (by rfl) ?_; intro W7 hW7; have HR7 := Lib.hid (show Rd W7 (some ⟨wr.drew.heap.size, 0, none⟩) (sgL U) from by rw [← hW7.out]; exact Rd.of_blk (Blk.new wr.drew 45 (sgA U))); have HX7 := Lib.hid (show Ext wr.drew W7 from by rw [← hW7.out]; exact (Ext.refl wr.drew).alloc' _); have HM7 := Lib.hid (HMd.out.ext HX7.out); have q7 : W7.cell? ⟨W9.heap.size, 0, none⟩ = some (.slice A nn c) := HM7.out.blk.cell 0; clear hW7)
              refine hK.out _ _ (hHeld.trans HX7.out) (fun hHeld => ?_)
              clear hK K
              try simp only [lays]
              refine wpAnyH_ready (rs := [8]) (by kernel_rfl) (by simp) ?_
              refine (AllReadyH.cons (o := ⟨some 56, .call { callee := .builtin .append, args := #[.tmp 49, .tmp 55], argTypes := #[29, 29] }, 29, "wallet.go:164", #[⟨1, .data⟩, ⟨7, .data⟩], none⟩) rfl (fun K hK => ?_) AllReadyH.nil)
              (refine step_appG' sgE rfl (.tmp 49) (.tmp 55) rfl (W9.heap.size + 1) A nn c (gcs D) (by rfl) HM7.out.own1 (some ⟨wr.drew.heap.size, 0, none⟩) 1 1 (sgL U) (by rfl) HR7.out (by rfl) (sgL_one _) (by omega) (by omega) HM7.out.big ?_; intro A8 c8 w8 ho hg; have HP8 := Lib.hid (HM7.out.push1 hg ho); have HE8 := Lib.hid (HM7.out.grow1 hg).1; have hb8 := (HM7.out.grow1 hg).2; have q8 : w8.cell? ⟨W9.heap.size, 0, none⟩ = some (.slice A nn c) := hb8.cell 0; have p8 := hb8.frozen 0; clear ho hg hb8)
              refine hK.out _ _ (HE8.out) (fun hHeld => ?_)
              clear hK K
              try simp only [lays]
              (refine wpAnyH_take (i := 9) (oi := ⟨some 57, .fieldAddr 32 (.tmp 6) 0, 0, "wallet.go:164", #[⟨0, .phase⟩, ⟨1, .phase⟩, ⟨2, .phase⟩, ⟨3, .phase⟩, ⟨4, .phase⟩, ⟨5, .phase⟩, ⟨6, .phase⟩, ⟨7, .phase⟩, ⟨8, .phase⟩], none⟩) (v := ?_) rfl (by kernel_rfl) (by kernel_rfl) (by kernel_rfl) (fun _ _ _ h => h) (Or.inl ⟨by rfl, ?hy1_9_l32⟩) hHeld ?_; case hy1_9_l32 => (intro W hSW; go_simp <;> with_reducible rfl))
              try simp only [lays]
              refine wpAnyH_ready (rs := [10]) (by kernel_rfl) (by simp) ?_
              refine (AllReadyH.cons (o := ⟨none, .store 29 (.tmp 57) (.tmp 56), 0, "wallet.go:164", #[⟨9, .data⟩, ⟨8, .data⟩, ⟨8, .chain⟩, ⟨0, .phase⟩, ⟨1, .phase⟩, ⟨2, .phase⟩, ⟨3, .phase⟩, ⟨4, .phase⟩, ⟨5, .phase⟩, ⟨6, .phase⟩, ⟨7, .phase⟩, ⟨8, .phase⟩], none⟩) rfl (fun K hK => ?_) AllReadyH.nil)
              (go_simp)
              refine hK.out _ _ (HP8.out.low) (fun hHeld => ?_)
              clear hK K
              try simp only [lays]
              refine wpAnyH_done (by kernel_rfl) ?_ _
            case' ka1_12_6_7_n1 =>
              (refine step_buildSg rfl (.tmp 54) (by rfl) U vu HVU.out (by rfl) ?_; intro W7 hW7; have HR7 := Lib.hid (show Rd W7 (some ⟨wr.drew.heap.size, 0, none⟩) (sgL U) from by rw [← hW7.out]; exact Rd.of_blk (Blk.new wr.drew 45 (sgA U))); have HX7 := Lib.hid (show Ext wr.drew W7 from by rw [← hW7.out]; exact (Ext.refl wr.drew).alloc' _); have HM7 := Lib.hid (HMd.out.ext HX7.out); have q7 : W7.cell? ⟨W9.heap.size, 0, none⟩ = some (.slice A nn c) := HM7.out.blk.cell 0; clear hW7)
              refine hK.out _ _ (hHeld.trans HX7.out) (fun hHeld => ?_)
              clear hK K
              try simp only [lays]
              refine wpAnyH_ready (rs := [1]) (by kernel_rfl) (by simp) ?_
              refine (AllReadyH.cons (o := ⟨some 49, .load 29 (.tmp 48), 29, "wallet.go:164", #[⟨0, .data⟩], none⟩) rfl (fun K hK => ?_) AllReadyH.nil)
              (go_simp)
              refine hK.out _ _ (hHeld) (fun hHeld => ?_)
              clear hK K
              try simp only [lays]
              refine wpAnyH_ready (rs := [8]) (by kernel_rfl) (by simp) ?_
              refine (AllReadyH.cons (o := ⟨some 56, .call { callee := .builtin .append, args := #[.tmp 49, .tmp 55], argTypes := #[29, 29] }, 29, "wallet.go:164", #[⟨1, .data⟩, ⟨7, .data⟩], none⟩) rfl (fun K hK => ?_) AllReadyH.nil)
              (refine step_appG' sgE rfl (.tmp 49) (.tmp 55) rfl (W9.heap.size + 1) A nn c (gcs D) (by rfl) HM7.out.own1 (some ⟨wr.drew.heap.size, 0, none⟩) 1 1 (sgL U) (by rfl) HR7.out (by rfl) (sgL_one _) (by omega) (by omega) HM7.out.big ?_; intro A8 c8 w8 ho hg; have HP8 := Lib.hid (HM7.out.push1 hg ho); have HE8 := Lib.hid (HM7.out.grow1 hg).1; have hb8 := (HM7.out.grow1 hg).2; have q8 : w8.cell? ⟨W9.heap.size, 0, none⟩ = some (.slice A nn c) := hb8.cell 0; have p8 := hb8.frozen 0; clear ho hg hb8)
              refine hK.out _ _ (HE8.out) (fun hHeld => ?_)
              clear hK K
              try simp only [lays]
              (refine wpAnyH_take (i := 9) (oi := ⟨some 57, .fieldAddr 32 (.tmp 6) 0, 0, "wallet.go:164", #[⟨0, .phase⟩, ⟨1, .phase⟩, ⟨2, .phase⟩, ⟨3, .phase⟩, ⟨4, .phase⟩, ⟨5, .phase⟩, ⟨6, .phase⟩, ⟨7, .phase⟩, ⟨8, .phase⟩], none⟩) (v := ?_) rfl (by kernel_rfl) (by kernel_rfl) (by kernel_rfl) (fun _ _ _ h => h) (Or.inl ⟨by rfl, ?hy1_9_l58⟩) hHeld ?_; case hy1_9_l58 => (intro W hSW; go_simp <;> with_reducible rfl))
              try simp only [lays]
              refine wpAnyH_ready (rs := [10]) (by kernel_rfl) (by simp) ?_
              refine (AllReadyH.cons (o := ⟨none, .store 29 (.tmp 57) (.tmp 56), 0, "wallet.go:164", #[⟨9, .data⟩, ⟨8, .data⟩, ⟨8, .chain⟩, ⟨0, .phase⟩, ⟨1, .phase⟩, ⟨2, .phase⟩, ⟨3, .phase⟩, ⟨4, .phase⟩, ⟨5, .phase⟩, ⟨6, .phase⟩, ⟨7, .phase⟩, ⟨8, .phase⟩], none⟩) rfl (fun K hK => ?_) AllReadyH.nil)
              (go_simp)
              refine hK.out _ _ (HP8.out.low) (fun hHeld => ?_)
              clear hK K
              try simp only [lays]
              refine wpAnyH_done (by kernel_rfl) ?_ _
            all_goals (
              have HM9 := HP8
              clear HP8 HM7 HMd HMK hHeld HE8 HX7 HR7
              go_wp2_with fail
              go_roundw
              case rel => exact ⟨i + 1, A8, nn + 1, c8, D ++ [U], by go_num, hlt, by omega, HD2, HM9⟩
              case measure => simp [intOf]; omega)
    · obtain rfl : i = nu := by omega
      have i1 : ¬ (i : Int) < (i : Int) := by omega
      have HDF := Lib.hid (show D = LU.filter p from by have := HD.out; rwa [List.take_of_length_le (by rw [HLU.out]; exact Nat.le_refl _)] at this)
      clear HD
      go_wp2_with fail
      clear e0 e1
      go_loopw [10] (fun vi wr => ∃ (j : Nat) (B : Option Addr) (mm d : Nat) (XD : List TeR), vi = .int .i64 (j : Int) ∧ j ≤ mu ∧ mm ≤ j ∧ Hid (XD = (XU.take j).filter pt) ∧ Hid (RmS W9 wr A nn c D B mm d XD)) (fun i _ => mu - (intOf i).toNat)
      case atStart => exact ⟨0, none, 0, 0, [], rfl, Nat.zero_le _, Nat.le_refl _, Lib.hid rfl, HM⟩
      case round =>
        clear HM
        obtain ⟨j, B, mm, d, XD, rfl, hj, hmm, HD, HM⟩ := hrel
        obtain ⟨e0, e1⟩ := vw_facts (HBU.out.ext HM.out.low)
        by_cases hlt : j < mu
        · obtain ⟨b2, o2, rfl, hr2, hb2⟩ := HXU.out.at (by omega)
          have i1 : (j : Int) < (mu : Int) := by omega
          obtain ⟨U, hU⟩ : ∃ U, nthG XU j = U := ⟨_, rfl⟩
          have HCU := Lib.hid (fun (W : World) (he : Ext W9 W) => show W.cell? ⟨b2, o2 + j, none⟩ = some (.slice (nthG XU j).A (nthG XU j).n (nthG XU j).c) from te_at (rangeAt_keep hr2 (he.block b2 hb2)) (k := j) (by rw [HLX.out]; exact hlt))
          have HOU := Lib.hid (fun (W : World) (he : Ext W9 W) => (HXU.out.ext he).nth (k := j) hlt)
          rw [hU] at HCU HOU
          have HUE := Lib.hid hU
          clear hU hr2
          obtain ⟨Ua, Uz, Uc, Ul⟩ := U
          obtain ⟨s2, hs2⟩ : ∃ s, strV Ul = s := ⟨_, rfl⟩
          have HSU := Lib.hid (fun (W : World) (he : Ext W9 W) => show (convert 33 9 (.slice Ua Uz Uc)).run Try.prog W = .ok (.string s2) W from by rw [← hs2]; exact run_strV (HOU.out W he))
          have HS2 := Lib.hid hs2
          clear hs2 HOU
          obtain ⟨W0, rfl⟩ : ∃ W0, W0 = wr := ⟨_, rfl⟩
          have HZW := Lib.hid HM.out.low
          go_wp2_with fail
          clear e0 e1
          go_loopw [11, 12] (fun vb vk wr => ∃ (k : Nat) (kn : Bool), vk = .int .i64 (k : Int) ∧ vb = .bool kn ∧ k ≤ m1 ∧ Hid ((X1.take k).any (fun S => decide (S.l = Ul)) = kn) ∧ Hid (Ext W0 wr)) (fun _ k _ => m1 - (intOf k).toNat)
          case atStart => exact ⟨0, false, rfl, rfl, Nat.zero_le _, Lib.hid rfl, Lib.hid (Ext.refl _)⟩
          case round =>
            obtain ⟨k, kn, rfl, rfl, hkn, HKN, HZ⟩ := hrel
            have HZ0' := Lib.hid (HZW.out.trans HZ.out)
            obtain ⟨c0, c1⟩ := vw_facts (HBA.out.ext HZ0'.out)
            by_cases hk2 : k < m1
            · have i2 : (k : Int) < (m1 : Int) := by omega
              obtain ⟨b1, o1, rfl, hr1, hb1⟩ := HXA.out.at (by omega)
              obtain ⟨P, hP⟩ : ∃ P, nthG X1 k = P := ⟨_, rfl⟩
              have HCP := Lib.hid (fun (W : World) (he : Ext W9 W) => show W.cell? ⟨b1, o1 + k, none⟩ = some (.slice (nthG X1 k).A (nthG X1 k).n (nthG X1 k).c) from te_at (rangeAt_keep hr1 (he.block b1 hb1)) (k := k) (by rw [HX1.out]; exact hk2))
              have HOP := Lib.hid (fun (W : World) (he : Ext W9 W) => (HXA.out.ext he).nth (k := k) hk2)
              rw [hP] at HCP HOP
              have HPE := Lib.hid hP
              clear hP hr1
              obtain ⟨Pa, Pz, Pc, Pl⟩ := P
              obtain ⟨s1, hs1⟩ : ∃ s, strV Pl = s := ⟨_, rfl⟩
              have HSP := Lib.hid (fun (W : World) (he : Ext W9 W) => show (convert 33 9 (.slice Pa Pz Pc)).run Try.prog W = .ok (.string s1) W from by rw [← hs1]; exact run_strV (HOP.out W he))
              have HS1 := Lib.hid hs1
              clear hs1 HOP
              have HZ0 := HZ0'
              clear HZ0'
              cases kn with
              | true =>
                go_wp2_with fail
                refine wp_region_plan (S := fun W => Ext wr W) (by kernel_rfl) (by kernel_rfl) ((Ext.refl wr).drew') ?_
                (refine plan_take (i := 0) (oi := ⟨some 72, .move (.tmp 11), 4, "wallet.go:170", #[], none⟩) (v := ?_) rfl (by kernel_rfl) (by kernel_rfl) (fx_read (Or.inl ⟨by rfl, ?hy6_0⟩)) ?_; case hy6_0 => (intro W hSW; go_simp <;> with_reducible rfl))
                try simp only [lays]
                (refine plan_take (i := 1) (oi := ⟨some 73, .move (.tmp 72), 4, "wallet.go:170", #[⟨0, .data⟩], none⟩) (v := ?_) rfl (by kernel_rfl) (by kernel_rfl) (fx_read (Or.inl ⟨by rfl, ?hy6_1⟩)) ?_; case hy6_1 => (intro W hSW; go_simp <;> with_reducible rfl))
                try simp only [lays]
                refine plan_oi (i := 2) (oi := ⟨some 74, .fieldAddr 32 (.tmp 2) 1, 0, "wallet.go:170", #[⟨1, .guard⟩], some (1, false)⟩) rfl (by kernel_rfl) (by kernel_rfl) ?_
                first | (refine ⟨?_, (fx_read (Or.inl ⟨by rfl, ?hy6_2⟩)), ?_⟩; case hy6_2 => (intro W hSW; go_simp <;> with_reducible rfl)) | (refine ⟨undef, fx_skip (by rfl), ?_⟩)
                try simp only [lays]
                refine plan_oi (i := 3) (oi := ⟨some 75, .load 30 (.tmp 74), 30, "wallet.go:170", #[⟨2, .data⟩, ⟨1, .guard⟩], some (1, false)⟩) rfl (by kernel_rfl) (by kernel_rfl) ?_
                first | (refine ⟨?_, (fx_read (Or.inl ⟨by rfl, ?hy6_3⟩)), ?_⟩; case hy6_3 => (intro W hSW; go_simp <;> with_reducible rfl)) | (refine ⟨undef, fx_skip (by rfl), ?_⟩)
                try simp only [lays]
                refine plan_oi (i := 4) (oi := ⟨some 76, .move (.tmp 12), 3, "wallet.go:170", #[⟨1, .guard⟩], some (1, false)⟩) rfl (by kernel_rfl) (by kernel_rfl) ?_
                first | (refine ⟨?_, (fx_read (Or.inl ⟨by rfl, ?hy6_4⟩)), ?_⟩; case hy6_4 => (intro W hSW; go_simp <;> with_reducible rfl)) | (refine ⟨undef, fx_skip (by rfl), ?_⟩)
                try simp only [lays]
                refine plan_oi (i := 5) (oi := ⟨some 77, .indexAddr 30 (.tmp 75) (.tmp 76), 0, "wallet.go:170", #[⟨3, .data⟩, ⟨4, .data⟩, ⟨1, .guard⟩], some (1, false)⟩) rfl (by kernel_rfl) (by kernel_rfl) ?_
                first | (refine ⟨?_, (fx_read (Or.inl ⟨by rfl, ?hy6_5⟩)), ?_⟩; case hy6_5 => (intro W hSW; go_simp <;> with_reducible rfl)) | (refine ⟨undef, fx_skip (by rfl), ?_⟩)
                try simp only [lays]
                refine plan_oi (i := 6) (oi := ⟨some 78, .load 33 (.tmp 77), 33, "wallet.go:170", #[⟨5, .data⟩, ⟨1, .guard⟩], some (1, false)⟩) rfl (by kernel_rfl) (by kernel_rfl) ?_
                first | (refine ⟨?_, (fx_read (Or.inl ⟨by rfl, ?hy6_6⟩)), ?_⟩; case hy6_6 => (intro W hSW; go_simp <;> with_reducible rfl)) | (refine ⟨undef, fx_skip (by rfl), ?_⟩)
                try simp only [lays]
                refine plan_oi (i := 7) (oi := ⟨some 79, .convert 33 9 (.tmp 78), 9, "wallet.go:170", #[⟨6, .data⟩, ⟨1, .guard⟩], some (1, false)⟩) rfl (by kernel_rfl) (by kernel_rfl) ?_
                first | (refine ⟨?_, (fx_read (Or.inl ⟨by rfl, ?hy6_7⟩)), ?_⟩; case hy6_7 => (intro W hSW; go_simp <;> with_reducible rfl)) | (refine ⟨undef, fx_skip (by rfl), ?_⟩)
                try simp only [lays]
                refine plan_oi (i := 8) (oi := ⟨some 80, .fieldAddr 32 (.tmp 5) 1, 0, "wallet.go:170", #[⟨1, .guard⟩], some (1, false)⟩) rfl (by kernel_rfl) (by kernel_rfl) ?_
                first | (refine ⟨?_, (fx_read (Or.inl ⟨by rfl, ?hy6_8⟩)), ?_⟩; case hy6_8 => (intro W hSW; go_simp <;> with_reducible rfl)) | (refine ⟨undef, fx_skip (by rfl), ?_⟩)
                try simp only [lays]
                refine plan_oi (i := 9) (oi := ⟨some 81, .load 30 (.tmp 80), 30, "wallet.go:170", #[⟨8, .data⟩, ⟨1, .guard⟩], some (1, false)⟩) rfl (by kernel_rfl) (by kernel_rfl) ?_
                first | (refine ⟨?_, (fx_read (Or.inl ⟨by rfl, ?hy6_9⟩)), ?_⟩; case hy6_9 => (intro W hSW; go_simp <;> with_reducible rfl)) | (refine ⟨undef, fx_skip (by rfl), ?_⟩)
                try simp only [lays]
                refine plan_oi (i := 10) (oi := ⟨some 82, .move (.tmp 10), 3, "wallet.go:170", #[⟨1, .guard⟩], some (1, false)⟩) rfl (by kernel_rfl) (by kernel_rfl) ?_
                first | (refine ⟨?_, (fx_read (Or.inl ⟨by rfl, ?hy6_10⟩)), ?_⟩; case hy6_10 => (intro W hSW; go_simp <;> with_reducible rfl)) | (refine ⟨undef, fx_skip (by rfl), ?_⟩)
                try simp only [lays]
                refine plan_oi (i := 11) (oi := ⟨some 83, .indexAddr 30 (.tmp 81) (.tmp 82), 0, "wallet.go:170", #[⟨9, .data⟩, ⟨10, .data⟩, ⟨1, .guard⟩], some (1, false)⟩) rfl (by kernel_rfl) (by kernel_rfl) ?_
                first | (refine ⟨?_, (fx_read (Or.inl ⟨by rfl, ?hy6_11⟩)), ?_⟩; case hy6_11 => (intro W hSW; go_simp <;> with_reducible rfl)) | (refine ⟨undef, fx_skip (by rfl), ?_⟩)
                try simp only [lays]
                refine plan_oi (i := 12) (oi := ⟨some 84, .load 33 (.tmp 83), 33, "wallet.go:170", #[⟨11, .data⟩, ⟨1, .guard⟩], some (1, false)⟩) rfl (by kernel_rfl) (by kernel_rfl) ?_
                first | (refine ⟨?_, (fx_read (Or.inl ⟨by rfl, ?hy6_12⟩)), ?_⟩; case hy6_12 => (intro W hSW; go_simp <;> with_reducible rfl)) | (refine ⟨undef, fx_skip (by rfl), ?_⟩)
                try simp only [lays]
                refine plan_oi (i := 13) (oi := ⟨some 85, .convert 33 9 (.tmp 84), 9, "wallet.go:170", #[⟨12, .data⟩, ⟨1, .guard⟩], some (1, false)⟩) rfl (by kernel_rfl) (by kernel_rfl) ?_
                first | (refine ⟨?_, (fx_read (Or.inl ⟨by rfl, ?hy6_13⟩)), ?_⟩; case hy6_13 => (intro W hSW; go_simp <;> with_reducible rfl)) | (refine ⟨undef, fx_skip (by rfl), ?_⟩)
                try simp only [lays]
                refine plan_oi (i := 14) (oi := ⟨some 86, .binOp .eql 9 (.tmp 79) (.tmp 85) 9, 4, "wallet.go:170", #[⟨7, .data⟩, ⟨13, .data⟩, ⟨1, .guard⟩], some (1, false)⟩) rfl (by kernel_rfl) (by kernel_rfl) ?_
                first | (refine ⟨?_, (fx_read (Or.inl ⟨by rfl, ?hy6_14⟩)), ?_⟩; case hy6_14 => (intro W hSW; go_simp <;> with_reducible rfl)) | (refine ⟨undef, fx_skip (by rfl), ?_⟩)
                try simp only [lays]
                (refine plan_take (i := 15) (oi := ⟨some 87, .pick (.tmp 73) (.const (.bool true)) (.tmp 86), 4, "wallet.go:170", #[⟨1, .data⟩, ⟨14, .data⟩], none⟩) (v := ?_) rfl (by kernel_rfl) (by kernel_rfl) (fx_read (Or.inl ⟨by rfl, ?hy6_15⟩)) ?_; case hy6_15 => (intro W hSW; go_simp <;> with_reducible rfl))
                try simp only [lays]
                (refine plan_take (i := 16) (oi := ⟨some 11, .assign (.tmp 87), 4, "wallet.go:170", #[⟨15, .data⟩, ⟨1, .chain⟩, ⟨0, .phase⟩, ⟨1, .phase⟩, ⟨2, .phase⟩, ⟨3, .phase⟩, ⟨4, .phase⟩, ⟨5, .phase⟩, ⟨6, .phase⟩, ⟨7, .phase⟩, ⟨8, .phase⟩, ⟨9, .phase⟩, ⟨10, .phase⟩, ⟨11, .phase⟩, ⟨12, .phase⟩, ⟨13, .phase⟩, ⟨14, .phase⟩, ⟨15, .phase⟩], none⟩) (v := ?_) rfl (by kernel_rfl) (by kernel_rfl) (fx_read (Or.inl ⟨by rfl, ?hy6_16⟩)) ?_; case hy6_16 => (intro W hSW; go_simp <;> with_reducible rfl))
                try simp only [lays]
                refine Plan.done (by kernel_rfl) (fun W hSW => ?_)
                have HZ2 := Lib.hid (HZ.out.trans hSW)
                have HKN2 := Lib.hid (show (X1.take (k + 1)).any (fun S => decide (S.l = Ul)) = true from by
                  rw [take_nthG (L := X1) (k := k) (by rw [HX1.out]; exact hk2), List.any_append, HKN.out, HPE.out]
                  simp )
                clear hSW HKN
                go_wp2_with fail
                go_roundw
                case rel => exact ⟨k + 1, true, by go_num, rfl, hk2, HKN2, HZ2⟩
                case measure => simp [intOf]; omega
              | false =>
                by_cases hpe : Pl = Ul
                · skip
                  have hqq : s1 = s2 := by rw [← HS1.out, ← HS2.out, hpe]
                  have hq2 : (s1.toList == s2.toList) = true := by rw [← HS1.out, ← HS2.out, strV_eq']; exact decide_eq_true hpe
                  have HDE := Lib.hid (show decide (Pl = Ul) = true from decide_eq_true hpe)
                  clear hpe
                  go_wp2_with fail
                  refine wp_region_plan (S := fun W => Ext wr W) (by kernel_rfl) (by kernel_rfl) ((Ext.refl wr).drew') ?_
                  (refine plan_take (i := 0) (oi := ⟨some 72, .move (.tmp 11), 4, "wallet.go:170", #[], none⟩) (v := ?_) rfl (by kernel_rfl) (by kernel_rfl) (fx_read (Or.inl ⟨by rfl, ?hy7_0⟩)) ?_; case hy7_0 => (intro W hSW; go_simp <;> with_reducible rfl))
                  try simp only [lays]
                  (refine plan_take (i := 1) (oi := ⟨some 73, .move (.tmp 72), 4, "wallet.go:170", #[⟨0, .data⟩], none⟩) (v := ?_) rfl (by kernel_rfl) (by kernel_rfl) (fx_read (Or.inl ⟨by rfl, ?hy7_1⟩)) ?_; case hy7_1 => (intro W hSW; go_simp <;> with_reducible rfl))
                  try simp only [lays]
                  refine plan_oi (i := 2) (oi := ⟨some 74, .fieldAddr 32 (.tmp 2) 1, 0, "wallet.go:170", #[⟨1, .guard⟩], some (1, false)⟩) rfl (by kernel_rfl) (by kernel_rfl) ?_
                  first | (refine ⟨?_, (fx_read (Or.inl ⟨by rfl, ?hy7_2⟩)), ?_⟩; case hy7_2 => (intro W hSW; go_simp <;> with_reducible rfl)) | (refine ⟨undef, fx_skip (by rfl), ?_⟩)
                  try simp only [lays]
                  refine plan_oi (i := 3) (oi := ⟨some 75, .load 30 (.tmp 74), 30, "wallet.go:170", #[⟨2, .data⟩, ⟨1, .guard⟩], some (1, false)⟩) rfl (by kernel_rfl) (by kernel_rfl) ?_
                  first | (refine ⟨?_, (fx_read (Or.inl ⟨by rfl, ?hy7_3⟩)), ?_⟩; case hy7_3 => (intro W hSW; obtain ⟨c0, c1⟩ := vw_facts (HBA.out.ext (HZ0.out.trans hSW)); obtain ⟨e0, e1⟩ := vw_facts (HBU.out.ext (HZ0.out.trans hSW)); have f1 := HCP.out W (HZ0.out.trans hSW); have f2 := HCU.out W (HZ0.out.trans hSW); have f3 := HSP.out W (HZ0.out.trans hSW); have f4 := HSU.out W (HZ0.out.trans hSW); go_simp <;> with_reducible rfl)) | (refine ⟨undef, fx_skip (by rfl), ?_⟩)
                  try simp only [lays]
                  refine plan_oi (i := 4) (oi := ⟨some 76, .move (.tmp 12), 3, "wallet.go:170", #[⟨1, .guard⟩], some (1, false)⟩) rfl (by kernel_rfl) (by kernel_rfl) ?_
                  first | (refine ⟨?_, (fx_read (Or.inl ⟨by rfl, ?hy7_4⟩)), ?_⟩; case hy7_4 => (intro W hSW; go_simp <;> with_reducible rfl)) | (refine ⟨undef, fx_skip (by rfl), ?_⟩)
                  try simp only [lays]
                  refine plan_oi (i := 5) (oi := ⟨some 77, .indexAddr 30 (.tmp 75) (.tmp 76), 0, "wallet.go:170", #[⟨3, .data⟩, ⟨4, .data⟩, ⟨1, .guard⟩], some (1, false)⟩) rfl (by kernel_rfl) (by kernel_rfl) ?_
                  first | (refine ⟨?_, (fx_read (Or.inl ⟨by rfl, ?hy7_5⟩)), ?_⟩; case hy7_5 => (intro W hSW; go_simp <;> with_reducible rfl)) | (refine ⟨undef, fx_skip (by rfl), ?_⟩)
                  try simp only [lays]
                  refine plan_oi (i := 6) (oi := ⟨some 78, .load 33 (.tmp 77), 33, "wallet.go:170", #[⟨5, .data⟩, ⟨1, .guard⟩], some (1, false)⟩) rfl (by kernel_rfl) (by kernel_rfl) ?_
                  first | (refine ⟨?_, (fx_read (Or.inl ⟨by rfl, ?hy7_6⟩)), ?_⟩; case hy7_6 => (intro W hSW; obtain ⟨c0, c1⟩ := vw_facts (HBA.out.ext (HZ0.out.trans hSW)); obtain ⟨e0, e1⟩ := vw_facts (HBU.out.ext (HZ0.out.trans hSW)); have f1 := HCP.out W (HZ0.out.trans hSW); have f2 := HCU.out W (HZ0.out.trans hSW); have f3 := HSP.out W (HZ0.out.trans hSW); have f4 := HSU.out W (HZ0.out.trans hSW); go_simp <;> with_reducible rfl)) | (refine ⟨undef, fx_skip (by rfl), ?_⟩)
                  try simp only [lays]
                  refine plan_oi (i := 7) (oi := ⟨some 79, .convert 33 9 (.tmp 78), 9, "wallet.go:170", #[⟨6, .data⟩, ⟨1, .guard⟩], some (1, false)⟩) rfl (by kernel_rfl) (by kernel_rfl) ?_
                  first | (refine ⟨?_, (fx_read (Or.inl ⟨by rfl, ?hy7_7⟩)), ?_⟩; case hy7_7 => (intro W hSW; obtain ⟨c0, c1⟩ := vw_facts (HBA.out.ext (HZ0.out.trans hSW)); obtain ⟨e0, e1⟩ := vw_facts (HBU.out.ext (HZ0.out.trans hSW)); have f1 := HCP.out W (HZ0.out.trans hSW); have f2 := HCU.out W (HZ0.out.trans hSW); have f3 := HSP.out W (HZ0.out.trans hSW); have f4 := HSU.out W (HZ0.out.trans hSW); go_simp <;> with_reducible rfl)) | (refine ⟨undef, fx_skip (by rfl), ?_⟩)
                  try simp only [lays]
                  refine plan_oi (i := 8) (oi := ⟨some 80, .fieldAddr 32 (.tmp 5) 1, 0, "wallet.go:170", #[⟨1, .guard⟩], some (1, false)⟩) rfl (by kernel_rfl) (by kernel_rfl) ?_
                  first | (refine ⟨?_, (fx_read (Or.inl ⟨by rfl, ?hy7_8⟩)), ?_⟩; case hy7_8 => (intro W hSW; go_simp <;> with_reducible rfl)) | (refine ⟨undef, fx_skip (by rfl), ?_⟩)
                  try simp only [lays]
                  refine plan_oi (i := 9) (oi := ⟨some 81, .load 30 (.tmp 80), 30, "wallet.go:170", #[⟨8, .data⟩, ⟨1, .guard⟩], some (1, false)⟩) rfl (by kernel_rfl) (by kernel_rfl) ?_
                  first | (refine ⟨?_, (fx_read (Or.inl ⟨by rfl, ?hy7_9⟩)), ?_⟩; case hy7_9 => (intro W hSW; obtain ⟨c0, c1⟩ := vw_facts (HBA.out.ext (HZ0.out.trans hSW)); obtain ⟨e0, e1⟩ := vw_facts (HBU.out.ext (HZ0.out.trans hSW)); have f1 := HCP.out W (HZ0.out.trans hSW); have f2 := HCU.out W (HZ0.out.trans hSW); have f3 := HSP.out W (HZ0.out.trans hSW); have f4 := HSU.out W (HZ0.out.trans hSW); go_simp <;> with_reducible rfl)) | (refine ⟨undef, fx_skip (by rfl), ?_⟩)
                  try simp only [lays]
                  refine plan_oi (i := 10) (oi := ⟨some 82, .move (.tmp 10), 3, "wallet.go:170", #[⟨1, .guard⟩], some (1, false)⟩) rfl (by kernel_rfl) (by kernel_rfl) ?_
                  first | (refine ⟨?_, (fx_read (Or.inl ⟨by rfl, ?hy7_10⟩)), ?_⟩; case hy7_10 => (intro W hSW; go_simp <;> with_reducible rfl)) | (refine ⟨undef, fx_skip (by rfl), ?_⟩)
                  try simp only [lays]
                  refine plan_oi (i := 11) (oi := ⟨some 83, .indexAddr 30 (.tmp 81) (.tmp 82), 0, "wallet.go:170", #[⟨9, .data⟩, ⟨10, .data⟩, ⟨1, .guard⟩], some (1, false)⟩) rfl (by kernel_rfl) (by kernel_rfl) ?_
                  first | (refine ⟨?_, (fx_read (Or.inl ⟨by rfl, ?hy7_11⟩)), ?_⟩; case hy7_11 => (intro W hSW; go_simp <;> with_reducible rfl)) | (refine ⟨undef, fx_skip (by rfl), ?_⟩)
                  try simp only [lays]
                  refine plan_oi (i := 12) (oi := ⟨some 84, .load 33 (.tmp 83), 33, "wallet.go:170", #[⟨11, .data⟩, ⟨1, .guard⟩], some (1, false)⟩) rfl (by kernel_rfl) (by kernel_rfl) ?_
                  first | (refine ⟨?_, (fx_read (Or.inl ⟨by rfl, ?hy7_12⟩)), ?_⟩; case hy7_12 => (intro W hSW; obtain ⟨c0, c1⟩ := vw_facts (HBA.out.ext (HZ0.out.trans hSW)); obtain ⟨e0, e1⟩ := vw_facts (HBU.out.ext (HZ0.out.trans hSW)); have f1 := HCP.out W (HZ0.out.trans hSW); have f2 := HCU.out W (HZ0.out.trans hSW); have f3 := HSP.out W (HZ0.out.trans hSW); have f4 := HSU.out W (HZ0.out.trans hSW); go_simp <;> with_reducible rfl)) | (refine ⟨undef, fx_skip (by rfl), ?_⟩)
                  try simp only [lays]
                  refine plan_oi (i := 13) (oi := ⟨some 85, .convert 33 9 (.tmp 84), 9, "wallet.go:170", #[⟨12, .data⟩, ⟨1, .guard⟩], some (1, false)⟩) rfl (by kernel_rfl) (by kernel_rfl) ?_
                  first | (refine ⟨?_, (fx_read (Or.inl ⟨by rfl, ?hy7_13⟩)), ?_⟩; case hy7_13 => (intro W hSW; obtain ⟨c0, c1⟩ := vw_facts (HBA.out.ext (HZ0.out.trans hSW)); obtain ⟨e0, e1⟩ := vw_facts (HBU.out.ext (HZ0.out.trans hSW)); have f1 := HCP.out W (HZ0.out.trans hSW); have f2 := HCU.out W (HZ0.out.trans hSW); have f3 := HSP.out W (HZ0.out.trans hSW); have f4 := HSU.out W (HZ0.out.trans hSW); go_simp <;> with_reducible rfl)) | (refine ⟨undef, fx_skip (by rfl), ?_⟩)
                  try simp only [lays]
                  refine plan_oi (i := 14) (oi := ⟨some 86, .binOp .eql 9 (.tmp 79) (.tmp 85) 9, 4, "wallet.go:170", #[⟨7, .data⟩, ⟨13, .data⟩, ⟨1, .guard⟩], some (1, false)⟩) rfl (by kernel_rfl) (by kernel_rfl) ?_
                  first | (refine ⟨?_, (fx_read (Or.inl ⟨by rfl, ?hy7_14⟩)), ?_⟩; case hy7_14 => (intro W hSW; go_simp <;> with_reducible rfl)) | (refine ⟨undef, fx_skip (by rfl), ?_⟩)
                  try simp only [lays]
                  (refine plan_take (i := 15) (oi := ⟨some 87, .pick (.tmp 73) (.const (.bool true)) (.tmp 86), 4, "wallet.go:170", #[⟨1, .data⟩, ⟨14, .data⟩], none⟩) (v := ?_) rfl (by kernel_rfl) (by kernel_rfl) (fx_read (Or.inl ⟨by rfl, ?hy7_15⟩)) ?_; case hy7_15 => (intro W hSW; go_simp <;> with_reducible rfl))
                  try simp only [lays]
                  (refine plan_take (i := 16) (oi := ⟨some 11, .assign (.tmp 87), 4, "wallet.go:170", #[⟨15, .data⟩, ⟨1, .chain⟩, ⟨0, .phase⟩, ⟨1, .phase⟩, ⟨2, .phase⟩, ⟨3, .phase⟩, ⟨4, .phase⟩, ⟨5, .phase⟩, ⟨6, .phase⟩, ⟨7, .phase⟩, ⟨8, .phase⟩, ⟨9, .phase⟩, ⟨10, .phase⟩, ⟨11, .phase⟩, ⟨12, .phase⟩, ⟨13, .phase⟩, ⟨14, .phase⟩, ⟨15, .phase⟩], none⟩) (v := ?_) rfl (by kernel_rfl) (by kernel_rfl) (fx_read (Or.inl ⟨by rfl, ?hy7_16⟩)) ?_; case hy7_16 => (intro W hSW; go_simp <;> with_reducible rfl))
                  try simp only [lays]
                  refine Plan.done (by kernel_rfl) (fun W hSW => ?_)
                  have HZ2 := Lib.hid (HZ.out.trans hSW)
                  have HKN2 := Lib.hid (show (X1.take (k + 1)).any (fun S => decide (S.l = Ul)) = true from by
                    rw [take_nthG (L := X1) (k := k) (by rw [HX1.out]; exact hk2), List.any_append, HKN.out, HPE.out]
                    simp [HDE.out])
                  clear hSW HKN HDE hqq hq2
                  go_wp2_with fail
                  go_roundw
                  case rel => exact ⟨k + 1, true, by go_num, rfl, hk2, HKN2, HZ2⟩
                  case measure => simp [intOf]; omega
                · skip
                  have hqq : True := trivial
                  have hq2 : (s1.toList == s2.toList) = false := by rw [← HS1.out, ← HS2.out, strV_eq']; exact decide_eq_false hpe
                  have HDE := Lib.hid (show decide (Pl = Ul) = false from decide_eq_false hpe)
                  clear hpe
                  go_wp2_with fail
                  refine wp_region_plan (S := fun W => Ext wr W) (by kernel_rfl) (by kernel_rfl) ((Ext.refl wr).drew') ?_
                  (refine plan_take (i := 0) (oi := ⟨some 72, .move (.tmp 11), 4, "wallet.go:170", #[], none⟩) (v := ?_) rfl (by kernel_rfl) (by kernel_rfl) (fx_read (Or.inl ⟨by rfl, ?hy8_0⟩)) ?_; case hy8_0 => (intro W hSW; go_simp <;> with_reducible rfl))
                  try simp only [lays]
                  (refine plan_take (i := 1) (oi := ⟨some 73, .move (.tmp 72), 4, "wallet.go:170", #[⟨0, .data⟩], none⟩) (v := ?_) rfl (by kernel_rfl) (by kernel_rfl) (fx_read (Or.inl ⟨by rfl, ?hy8_1⟩)) ?_; case hy8_1 => (intro W hSW; go_simp <;> with_reducible rfl))
                  try simp only [lays]
                  refine plan_oi (i := 2) (oi := ⟨some 74, .fieldAddr 32 (.tmp 2) 1, 0, "wallet.go:170", #[⟨1, .guard⟩], some (1, false)⟩) rfl (by kernel_rfl) (by kernel_rfl) ?_
                  first | (refine ⟨?_, (fx_read (Or.inl ⟨by rfl, ?hy8_2⟩)), ?_⟩; case hy8_2 => (intro W hSW; go_simp <;> with_reducible rfl)) | (refine ⟨undef, fx_skip (by rfl), ?_⟩)
                  try simp only [lays]
                  refine plan_oi (i := 3) (oi := ⟨some 75, .load 30 (.tmp 74), 30, "wallet.go:170", #[⟨2, .data⟩, ⟨1, .guard⟩], some (1, false)⟩) rfl (by kernel_rfl) (by kernel_rfl) ?_
                  first | (refine ⟨?_, (fx_read (Or.inl ⟨by rfl, ?hy8_3⟩)), ?_⟩; case hy8_3 => (intro W hSW; obtain ⟨c0, c1⟩ := vw_facts (HBA.out.ext (HZ0.out.trans hSW)); obtain ⟨e0, e1⟩ := vw_facts (HBU.out.ext (HZ0.out.trans hSW)); have f1 := HCP.out W (HZ0.out.trans hSW); have f2 := HCU.out W (HZ0.out.trans hSW); have f3 := HSP.out W (HZ0.out.trans hSW); have f4 := HSU.out W (HZ0.out.trans hSW); go_simp <;> with_reducible rfl)) | (refine ⟨undef, fx_skip (by rfl), ?_⟩)
                  try simp only [lays]
                  refine plan_oi (i := 4) (oi := ⟨some 76, .move (.tmp 12), 3, "wallet.go:170", #[⟨1, .guard⟩], some (1, false)⟩) rfl (by kernel_rfl) (by kernel_rfl) ?_
                  first | (refine ⟨?_, (fx_read (Or.inl ⟨by rfl, ?hy8_4⟩)), ?_⟩; case hy8_4 => (intro W hSW; go_simp <;> with_reducible rfl)) | (refine ⟨undef, fx_skip (by rfl), ?_⟩)
                  try simp only [lays]
                  refine plan_oi (i := 5) (oi := ⟨some 77, .indexAddr 30 (.tmp 75) (.tmp 76), 0, "wallet.go:170", #[⟨3, .data⟩, ⟨4, .data⟩, ⟨1, .guard⟩], some (1, false)⟩) rfl (by kernel_rfl) (by kernel_rfl) ?_
                  first | (refine ⟨?_, (fx_read (Or.inl ⟨by rfl, ?hy8_5⟩)), ?_⟩; case hy8_5 => (intro W hSW; go_simp <;> with_reducible rfl)) | (refine ⟨undef, fx_skip (by rfl), ?_⟩)
                  try simp only [lays]
                  refine plan_oi (i := 6) (oi := ⟨some 78, .load 33 (.tmp 77), 33, "wallet.go:170", #[⟨5, .data⟩, ⟨1, .guard⟩], some (1, false)⟩) rfl (by kernel_rfl) (by kernel_rfl) ?_
                  first | (refine ⟨?_, (fx_read (Or.inl ⟨by rfl, ?hy8_6⟩)), ?_⟩; case hy8_6 => (intro W hSW; obtain ⟨c0, c1⟩ := vw_facts (HBA.out.ext (HZ0.out.trans hSW)); obtain ⟨e0, e1⟩ := vw_facts (HBU.out.ext (HZ0.out.trans hSW)); have f1 := HCP.out W (HZ0.out.trans hSW); have f2 := HCU.out W (HZ0.out.trans hSW); have f3 := HSP.out W (HZ0.out.trans hSW); have f4 := HSU.out W (HZ0.out.trans hSW); go_simp <;> with_reducible rfl)) | (refine ⟨undef, fx_skip (by rfl), ?_⟩)
                  try simp only [lays]
                  refine plan_oi (i := 7) (oi := ⟨some 79, .convert 33 9 (.tmp 78), 9, "wallet.go:170", #[⟨6, .data⟩, ⟨1, .guard⟩], some (1, false)⟩) rfl (by kernel_rfl) (by kernel_rfl) ?_
                  first | (refine ⟨?_, (fx_read (Or.inl ⟨by rfl, ?hy8_7⟩)), ?_⟩; case hy8_7 => (intro W hSW; obtain ⟨c0, c1⟩ := vw_facts (HBA.out.ext (HZ0.out.trans hSW)); obtain ⟨e0, e1⟩ := vw_facts (HBU.out.ext (HZ0.out.trans hSW)); have f1 := HCP.out W (HZ0.out.trans hSW); have f2 := HCU.out W (HZ0.out.trans hSW); have f3 := HSP.out W (HZ0.out.trans hSW); have f4 := HSU.out W (HZ0.out.trans hSW); go_simp <;> with_reducible rfl)) | (refine ⟨undef, fx_skip (by rfl), ?_⟩)
                  try simp only [lays]
                  refine plan_oi (i := 8) (oi := ⟨some 80, .fieldAddr 32 (.tmp 5) 1, 0, "wallet.go:170", #[⟨1, .guard⟩], some (1, false)⟩) rfl (by kernel_rfl) (by kernel_rfl) ?_
                  first | (refine ⟨?_, (fx_read (Or.inl ⟨by rfl, ?hy8_8⟩)), ?_⟩; case hy8_8 => (intro W hSW; go_simp <;> with_reducible rfl)) | (refine ⟨undef, fx_skip (by rfl), ?_⟩)
                  try simp only [lays]
                  refine plan_oi (i := 9) (oi := ⟨some 81, .load 30 (.tmp 80), 30, "wallet.go:170", #[⟨8, .data⟩, ⟨1, .guard⟩], some (1, false)⟩) rfl (by kernel_rfl) (by kernel_rfl) ?_
                  first | (refine ⟨?_, (fx_read (Or.inl ⟨by rfl, ?hy8_9⟩)), ?_⟩; case hy8_9 => (intro W hSW; obtain ⟨c0, c1⟩ := vw_facts (HBA.out.ext (HZ0.out.trans hSW)); obtain ⟨e0, e1⟩ := vw_facts (HBU.out.ext (HZ0.out.trans hSW)); have f1 := HCP.out W (HZ0.out.trans hSW); have f2 := HCU.out W (HZ0.out.trans hSW); have f3 := HSP.out W (HZ0.out.trans hSW); have f4 := HSU.out W (HZ0.out.trans hSW); go_simp <;> with_reducible rfl)) | (refine ⟨undef, fx_skip (by rfl), ?_⟩)
                  try simp only [lays]
                  refine plan_oi (i := 10) (oi := ⟨some 82, .move (.tmp 10), 3, "wallet.go:170", #[⟨1, .guard⟩], some (1, false)⟩) rfl (by kernel_rfl) (by kernel_rfl) ?_
                  first | (refine ⟨?_, (fx_read (Or.inl ⟨by rfl, ?hy8_10⟩)), ?_⟩; case hy8_10 => (intro W hSW; go_simp <;> with_reducible rfl)) | (refine ⟨undef, fx_skip (by rfl), ?_⟩)
                  try simp only [lays]
                  refine plan_oi (i := 11) (oi := ⟨some 83, .indexAddr 30 (.tmp 81) (.tmp 82), 0, "wallet.go:170", #[⟨9, .data⟩, ⟨10, .data⟩, ⟨1, .guard⟩], some (1, false)⟩) rfl (by kernel_rfl) (by kernel_rfl) ?_
                  first | (refine ⟨?_, (fx_read (Or.inl ⟨by rfl, ?hy8_11⟩)), ?_⟩; case hy8_11 => (intro W hSW; go_simp <;> with_reducible rfl)) | (refine ⟨undef, fx_skip (by rfl), ?_⟩)
                  try simp only [lays]
                  refine plan_oi (i := 12) (oi := ⟨some 84, .load 33 (.tmp 83), 33, "wallet.go:170", #[⟨11, .data⟩, ⟨1, .guard⟩], some (1, false)⟩) rfl (by kernel_rfl) (by kernel_rfl) ?_
                  first | (refine ⟨?_, (fx_read (Or.inl ⟨by rfl, ?hy8_12⟩)), ?_⟩; case hy8_12 => (intro W hSW; obtain ⟨c0, c1⟩ := vw_facts (HBA.out.ext (HZ0.out.trans hSW)); obtain ⟨e0, e1⟩ := vw_facts (HBU.out.ext (HZ0.out.trans hSW)); have f1 := HCP.out W (HZ0.out.trans hSW); have f2 := HCU.out W (HZ0.out.trans hSW); have f3 := HSP.out W (HZ0.out.trans hSW); have f4 := HSU.out W (HZ0.out.trans hSW); go_simp <;> with_reducible rfl)) | (refine ⟨undef, fx_skip (by rfl), ?_⟩)
                  try simp only [lays]
                  refine plan_oi (i := 13) (oi := ⟨some 85, .convert 33 9 (.tmp 84), 9, "wallet.go:170", #[⟨12, .data⟩, ⟨1, .guard⟩], some (1, false)⟩) rfl (by kernel_rfl) (by kernel_rfl) ?_
                  first | (refine ⟨?_, (fx_read (Or.inl ⟨by rfl, ?hy8_13⟩)), ?_⟩; case hy8_13 => (intro W hSW; obtain ⟨c0, c1⟩ := vw_facts (HBA.out.ext (HZ0.out.trans hSW)); obtain ⟨e0, e1⟩ := vw_facts (HBU.out.ext (HZ0.out.trans hSW)); have f1 := HCP.out W (HZ0.out.trans hSW); have f2 := HCU.out W (HZ0.out.trans hSW); have f3 := HSP.out W (HZ0.out.trans hSW); have f4 := HSU.out W (HZ0.out.trans hSW); go_simp <;> with_reducible rfl)) | (refine ⟨undef, fx_skip (by rfl), ?_⟩)
                  try simp only [lays]
                  refine plan_oi (i := 14) (oi := ⟨some 86, .binOp .eql 9 (.tmp 79) (.tmp 85) 9, 4, "wallet.go:170", #[⟨7, .data⟩, ⟨13, .data⟩, ⟨1, .guard⟩], some (1, false)⟩) rfl (by kernel_rfl) (by kernel_rfl) ?_
                  first | (refine ⟨?_, (fx_read (Or.inl ⟨by rfl, ?hy8_14⟩)), ?_⟩; case hy8_14 => (intro W hSW; go_simp <;> with_reducible rfl)) | (refine ⟨undef, fx_skip (by rfl), ?_⟩)
                  try simp only [lays]
                  (refine plan_take (i := 15) (oi := ⟨some 87, .pick (.tmp 73) (.const (.bool true)) (.tmp 86), 4, "wallet.go:170", #[⟨1, .data⟩, ⟨14, .data⟩], none⟩) (v := ?_) rfl (by kernel_rfl) (by kernel_rfl) (fx_read (Or.inl ⟨by rfl, ?hy8_15⟩)) ?_; case hy8_15 => (intro W hSW; go_simp <;> with_reducible rfl))
                  try simp only [lays]
                  (refine plan_take (i := 16) (oi := ⟨some 11, .assign (.tmp 87), 4, "wallet.go:170", #[⟨15, .data⟩, ⟨1, .chain⟩, ⟨0, .phase⟩, ⟨1, .phase⟩, ⟨2, .phase⟩, ⟨3, .phase⟩, ⟨4, .phase⟩, ⟨5, .phase⟩, ⟨6, .phase⟩, ⟨7, .phase⟩, ⟨8, .phase⟩, ⟨9, .phase⟩, ⟨10, .phase⟩, ⟨11, .phase⟩, ⟨12, .phase⟩, ⟨13, .phase⟩, ⟨14, .phase⟩, ⟨15, .phase⟩], none⟩) (v := ?_) rfl (by kernel_rfl) (by kernel_rfl) (fx_read (Or.inl ⟨by rfl, ?hy8_16⟩)) ?_; case hy8_16 => (intro W hSW; go_simp <;> with_reducible rfl))
                  try simp only [lays]
                  refine Plan.done (by kernel_rfl) (fun W hSW => ?_)
                  have HZ2 := Lib.hid (HZ.out.trans hSW)
                  have HKN2 := Lib.hid (show (X1.take (k + 1)).any (fun S => decide (S.l = Ul)) = false from by
                    rw [take_nthG (L := X1) (k := k) (by rw [HX1.out]; exact hk2), List.any_append, HKN.out, HPE.out]
                    simp [HDE.out])
                  clear hSW HKN HDE hqq hq2
                  go_wp2_with fail
                  go_roundw
                  case rel => exact ⟨k + 1, false, by go_num, rfl, hk2, HKN2, HZ2⟩
                  case measure => simp [intOf]; omega
            · obtain rfl : k = m1 := by omega
              have i2 : ¬ (k : Int) < (k : Int) := by omega
              have HAL := Lib.hid (show decide (Ul ∈ X1.map TeR.l) = kn from by have := HKN.out; rwa [List.take_of_length_le (by rw [HX1.out]; exact Nat.le_refl _), any_l] at this)
              have HMK := Lib.hid (HM.out.ext HZ.out)
              clear HKN HZ0' HM HZ HZW HSU
              cases kn with
              | true =>
                have HD2 := Lib.hid (show XD = (XU.take (j + 1)).filter pt from by rw [flt_no (by rw [HLX.out]; exact hlt) (by rw [← HPT.out, HUE.out]; show (!decide (Ul ∈ _)) = false; rw [HAL.out]; rfl)]; exact HD.out)
                clear HD
                go_wp2_with fail
                go_roundw
                case rel => exact ⟨j + 1, B, mm, d, XD, by go_num, hlt, by omega, HD2, HMK⟩
                case measure => simp [intOf]; omega
              | false =>
                have HD2 := Lib.hid (show XD ++ [⟨Ua, Uz, Uc, Ul⟩] = (XU.take (j + 1)).filter pt from by rw [flt_yes (by rw [HLX.out]; exact hlt) (by rw [← HPT.out, HUE.out]; show (!decide (Ul ∈ _)) = true; rw [HAL.out]; rfl), HUE.out, ← HD.out])
                have HMd := Lib.hid (HMK.out.ext (Ext.refl wr).drew')
                have qd : wr.drew.cell? ⟨W9.heap.size, 1, none⟩ = some (.slice B mm d) := HMd.out.blk.cell 1
                clear HD
                go_upto_region 22 with (fail)
                refine wp_region_held_drew (S := fun W => Ext W9 W) (by kernel_rfl) (HMd.out.low) (fun hHeld => ?_)
                (refine wpAnyH_take (i := 0) (oi := ⟨some 90, .fieldAddr 32 (.tmp 6) 1, 0, "wallet.go:173", #[], none⟩) (v := ?_) rfl (by kernel_rfl) (by kernel_rfl) (by kernel_rfl) (fun _ _ _ h => h) (Or.inl ⟨by rfl, ?hy2_0_l1⟩) hHeld ?_; case hy2_0_l1 => (intro W hSW; go_simp <;> with_reducible rfl))
                try simp only [lays]
                (refine wpAnyH_take (i := 2) (oi := ⟨some 92, .fieldAddr 32 (.tmp 5) 1, 0, "wallet.go:173", #[], none⟩) (v := ?_) rfl (by kernel_rfl) (by kernel_rfl) (by kernel_rfl) (fun _ _ _ h => h) (Or.inl ⟨by rfl, ?hy2_2_l3⟩) hHeld ?_; case hy2_2_l3 => (intro W hSW; go_simp <;> with_reducible rfl))
                try simp only [lays]
                (refine wpAnyH_take (i := 3) (oi := ⟨some 93, .load 30 (.tmp 92), 30, "wallet.go:173", #[⟨2, .data⟩], none⟩) (v := ?_) rfl (by kernel_rfl) (by kernel_rfl) (by kernel_rfl) (fun _ _ _ h => h) (Or.inl ⟨by rfl, ?hy2_3_l5⟩) hHeld ?_; case hy2_3_l5 => (intro W hSW; obtain ⟨e0, e1⟩ := vw_facts (HBU.out.ext hSW); have f2 := HCU.out W hSW; go_simp <;> with_reducible rfl))
                try simp only [lays]
                (refine wpAnyH_take (i := 4) (oi := ⟨some 94, .move (.tmp 10), 3, "wallet.go:173", #[], none⟩) (v := ?_) rfl (by kernel_rfl) (by kernel_rfl) (by kernel_rfl) (fun _ _ _ h => h) (Or.inl ⟨by rfl, ?hy2_4_l7⟩) hHeld ?_; case hy2_4_l7 => (intro W hSW; go_simp <;> with_reducible rfl))
                try simp only [lays]
                (refine wpAnyH_take (i := 5) (oi := ⟨some 95, .indexAddr 30 (.tmp 93) (.tmp 94), 0, "wallet.go:173", #[⟨3, .data⟩, ⟨4, .data⟩], none⟩) (v := ?_) rfl (by kernel_rfl) (by kernel_rfl) (by kernel_rfl) (fun _ _ _ h => h) (Or.inl ⟨by rfl, ?hy2_5_l9⟩) hHeld ?_; case hy2_5_l9 => (intro W hSW; go_simp <;> with_reducible rfl))
                try simp only [lays]
                (refine wpAnyH_take (i := 6) (oi := ⟨some 96, .load 33 (.tmp 95), 33, "wallet.go:173", #[⟨5, .data⟩], none⟩) (v := ?_) rfl (by kernel_rfl) (by kernel_rfl) (by kernel_rfl) (fun _ _ _ h => h) (Or.inl ⟨by rfl, ?hy2_6_l11⟩) hHeld ?_; case hy2_6_l11 => (intro W hSW; obtain ⟨e0, e1⟩ := vw_facts (HBU.out.ext hSW); have f2 := HCU.out W hSW; go_simp <;> with_reducible rfl))
                try simp only [lays]
                refine wpAnyH_ready (rs := [1, 7]) (by kernel_rfl) (by simp) ?_
                refine (AllReadyH.cons (o := ⟨some 91, .load 30 (.tmp 90), 30, "wallet.go:173", #[⟨0, .data⟩], none⟩) rfl (fun K hK => ?ka2_22_6_1_n1) (AllReadyH.cons (o := ⟨some 97, .buildSlice 30 1 #[(0, .tmp 96)], 30, "wallet.go:173", #[⟨6, .data⟩], none⟩) rfl (fun K hK => ?ka2_22_6_7_n1) AllReadyH.nil))
                case' ka2_22_6_1_n1 =>
                  (go_simp)
                  refine hK.out _ _ (hHeld) (fun hHeld => ?_)
                  clear hK K
                  try simp only [lays]
                  refine wpAnyH_ready (rs := [7]) (by kernel_rfl) (by simp) ?_
                  refine (AllReadyH.cons (o := ⟨some 97, .buildSlice 30 1 #[(0, .tmp 96)], 30, "wallet.go:173", #[⟨6, .data⟩], none⟩) rfl (fun K hK => ?_) AllReadyH.nil)
                  (refine step_buildTe rfl (.tmp 96) (by rfl) Ua Uz Uc (by rfl) ?_; intro W7 hW7; have HR7 := Lib.hid (show Rd W7 (some ⟨wr.drew.heap.size, 0, none⟩) [.slice Ua Uz Uc] from by rw [← hW7.out]; exact Rd.of_blk (Blk.new wr.drew 33 #[.slice Ua Uz Uc])); have HX7 := Lib.hid (show Ext wr.drew W7 from by rw [← hW7.out]; exact (Ext.refl wr.drew).alloc' _); have HM7 := Lib.hid (HMd.out.ext HX7.out); have q7 : W7.cell? ⟨W9.heap.size, 1, none⟩ = some (.slice B mm d) := HM7.out.blk.cell 1; clear hW7)
                  refine hK.out _ _ (hHeld.trans HX7.out) (fun hHeld => ?_)
                  clear hK K
                  try simp only [lays]
                  refine wpAnyH_ready (rs := [8]) (by kernel_rfl) (by simp) ?_
                  refine (AllReadyH.cons (o := ⟨some 98, .call { callee := .builtin .append, args := #[.tmp 91, .tmp 97], argTypes := #[30, 30] }, 30, "wallet.go:173", #[⟨1, .data⟩, ⟨7, .data⟩], none⟩) rfl (fun K hK => ?_) AllReadyH.nil)
                  (refine step_appG' teE rfl (.tmp 91) (.tmp 97) rfl (W9.heap.size + 1) B mm d (gcs XD) (by rfl) HM7.out.own2 (some ⟨wr.drew.heap.size, 0, none⟩) 1 1 [.slice Ua Uz Uc] (by rfl) HR7.out (by rfl) (fun u hu => by rw [List.mem_singleton.1 hu]; rfl) (by omega) (by omega) HM7.out.big ?_; intro B8 d8 w8 ho hg; have HP8 := Lib.hid (HM7.out.push2 (T := ⟨Ua, Uz, Uc, Ul⟩) hg ho); have HE8 := Lib.hid (HM7.out.grow2 hg).1; have hb8 := (HM7.out.grow2 hg).2; have q8 : w8.cell? ⟨W9.heap.size, 1, none⟩ = some (.slice B mm d) := hb8.cell 1; have p8 := hb8.frozen 1; clear ho hg hb8)
                  refine hK.out _ _ (HE8.out) (fun hHeld => ?_)
                  clear hK K
                  try simp only [lays]
                  (refine wpAnyH_take (i := 9) (oi := ⟨some 99, .fieldAddr 32 (.tmp 6) 1, 0, "wallet.go:173", #[⟨0, .phase⟩, ⟨1, .phase⟩, ⟨2, .phase⟩, ⟨3, .phase⟩, ⟨4, .phase⟩, ⟨5, .phase⟩, ⟨6, .phase⟩, ⟨7, .phase⟩, ⟨8, .phase⟩], none⟩) (v := ?_) rfl (by kernel_rfl) (by kernel_rfl) (by kernel_rfl) (fun _ _ _ h => h) (Or.inl ⟨by rfl, ?hy2_9_l32⟩) hHeld ?_; case hy2_9_l32 => (intro W hSW; go_simp <;> with_reducible rfl))
                  try simp only [lays]
                  refine wpAnyH_ready (rs := [10]) (by kernel_rfl) (by simp) ?_
                  refine (AllReadyH.cons (o := ⟨none, .store 30 (.tmp 99) (.tmp 98), 0, "wallet.go:173", #[⟨9, .data⟩, ⟨8, .data⟩, ⟨8, .chain⟩, ⟨0, .phase⟩, ⟨1, .phase⟩, ⟨2, .phase⟩, ⟨3, .phase⟩, ⟨4, .phase⟩, ⟨5, .phase⟩, ⟨6, .phase⟩, ⟨7, .phase⟩, ⟨8, .phase⟩], none⟩) rfl (fun K hK => ?_) AllReadyH.nil)
                  (go_simp)
                  refine hK.out _ _ (HP8.out.low) (fun hHeld => ?_)
                  clear hK K
                  try simp only [lays]
                  refine wpAnyH_done (by kernel_rfl) ?_ _
                case' ka2_22_6_7_n1 =>
                  (refine step_buildTe rfl (.tmp 96) (by rfl) Ua Uz Uc (by rfl) ?_; intro W7 hW7; have HR7 := Lib.hid (show Rd W7 (some ⟨wr.drew.heap.size, 0, none⟩) [.slice Ua Uz Uc] from by rw [← hW7.out]; exact Rd.of_blk (Blk.new wr.drew 33 #[.slice Ua Uz Uc])); have HX7 := Lib.hid (show Ext wr.drew W7 from by rw [← hW7.out]; exact (Ext.refl wr.drew).alloc' _); have HM7 := Lib.hid (HMd.out.ext HX7.out); have q7 : W7.cell? ⟨W9.heap.size, 1, none⟩ = some (.slice B mm d) := HM7.out.blk.cell 1; clear hW7)
                  refine hK.out _ _ (hHeld.trans HX7.out) (fun hHeld => ?_)
                  clear hK K
                  try simp only [lays]
                  refine wpAnyH_ready (rs := [1]) (by kernel_rfl) (by simp) ?_
                  refine (AllReadyH.cons (o := ⟨some 91, .load 30 (.tmp 90), 30, "wallet.go:173", #[⟨0, .data⟩], none⟩) rfl (fun K hK => ?_) AllReadyH.nil)
                  (go_simp)
                  refine hK.out _ _ (hHeld) (fun hHeld => ?_)
                  clear hK K
                  try simp only [lays]
                  refine wpAnyH_ready (rs := [8]) (by kernel_rfl) (by simp) ?_
                  refine (AllReadyH.cons (o := ⟨some 98, .call { callee := .builtin .append, args := #[.tmp 91, .tmp 97], argTypes := #[30, 30] }, 30, "wallet.go:173", #[⟨1, .data⟩, ⟨7, .data⟩], none⟩) rfl (fun K hK => ?_) AllReadyH.nil)
                  (refine step_appG' teE rfl (.tmp 91) (.tmp 97) rfl (W9.heap.size + 1) B mm d (gcs XD) (by rfl) HM7.out.own2 (some ⟨wr.drew.heap.size, 0, none⟩) 1 1 [.slice Ua Uz Uc] (by rfl) HR7.out (by rfl) (fun u hu => by rw [List.mem_singleton.1 hu]; rfl) (by omega) (by omega) HM7.out.big ?_; intro B8 d8 w8 ho hg; have HP8 := Lib.hid (HM7.out.push2 (T := ⟨Ua, Uz, Uc, Ul⟩) hg ho); have HE8 := Lib.hid (HM7.out.grow2 hg).1; have hb8 := (HM7.out.grow2 hg).2; have q8 : w8.cell? ⟨W9.heap.size, 1, none⟩ = some (.slice B mm d) := hb8.cell 1; have p8 := hb8.frozen 1; clear ho hg hb8)
                  refine hK.out _ _ (HE8.out) (fun hHeld => ?_)
                  clear hK K
                  try simp only [lays]
                  (refine wpAnyH_take (i := 9) (oi := ⟨some 99, .fieldAddr 32 (.tmp 6) 1, 0, "wallet.go:173", #[⟨0, .phase⟩, ⟨1, .phase⟩, ⟨2, .phase⟩, ⟨3, .phase⟩, ⟨4, .phase⟩, ⟨5, .phase⟩, ⟨6, .phase⟩, ⟨7, .phase⟩, ⟨8, .phase⟩], none⟩) (v := ?_) rfl (by kernel_rfl) (by kernel_rfl) (by kernel_rfl) (fun _ _ _ h => h) (Or.inl ⟨by rfl, ?hy2_9_l58⟩) hHeld ?_; case hy2_9_l58 => (intro W hSW; go_simp <;> with_reducible rfl))
                  try simp only [lays]
                  refine wpAnyH_ready (rs := [10]) (by kernel_rfl) (by simp) ?_
                  refine (AllReadyH.cons (o := ⟨none, .store 30 (.tmp 99) (.tmp 98), 0, "wallet.go:173", #[⟨9, .data⟩, ⟨8, .data⟩, ⟨8, .chain⟩, ⟨0, .phase⟩, ⟨1, .phase⟩, ⟨2, .phase⟩, ⟨3, .phase⟩, ⟨4, .phase⟩, ⟨5, .phase⟩, ⟨6, .phase⟩, ⟨7, .phase⟩, ⟨8, .phase⟩], none⟩) rfl (fun K hK => ?_) AllReadyH.nil)
                  (go_simp)
                  refine hK.out _ _ (HP8.out.low) (fun hHeld => ?_)
                  clear hK K
                  try simp only [lays]
                  refine wpAnyH_done (by kernel_rfl) ?_ _
                all_goals (
                  have HM9 := HP8
                  clear HP8 HM7 HMd HMK hHeld HE8 HX7 HR7
                  go_wp2_with fail
                  go_roundw
                  case rel => exact ⟨j + 1, B8, mm + 1, d8, XD ++ [⟨Ua, Uz, Uc, Ul⟩], by go_num, hlt, by omega, HD2, HM9⟩
                  case measure => simp [intOf]; omega)
        · obtain rfl : j = mu := by omega
          have i1 : ¬ (j : Int) < (j : Int) := by omega
          have HXF := Lib.hid (show XD = XU.filter pt from by have := HD.out; rwa [List.take_of_length_le (by rw [HLX.out]; exact Nat.le_refl _)] at this)
          clear HD
          have HVF := Lib.hid (show VwO wr w.heap.size A nn c D B mm d XD from ⟨own_mono HM.out.own1 (by have := HE9.out.size; omega), own_mono HM.out.own2 (by have := HE9.out.size; omega), fun S hS => by
            have := HVU.out.sig S (by rw [HDF.out] at hS; exact (List.mem_filter.1 hS).1)
            exact ⟨OwnB.ext this.1 HM.out.low, this.2⟩, fun T hT => OwnB.ext (HVU.out.tex T (by rw [HXF.out] at hT; exact (List.mem_filter.1 hT).1)) HM.out.low⟩)
          have HVD := Lib.hid (show D.map SgR.V = (canonO ltSv (L2.map SgR.V)).filter (fun v => !decide (v.1 ∈ L1.map SgR.v)) from by rw [← HLV.out, List.filter_map, HDF.out, ← HP.out]; rfl)
          have HVX := Lib.hid (show XD.map TeR.l = (canonO lexB (X2.map TeR.l)).filter (fun l => !decide (l ∈ X1.map TeR.l)) from by rw [← HXV.out, List.filter_map, HXF.out, ← HPT.out]; rfl)
          have HRw := Lib.hid (HBR.out.ext HM.out.low)
          have HLow := Lib.hid (HE9.out.trans HM.out.low)
          obtain ⟨y0, y1⟩ := vw_facts HM.out.blk
          have ht : wr.there (w.heap.size + 2) 0 2 := there_of_blk HRw.out
          have hst := blk_whole (ds := vwA A nn c B mm d) HRw.out rfl
          go_wp2_with (first | (with_reducible refine wpList_storeVw rfl (.tmp 4) (.tmp 100) rfl (w.heap.size + 2) A nn c B mm d rfl rfl ht ?_))
          exact bodyPost_ret (v := .agg (vwA A nn c B mm d)) (retC rfl _ _ (w.heap.size + 2) _ rfl (run_loadVar_row _ _ _ _ _ (0, 0) _ hst Try.underlying32 rfl (by kernel_rfl))) rfl ⟨A, nn, c, D, B, mm, d, XD, rfl, HVF.out.set HRw.out _, HVD.out, HVX.out, by omega, by omega, Below.setCells' HLow.out (by omega) _ _⟩
end Go.Proofs.Ytjlnmpjffogpdaa
