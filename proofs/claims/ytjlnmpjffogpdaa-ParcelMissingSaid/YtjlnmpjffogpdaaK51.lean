/- The law ParcelMissing: the walk. -/
import Derived.Test.YtjlnmpjffogpdaaK47
import Derived.Test.YtjlnmpjffogpdaaK50
import Derived.Test.YtjlnmpjffogpdaaK13
import Derived.Test.YtjlnmpjffogpdaaK18
import Derived.Test.YtjlnmpjffogpdaaLay
namespace Go.Proofs.Ytjlnmpjffogpdaa
open Go.RowKit
set_option linter.unusedVariables false
set_option linter.unusedSimpArgs false
attribute [local go_sem ↓] Go.wp_at_zero Go.wp_at_succ

theorem run_fieldVw1 (A : Option Addr) (n c : Nat) (B : Option Addr) (m d : Nat) (w : World) : (Instr.field 32 (.agg (vwA A n c B m d)) 1).run Try.prog w = .ok (.slice B m d) w := by kernel_rfl
theorem eqG_of_map {α β : Type} [RowT α] [DecidableEq β] (f : α → β) (e : α → α → Bool) (he : ∀ x y, e x y = decide (f x = f y)) {L M : List α} (h : L.map f = M.map f) : eqG e L M = true := by
  have hl : L.length = M.length := by simpa using congrArg List.length h
  refine eqG_yes hl (fun k hk => ?_)
  rw [he]
  refine decide_eq_true ?_
  have h1 : (L.map f)[k]? = (M.map f)[k]? := by rw [h]
  rw [List.getElem?_map, List.getElem?_map, nthG_get hk, nthG_get (by rw [← hl]; exact hk)] at h1
  simpa using h1
theorem eqVw_of {L L' : List SgR} {X X' : List TeR} (h1 : L.map SgR.V = L'.map SgR.V) (h2 : X.map TeR.l = X'.map TeR.l) : eqVw L X L' X' = true := by
  unfold eqVw
  rw [eqG_of_map SgR.V eqSg eqSg_V h1, eqG_of_map TeR.l eqTe (fun x y => rfl) h2]; rfl
theorem mis_sizeS {w : World} {A : Option Addr} {n c : Nat} {w2 : World} {A2 : Option Addr} {n2 c2 : Nat} {M L2 : List SgR} {q : SgV → Bool} {K : Nat} (hM : M.map SgR.V = (canonO ltSv (L2.map SgR.V)).filter q) (h1 : SlG w A n c M) (h2 : SlG w2 A2 n2 c2 L2) (h3 : ∀ S ∈ L2, S.n ≤ K) : ∀ S ∈ M, S.n ≤ K := fun S hS => by
  have : S.V ∈ M.map SgR.V := List.mem_map.2 ⟨S, hS, rfl⟩
  rw [hM, List.mem_filter, mem_canonO ltSv_sto] at this
  obtain ⟨R, hR, he⟩ := List.mem_map.1 this.1
  have e1 : R.sig = S.sig := congrArg Prod.snd he
  have e2 : R.sig.length = R.n := (h2.ok R hR).sig.len
  have e3 : S.sig.length = S.n := (h1.ok S hS).sig.len
  have := h3 R hR
  rw [← e3, ← e1, e2]; exact this
theorem mis_sizeT {w : World} {A : Option Addr} {n c : Nat} {w2 : World} {A2 : Option Addr} {n2 c2 : Nat} {M L2 : List TeR} {q : List UInt8 → Bool} {K : Nat} (hM : M.map TeR.l = (canonO lexB (L2.map TeR.l)).filter q) (h1 : SlG w A n c M) (h2 : SlG w2 A2 n2 c2 L2) (h3 : ∀ S ∈ L2, S.n ≤ K) : ∀ S ∈ M, S.n ≤ K := fun S hS => by
  have : S.l ∈ M.map TeR.l := List.mem_map.2 ⟨S, hS, rfl⟩
  rw [hM, List.mem_filter, mem_canonO lexB_sto] at this
  obtain ⟨R, hR, he⟩ := List.mem_map.1 this.1
  have e2 : R.l.length = R.n := SlB.len (h2.ok R hR)
  have e3 : S.l.length = S.n := SlB.len (h1.ok S hS)
  have := h3 R hR
  rw [← e3, ← he, e2]; exact this
theorem both {α : Type} {P : α → Prop} {L M : List α} (h1 : ∀ x ∈ L, P x) (h2 : ∀ x ∈ M, P x) : ∀ x ∈ L ++ M, P x := fun x hx => by
  rcases List.mem_append.1 hx with h | h
  · exact h1 x h
  · exact h2 x h
set_option maxRecDepth 100000 in
set_option maxHeartbeats 32000000 in
theorem parcelMissing_any (A1 : Option Addr) (n1 k1 : Nat) (L1 : List SgR) (B1 : Option Addr) (m1 d1 : Nat) (X1 : List TeR) (A2 : Option Addr) (n2 c2 : Nat) (L2 : List SgR) (B2 : Option Addr) (m2 d2 : Nat) (X2 : List TeR) (w : World) (hS : SlG w A1 n1 k1 L1) (hX : SlG w B1 m1 d1 X1) (hS2 : SlG w A2 n2 c2 L2) (hX2 : SlG w B2 m2 d2 X2) (z1 : VwZ n1 m1 L1 X1) (z2 : VwZ n2 m2 L2 X2) :
    Calls Try.prog 4 #[.agg (vwA A1 n1 k1 B1 m1 d1), .agg (vwA A2 n2 c2 B2 m2 d2)] w fun e w' => e = .returned (.bool true) ∧ Ext w w' := by
  obtain ⟨W2, hW2⟩ : ∃ W2, (w.alloc (.cells (vwA A1 n1 k1 B1 m1 d1) 32)).alloc (.cells (vwA A2 n2 c2 B2 m2 d2) 32) = W2 := ⟨_, rfl⟩
  have HEW := Lib.hid (show Ext w W2 from by rw [← hW2]; exact ((Ext.refl w).alloc' _).alloc' _)
  have HPA := Lib.hid (show Blk W2 w.heap.size 32 (vwA A1 n1 k1 B1 m1 d1) from by rw [← hW2]; exact (Blk.new w 32 (vwA A1 n1 k1 B1 m1 d1)).alloc _)
  have HPB := Lib.hid (show Blk W2 (w.heap.size + 1) 32 (vwA A2 n2 c2 B2 m2 d2) from by rw [← hW2]; exact Blk.newAt (w.alloc _) _ _ (w.heap.size + 1) (by simp))
  have HS := Lib.hid (hS.ext HEW.out)
  have HX := Lib.hid (hX.ext HEW.out)
  have HS2 := Lib.hid (hS2.ext HEW.out)
  have HX2 := Lib.hid (hX2.ext HEW.out)
  have HZS1 := Lib.hid (show ∀ S ∈ L1, S.n ≤ 140737488355328 from fun S h => Nat.le_trans (z1.s S h) (by omega))
  have HZT1 := Lib.hid (show ∀ S ∈ X1, S.n ≤ 140737488355328 from fun S h => Nat.le_trans (z1.t S h) (by omega))
  have HZS2 := Lib.hid (show ∀ S ∈ L2, S.n ≤ 140737488355328 from fun S h => Nat.le_trans (z2.s S h) (by omega))
  have HZT2 := Lib.hid (show ∀ S ∈ X2, S.n ≤ 140737488355328 from fun S h => Nat.le_trans (z2.t S h) (by omega))
  have hz1 := z1.n
  have hz2 := z1.m
  have hz3 := z2.n
  have hz4 := z2.m
  obtain ⟨c0, c1⟩ := vw_facts HPA.out
  clear hS hX hS2 hX2 z1 z2
  go_enter Try.func4, Try.ntmps4
  go_wp2_with fail
  clear hW2
  refine (heavy_any A1 n1 k1 L1 B1 m1 d1 X1 W2 HS.out HX.out (by omega) (by omega)).mono ?_
  rintro e w3 ⟨bh, rfl, hb, he3⟩
  have HEW := Lib.hid (HEW.out.trans he3)
  have HPA := Lib.hid (HPA.out.ext he3)
  have HPB := Lib.hid (HPB.out.ext he3)
  have HS := Lib.hid (HS.out.ext he3)
  have HX := Lib.hid (HX.out.ext he3)
  have HS2 := Lib.hid (HS2.out.ext he3)
  have HX2 := Lib.hid (HX2.out.ext he3)
  clear c0 c1 he3
  obtain ⟨e0, e1⟩ := vw_facts HPB.out
  cases bh with
  | true =>
    go_wp2_with fail
    refine (awake37_any _).mono ?_
    rintro e w9 ⟨rfl, he9⟩
    go_wp2_with fail
    go_ret
    exact ⟨rfl, HEW.out.trans he9⟩
  | false =>
    have hb1 := hb rfl
    clear hb
    go_wp2_with fail
    refine (heavy_any A2 n2 c2 L2 B2 m2 d2 X2 w3 HS2.out HX2.out (by omega) (by omega)).mono ?_
    rintro e w4 ⟨bh, rfl, hb, he4⟩
    have HEW := Lib.hid (HEW.out.trans he4)
    have HPA := Lib.hid (HPA.out.ext he4)
    have HPB := Lib.hid (HPB.out.ext he4)
    have HS := Lib.hid (HS.out.ext he4)
    have HX := Lib.hid (HX.out.ext he4)
    have HS2 := Lib.hid (HS2.out.ext he4)
    have HX2 := Lib.hid (HX2.out.ext he4)
    clear e0 e1 he4
    obtain ⟨c0, c1⟩ := vw_facts HPA.out
    obtain ⟨e0, e1⟩ := vw_facts HPB.out
    cases bh with
    | true =>
      go_wp2_with fail
      refine (awake37_any _).mono ?_
      rintro e w9 ⟨rfl, he9⟩
      go_wp2_with fail
      go_ret
      exact ⟨rfl, HEW.out.trans he9⟩
    | false =>
      have hb2 := hb rfl
      clear hb
      go_wp2_with fail
      refine (missing_any A1 n1 k1 L1 B1 m1 d1 X1 A2 n2 c2 L2 B2 m2 d2 X2 w4 HS.out HX.out HS2.out HX2.out (by omega) (by omega) (by omega) (by omega) HZT1.out HZS2.out HZT2.out).mono ?_
      rintro e w5 ⟨A5, n5, c5, L5, B5, m5, d5, X5, rfl, hv5, hL5, hX5, hn5, hm5, he5⟩
      obtain ⟨g5, hg5⟩ : ∃ q, w5.heap.size = q := ⟨_, rfl⟩
      obtain ⟨W5, hW5⟩ : ∃ W, w5.alloc (.cells (vwA A5 n5 c5 B5 m5 d5) 32) = W := ⟨_, rfl⟩
      have HX9 := Lib.hid (show Ext w5 W5 from by rw [← hW5]; exact (Ext.refl w5).alloc' _)
      have HP5 := Lib.hid (show Blk W5 g5 32 (vwA A5 n5 c5 B5 m5 d5) from by rw [← hW5, ← hg5]; exact Blk.new _ _ _)
      have he5 := he5.trans HX9.out
      have HEW := Lib.hid (HEW.out.trans he5)
      have HPA := Lib.hid (HPA.out.ext he5)
      have HPB := Lib.hid (HPB.out.ext he5)
      have HS := Lib.hid (HS.out.ext he5)
      have HX := Lib.hid (HX.out.ext he5)
      have HS2 := Lib.hid (HS2.out.ext he5)
      have HX2 := Lib.hid (HX2.out.ext he5)
      have HV5 := Lib.hid (hv5.ext HX9.out)
      have HL5 := Lib.hid hL5
      have HX5 := Lib.hid hX5
      clear c0 c1 e0 e1 he5 hv5 hL5 hX5 HX9
      go_upto_region 4 with (fail)
      clear hW5 hg5
      have HE := Lib.hid ((Ext.refl W5).drew')
      refine wp_region_held_drew (S := fun W => Ext W5 W) (by kernel_rfl) ((Ext.refl W5).drew') (fun hHeld => ?_)
      (refine wpAnyH_take (i := 0) (oi := ⟨some 20, .load 32 (.tmp 5), 32, "law.go:68", #[], none⟩) (v := ?_) rfl (by kernel_rfl) (by kernel_rfl) (by kernel_rfl) (fun _ _ _ h => h) (Or.inl ⟨by rfl, ?hy1_0_l1⟩) hHeld ?_; case hy1_0_l1 => (intro W hSW; obtain ⟨c0, c1⟩ := vw_facts (HPA.out.ext hSW); obtain ⟨e0, e1⟩ := vw_facts (HPB.out.ext hSW); obtain ⟨g0, g1⟩ := vw_facts (HP5.out.ext hSW); go_simp <;> with_reducible rfl))
      try simp only [lays]
      (refine wpAnyH_take (i := 1) (oi := ⟨some 21, .load 32 (.tmp 2), 32, "law.go:68", #[], none⟩) (v := ?_) rfl (by kernel_rfl) (by kernel_rfl) (by kernel_rfl) (fun _ _ _ h => h) (Or.inl ⟨by rfl, ?hy1_1_l3⟩) hHeld ?_; case hy1_1_l3 => (intro W hSW; obtain ⟨c0, c1⟩ := vw_facts (HPA.out.ext hSW); obtain ⟨e0, e1⟩ := vw_facts (HPB.out.ext hSW); obtain ⟨g0, g1⟩ := vw_facts (HP5.out.ext hSW); go_simp <;> with_reducible rfl))
      try simp only [lays]
      (refine wpAnyH_take (i := 2) (oi := ⟨some 22, .load 32 (.tmp 3), 32, "law.go:68", #[], none⟩) (v := ?_) rfl (by kernel_rfl) (by kernel_rfl) (by kernel_rfl) (fun _ _ _ h => h) (Or.inl ⟨by rfl, ?hy1_2_l5⟩) hHeld ?_; case hy1_2_l5 => (intro W hSW; obtain ⟨c0, c1⟩ := vw_facts (HPA.out.ext hSW); obtain ⟨e0, e1⟩ := vw_facts (HPB.out.ext hSW); obtain ⟨g0, g1⟩ := vw_facts (HP5.out.ext hSW); go_simp <;> with_reducible rfl))
      try simp only [lays]
      refine wpAnyH_ready (rs := [3]) (by kernel_rfl) (by simp) ?_
      refine (AllReadyH.cons (o := ⟨some 23, .call { callee := .value (.func 13), args := #[.tmp 21, .tmp 22], argTypes := #[32, 32] }, 32, "law.go:68", #[⟨1, .data⟩, ⟨2, .data⟩], none⟩) rfl (fun K hK => ?_) AllReadyH.nil)
      (go_simp; go_at_call 13; refine (refMissing_any A1 n1 k1 L1 B1 m1 d1 X1 A2 n2 c2 L2 B2 m2 d2 X2 _ (HS.out.ext HE.out) (HX.out.ext HE.out) (HS2.out.ext HE.out) (HX2.out.ext HE.out) (by omega) (by omega) (by omega) (by omega) HZS2.out HZT2.out).mono ?_; rintro e w6 ⟨A6, n6, c6, L6, B6, m6, d6, X6, rfl, hv6, hL6, hX6, hn6, hm6, he6⟩; have HE := Lib.hid (HE.out.trans he6); have HV6 := Lib.hid hv6; have HQ := Lib.hid (eqVw_of (HL5.out.trans hL6.symm) (HX5.out.trans hX6.symm)); clear hv6 hL6 hX6 hn6 hm6 he6)
      refine hK.out _ _ (HE.out) (fun hHeld => ?_)
      clear hK K
      try simp only [lays]
      refine wpAnyH_ready (rs := [4]) (by kernel_rfl) (by simp) ?_
      refine (AllReadyH.cons (o := ⟨some 24, .call { callee := .value (.func 12), args := #[.tmp 20, .tmp 23], argTypes := #[32, 32] }, 4, "law.go:68", #[⟨0, .data⟩, ⟨3, .data⟩, ⟨3, .chain⟩], none⟩) rfl (fun K hK => ?_) AllReadyH.nil)
      (go_simp; go_at_call 12; refine (sameView_any A5 n5 c5 L5 B5 m5 d5 X5 A6 n6 c6 L6 B6 m6 d6 X6 _ (HV5.out.sl1.ext HE.out) (HV5.out.sl2.ext HE.out) HV6.out.sl1 HV6.out.sl2).mono ?_; rw [HQ.out]; rintro e w7 ⟨rfl, he7⟩; have HE := Lib.hid (HE.out.trans he7); clear he7)
      refine hK.out _ _ (HE.out) (fun hHeld => ?_)
      clear hK K
      try simp only [lays]
      (refine wpAnyH_take (i := 5) (oi := ⟨some 25, .unOp .not 4 (.tmp 24), 4, "law.go:68", #[⟨4, .data⟩], none⟩) (v := ?_) rfl (by kernel_rfl) (by kernel_rfl) (by kernel_rfl) (fun _ _ _ h => h) (Or.inl ⟨by rfl, ?hy1_5_l19⟩) hHeld ?_; case hy1_5_l19 => (intro W hSW; go_simp <;> with_reducible rfl))
      try simp only [lays]
      refine wpAnyH_done (by kernel_rfl) ?_ _
      have HS := Lib.hid (HS.out.ext HE.out)
      have HX := Lib.hid (HX.out.ext HE.out)
      have HS2 := Lib.hid (HS2.out.ext HE.out)
      have HX2 := Lib.hid (HX2.out.ext HE.out)
      have HPA := Lib.hid (HPA.out.ext HE.out)
      have HPB := Lib.hid (HPB.out.ext HE.out)
      have HV5 := Lib.hid (HV5.out.ext HE.out)
      have HP5 := Lib.hid (HP5.out.ext HE.out)
      have HEW := Lib.hid (HEW.out.trans HE.out)
      clear hHeld HE HV6 HQ
      obtain ⟨c0, c1⟩ := vw_facts HPA.out
      obtain ⟨e0, e1⟩ := vw_facts HP5.out
      go_wp2_with fail
      refine (refUnion_any A1 n1 k1 L1 B1 m1 d1 X1 A5 n5 c5 L5 B5 m5 d5 X5 _ HS.out HX.out HV5.out.sl1 HV5.out.sl2 (by omega) (by omega) (by omega) (by omega) (both HZS1.out (mis_sizeS HL5.out HV5.out.sl1 HS2.out HZS2.out)) (both HZT1.out (mis_sizeT HX5.out HV5.out.sl2 HX2.out HZT2.out))).mono ?_
      rintro e w8 ⟨A7, n7, c7, L7, B7, m7, d7, X7, rfl, hv7, hL7, hX7, hn7, hm7, he8⟩
      have HLAW := Lib.hid (law_votes HL5.out hL7)
      have HX7 := Lib.hid (hX7.trans (law_texts HX5.out))
      obtain ⟨g7, hg7⟩ : ∃ q, w8.heap.size = q := ⟨_, rfl⟩
      obtain ⟨W8, hW8⟩ : ∃ W, w8.alloc (.cells (vwA A7 n7 c7 B7 m7 d7) 32) = W := ⟨_, rfl⟩
      have HX9 := Lib.hid (show Ext w8 W8 from by rw [← hW8]; exact (Ext.refl w8).alloc' _)
      have HP7 := Lib.hid (show Blk W8 g7 32 (vwA A7 n7 c7 B7 m7 d7) from by rw [← hW8, ← hg7]; exact Blk.new _ _ _)
      have he8 := he8.trans HX9.out
      have HEW := Lib.hid (HEW.out.trans he8)
      have HPA := Lib.hid (HPA.out.ext he8)
      have HPB := Lib.hid (HPB.out.ext he8)
      have HS8 := Lib.hid (HS.out.ext he8)
      have HX8 := Lib.hid (HX.out.ext he8)
      have HS28 := Lib.hid (HS2.out.ext he8)
      have HX28 := Lib.hid (HX2.out.ext he8)
      have HV7 := Lib.hid (hv7.ext HX9.out)
      have HZS12 := Lib.hid (both HZS1.out HZS2.out)
      have HZT12 := Lib.hid (both HZT1.out HZT2.out)
      have HSV7 := Lib.hid HV7.out.sl1
      have HN7 := Lib.hid HSV7.out.len
      have HN2 := Lib.hid HS28.out.len
      have hcx1 := HSV7.out.cap
      have hcx2 := HS28.out.cap
      clear c0 c1 e0 e1 he8 hv7 hL7 hX7 HX9 HS HX HS2 HX2 HL5 HX5 HV5 HP5 HZS1 HZT1 HZS2 HZT2
      go_upto_region 7 with (fail)
      clear hW8 hg7
      obtain ⟨e0, e1⟩ := vw_facts HPB.out
      go_wp2_with fail
      clear e0 e1
      go_loopw [7] (fun vi wr => ∃ i : Nat, vi = .int .i64 (i : Int) ∧ i ≤ n2 ∧ Hid (Ext W8 wr)) (fun i _ => n2 - (intOf i).toNat)
      case atStart => exact ⟨0, rfl, Nat.zero_le _, Lib.hid (Ext.refl _)⟩
      case round =>
        obtain ⟨i, rfl, hi, HZW⟩ := hrel
        obtain ⟨e0, e1⟩ := vw_facts (HPB.out.ext HZW.out)
        by_cases hlt : i < n2
        · obtain ⟨b2, o2, rfl, hr2, hb2'⟩ := HS28.out.at (by omega)
          have i1 : (i : Int) < (n2 : Int) := by omega
          obtain ⟨U, hU⟩ : ∃ U, nthG L2 i = U := ⟨_, rfl⟩
          have HRU := Lib.hid (fun (W : World) (he : Ext W8 W) => (show W.rangeAt b2 (o2 + i * 23) (vtL (nthG L2 i).v) from rangeAt_take (k := 22) (el_at (rangeAt_keep hr2 (he.block b2 hb2')) (k := i) (by rw [HN2.out]; exact hlt))))
          have HWU := Lib.hid ((HS28.out.nth (k := i) hlt).v)
          have HFD := Lib.hid (show decide ((nthG L2 i).v ∈ L7.map SgR.v) = true from by
            obtain ⟨Q, hQ, he⟩ := HLAW.out _ (nthG_mem (L := L2) (k := i) (by rw [HN2.out]; exact hlt))
            exact decide_eq_true (List.mem_map.2 ⟨Q, hQ, he⟩))
          rw [hU] at HRU HWU HFD
          obtain ⟨vq, hvq⟩ : ∃ v, Value.agg (vtA U.v) = v := ⟨_, rfl⟩
          have HVQ := Lib.hid hvq
          clear hU hr2 hvq
          go_wp2_with fail
          clear e0 e1
          obtain ⟨W0, rfl⟩ : ∃ W0, W0 = wr := ⟨_, rfl⟩
          go_loopw [8, 9] (fun vb vk wr => ∃ (k : Nat) (kn : Bool), vk = .int .i64 (k : Int) ∧ vb = .bool kn ∧ k ≤ n7 ∧ Hid ((L7.take k).any (fun S => decide (S.v = U.v)) = kn) ∧ Hid (Ext W0 wr)) (fun _ k _ => n7 - (intOf k).toNat)
          case atStart => exact ⟨0, false, rfl, rfl, Nat.zero_le _, Lib.hid rfl, Lib.hid (Ext.refl _)⟩
          case round =>
            obtain ⟨k, kn, rfl, rfl, hkn, HKN, HZ⟩ := hrel
            have HZ0 := Lib.hid (HZW.out.trans HZ.out)
            obtain ⟨c0, c1⟩ := vw_facts (HP7.out.ext HZ0.out)
            by_cases hk2 : k < n7
            · have i2 : (k : Int) < (n7 : Int) := by omega
              obtain ⟨b1, o1, rfl, hr1, hb1'⟩ := HSV7.out.at (by omega)
              obtain ⟨P, hP⟩ : ∃ P, nthG L7 k = P := ⟨_, rfl⟩
              have HRP := Lib.hid (fun (W : World) (he : Ext W8 W) => (show W.rangeAt b1 (o1 + k * 23) (vtL (nthG L7 k).v) from rangeAt_take (k := 22) (el_at (rangeAt_keep hr1 (he.block b1 hb1')) (k := k) (by rw [HN7.out]; exact hk2))))
              have HWP := Lib.hid ((HSV7.out.nth (k := k) hk2).v)
              rw [hP] at HRP HWP
              have HPE := Lib.hid hP
              obtain ⟨vp, hvp⟩ : ∃ v, Value.agg (vtA P.v) = v := ⟨_, rfl⟩
              have HVP := Lib.hid hvp
              clear hP hr1 hvp
              cases kn with
              | true =>
                go_wp2_with fail
                refine wp_region_plan (S := fun W => Ext wr W) (by kernel_rfl) (by kernel_rfl) ((Ext.refl wr).drew') ?_
                (refine plan_take (i := 0) (oi := ⟨some 43, .move (.tmp 8), 4, "law.go:75", #[], none⟩) (v := ?_) rfl (by kernel_rfl) (by kernel_rfl) (fx_read (Or.inl ⟨by rfl, ?hy3_0⟩)) ?_; case hy3_0 => (intro W hSW; go_simp <;> with_reducible rfl))
                try simp only [lays]
                (refine plan_take (i := 1) (oi := ⟨some 44, .move (.tmp 43), 4, "law.go:75", #[⟨0, .data⟩], none⟩) (v := ?_) rfl (by kernel_rfl) (by kernel_rfl) (fx_read (Or.inl ⟨by rfl, ?hy3_1⟩)) ?_; case hy3_1 => (intro W hSW; go_simp <;> with_reducible rfl))
                try simp only [lays]
                refine plan_oi (i := 2) (oi := ⟨some 45, .fieldAddr 32 (.tmp 6) 0, 0, "law.go:75", #[⟨1, .guard⟩], some (1, false)⟩) rfl (by kernel_rfl) (by kernel_rfl) ?_
                first | (refine ⟨?_, (fx_read (Or.inl ⟨by rfl, ?hy3_2⟩)), ?_⟩; case hy3_2 => (intro W hSW; go_simp <;> with_reducible rfl)) | (refine ⟨undef, fx_skip (by rfl), ?_⟩)
                try simp only [lays]
                refine plan_oi (i := 3) (oi := ⟨some 46, .load 29 (.tmp 45), 29, "law.go:75", #[⟨2, .data⟩, ⟨1, .guard⟩], some (1, false)⟩) rfl (by kernel_rfl) (by kernel_rfl) ?_
                first | (refine ⟨?_, (fx_read (Or.inl ⟨by rfl, ?hy3_3⟩)), ?_⟩; case hy3_3 => (intro W hSW; go_simp <;> with_reducible rfl)) | (refine ⟨undef, fx_skip (by rfl), ?_⟩)
                try simp only [lays]
                refine plan_oi (i := 4) (oi := ⟨some 47, .move (.tmp 9), 3, "law.go:75", #[⟨1, .guard⟩], some (1, false)⟩) rfl (by kernel_rfl) (by kernel_rfl) ?_
                first | (refine ⟨?_, (fx_read (Or.inl ⟨by rfl, ?hy3_4⟩)), ?_⟩; case hy3_4 => (intro W hSW; go_simp <;> with_reducible rfl)) | (refine ⟨undef, fx_skip (by rfl), ?_⟩)
                try simp only [lays]
                refine plan_oi (i := 5) (oi := ⟨some 48, .indexAddr 29 (.tmp 46) (.tmp 47), 0, "law.go:75", #[⟨3, .data⟩, ⟨4, .data⟩, ⟨1, .guard⟩], some (1, false)⟩) rfl (by kernel_rfl) (by kernel_rfl) ?_
                first | (refine ⟨?_, (fx_read (Or.inl ⟨by rfl, ?hy3_5⟩)), ?_⟩; case hy3_5 => (intro W hSW; go_simp <;> with_reducible rfl)) | (refine ⟨undef, fx_skip (by rfl), ?_⟩)
                try simp only [lays]
                refine plan_oi (i := 6) (oi := ⟨some 49, .fieldAddr 45 (.tmp 48) 0, 0, "law.go:75", #[⟨5, .data⟩, ⟨1, .guard⟩], some (1, false)⟩) rfl (by kernel_rfl) (by kernel_rfl) ?_
                first | (refine ⟨?_, (fx_read (Or.inl ⟨by rfl, ?hy3_6⟩)), ?_⟩; case hy3_6 => (intro W hSW; go_simp <;> with_reducible rfl)) | (refine ⟨undef, fx_skip (by rfl), ?_⟩)
                try simp only [lays]
                refine plan_oi (i := 7) (oi := ⟨some 50, .load 28 (.tmp 49), 28, "law.go:75", #[⟨6, .data⟩, ⟨1, .guard⟩], some (1, false)⟩) rfl (by kernel_rfl) (by kernel_rfl) ?_
                first | (refine ⟨?_, (fx_read (Or.inl ⟨by rfl, ?hy3_7⟩)), ?_⟩; case hy3_7 => (intro W hSW; go_simp <;> with_reducible rfl)) | (refine ⟨undef, fx_skip (by rfl), ?_⟩)
                try simp only [lays]
                refine plan_oi (i := 8) (oi := ⟨some 51, .fieldAddr 32 (.tmp 3) 0, 0, "law.go:75", #[⟨1, .guard⟩], some (1, false)⟩) rfl (by kernel_rfl) (by kernel_rfl) ?_
                first | (refine ⟨?_, (fx_read (Or.inl ⟨by rfl, ?hy3_8⟩)), ?_⟩; case hy3_8 => (intro W hSW; go_simp <;> with_reducible rfl)) | (refine ⟨undef, fx_skip (by rfl), ?_⟩)
                try simp only [lays]
                refine plan_oi (i := 9) (oi := ⟨some 52, .load 29 (.tmp 51), 29, "law.go:75", #[⟨8, .data⟩, ⟨1, .guard⟩], some (1, false)⟩) rfl (by kernel_rfl) (by kernel_rfl) ?_
                first | (refine ⟨?_, (fx_read (Or.inl ⟨by rfl, ?hy3_9⟩)), ?_⟩; case hy3_9 => (intro W hSW; go_simp <;> with_reducible rfl)) | (refine ⟨undef, fx_skip (by rfl), ?_⟩)
                try simp only [lays]
                refine plan_oi (i := 10) (oi := ⟨some 53, .move (.tmp 7), 3, "law.go:75", #[⟨1, .guard⟩], some (1, false)⟩) rfl (by kernel_rfl) (by kernel_rfl) ?_
                first | (refine ⟨?_, (fx_read (Or.inl ⟨by rfl, ?hy3_10⟩)), ?_⟩; case hy3_10 => (intro W hSW; go_simp <;> with_reducible rfl)) | (refine ⟨undef, fx_skip (by rfl), ?_⟩)
                try simp only [lays]
                refine plan_oi (i := 11) (oi := ⟨some 54, .indexAddr 29 (.tmp 52) (.tmp 53), 0, "law.go:75", #[⟨9, .data⟩, ⟨10, .data⟩, ⟨1, .guard⟩], some (1, false)⟩) rfl (by kernel_rfl) (by kernel_rfl) ?_
                first | (refine ⟨?_, (fx_read (Or.inl ⟨by rfl, ?hy3_11⟩)), ?_⟩; case hy3_11 => (intro W hSW; go_simp <;> with_reducible rfl)) | (refine ⟨undef, fx_skip (by rfl), ?_⟩)
                try simp only [lays]
                refine plan_oi (i := 12) (oi := ⟨some 55, .fieldAddr 45 (.tmp 54) 0, 0, "law.go:75", #[⟨11, .data⟩, ⟨1, .guard⟩], some (1, false)⟩) rfl (by kernel_rfl) (by kernel_rfl) ?_
                first | (refine ⟨?_, (fx_read (Or.inl ⟨by rfl, ?hy3_12⟩)), ?_⟩; case hy3_12 => (intro W hSW; go_simp <;> with_reducible rfl)) | (refine ⟨undef, fx_skip (by rfl), ?_⟩)
                try simp only [lays]
                refine plan_oi (i := 13) (oi := ⟨some 56, .load 28 (.tmp 55), 28, "law.go:75", #[⟨12, .data⟩, ⟨1, .guard⟩], some (1, false)⟩) rfl (by kernel_rfl) (by kernel_rfl) ?_
                first | (refine ⟨?_, (fx_read (Or.inl ⟨by rfl, ?hy3_13⟩)), ?_⟩; case hy3_13 => (intro W hSW; go_simp <;> with_reducible rfl)) | (refine ⟨undef, fx_skip (by rfl), ?_⟩)
                try simp only [lays]
                refine plan_oi (i := 14) (oi := ⟨some 57, .binOp .eql 28 (.tmp 50) (.tmp 56) 28, 4, "law.go:75", #[⟨7, .data⟩, ⟨13, .data⟩, ⟨1, .guard⟩], some (1, false)⟩) rfl (by kernel_rfl) (by kernel_rfl) ?_
                first | (refine ⟨?_, (fx_read (Or.inl ⟨by rfl, ?hy3_14⟩)), ?_⟩; case hy3_14 => (intro W hSW; go_simp <;> with_reducible rfl)) | (refine ⟨undef, fx_skip (by rfl), ?_⟩)
                try simp only [lays]
                (refine plan_take (i := 15) (oi := ⟨some 58, .pick (.tmp 44) (.const (.bool true)) (.tmp 57), 4, "law.go:75", #[⟨1, .data⟩, ⟨14, .data⟩], none⟩) (v := ?_) rfl (by kernel_rfl) (by kernel_rfl) (fx_read (Or.inl ⟨by rfl, ?hy3_15⟩)) ?_; case hy3_15 => (intro W hSW; go_simp <;> with_reducible rfl))
                try simp only [lays]
                (refine plan_take (i := 16) (oi := ⟨some 8, .assign (.tmp 58), 4, "law.go:75", #[⟨15, .data⟩, ⟨1, .chain⟩, ⟨0, .phase⟩, ⟨1, .phase⟩, ⟨2, .phase⟩, ⟨3, .phase⟩, ⟨4, .phase⟩, ⟨5, .phase⟩, ⟨6, .phase⟩, ⟨7, .phase⟩, ⟨8, .phase⟩, ⟨9, .phase⟩, ⟨10, .phase⟩, ⟨11, .phase⟩, ⟨12, .phase⟩, ⟨13, .phase⟩, ⟨14, .phase⟩, ⟨15, .phase⟩], none⟩) (v := ?_) rfl (by kernel_rfl) (by kernel_rfl) (fx_read (Or.inl ⟨by rfl, ?hy3_16⟩)) ?_; case hy3_16 => (intro W hSW; go_simp <;> with_reducible rfl))
                try simp only [lays]
                refine Plan.done (by kernel_rfl) (fun W hSW => ?_)
                have HZ2 := Lib.hid (HZ.out.trans hSW)
                have HKN2 := Lib.hid (show (L7.take (k + 1)).any (fun S => decide (S.v = U.v)) = true from by
                  rw [take_nthG (L := L7) (k := k) (by rw [HN7.out]; exact hk2), List.any_append, HKN.out, HPE.out]
                  simp )
                clear hSW HKN
                go_wp2_with fail
                go_roundw
                case rel => exact ⟨k + 1, true, by go_num, rfl, hk2, HKN2, HZ2⟩
                case measure => simp [intOf]; omega
              | false =>
                by_cases hpe : P.v = U.v
                · skip
                  have hde : decide (P.v = U.v) = true := decide_eq_true hpe
                  have HDE := Lib.hid hde
                  clear hpe
                  go_wp2_with fail
                  refine wp_region_plan (S := fun W => Ext wr W) (by kernel_rfl) (by kernel_rfl) ((Ext.refl wr).drew') ?_
                  (refine plan_take (i := 0) (oi := ⟨some 43, .move (.tmp 8), 4, "law.go:75", #[], none⟩) (v := ?_) rfl (by kernel_rfl) (by kernel_rfl) (fx_read (Or.inl ⟨by rfl, ?hy4_0⟩)) ?_; case hy4_0 => (intro W hSW; go_simp <;> with_reducible rfl))
                  try simp only [lays]
                  (refine plan_take (i := 1) (oi := ⟨some 44, .move (.tmp 43), 4, "law.go:75", #[⟨0, .data⟩], none⟩) (v := ?_) rfl (by kernel_rfl) (by kernel_rfl) (fx_read (Or.inl ⟨by rfl, ?hy4_1⟩)) ?_; case hy4_1 => (intro W hSW; go_simp <;> with_reducible rfl))
                  try simp only [lays]
                  refine plan_oi (i := 2) (oi := ⟨some 45, .fieldAddr 32 (.tmp 6) 0, 0, "law.go:75", #[⟨1, .guard⟩], some (1, false)⟩) rfl (by kernel_rfl) (by kernel_rfl) ?_
                  first | (refine ⟨?_, (fx_read (Or.inl ⟨by rfl, ?hy4_2⟩)), ?_⟩; case hy4_2 => (intro W hSW; go_simp <;> with_reducible rfl)) | (refine ⟨undef, fx_skip (by rfl), ?_⟩)
                  try simp only [lays]
                  refine plan_oi (i := 3) (oi := ⟨some 46, .load 29 (.tmp 45), 29, "law.go:75", #[⟨2, .data⟩, ⟨1, .guard⟩], some (1, false)⟩) rfl (by kernel_rfl) (by kernel_rfl) ?_
                  first | (refine ⟨?_, (fx_read (Or.inl ⟨by rfl, ?hy4_3⟩)), ?_⟩; case hy4_3 => (intro W hSW; obtain ⟨c0, c1⟩ := vw_facts (HP7.out.ext (HZ0.out.trans hSW)); obtain ⟨e0, e1⟩ := vw_facts (HPB.out.ext (HZ0.out.trans hSW)); go_simp <;> with_reducible rfl)) | (refine ⟨undef, fx_skip (by rfl), ?_⟩)
                  try simp only [lays]
                  refine plan_oi (i := 4) (oi := ⟨some 47, .move (.tmp 9), 3, "law.go:75", #[⟨1, .guard⟩], some (1, false)⟩) rfl (by kernel_rfl) (by kernel_rfl) ?_
                  first | (refine ⟨?_, (fx_read (Or.inl ⟨by rfl, ?hy4_4⟩)), ?_⟩; case hy4_4 => (intro W hSW; go_simp <;> with_reducible rfl)) | (refine ⟨undef, fx_skip (by rfl), ?_⟩)
                  try simp only [lays]
                  refine plan_oi (i := 5) (oi := ⟨some 48, .indexAddr 29 (.tmp 46) (.tmp 47), 0, "law.go:75", #[⟨3, .data⟩, ⟨4, .data⟩, ⟨1, .guard⟩], some (1, false)⟩) rfl (by kernel_rfl) (by kernel_rfl) ?_
                  first | (refine ⟨?_, (fx_read (Or.inl ⟨by rfl, ?hy4_5⟩)), ?_⟩; case hy4_5 => (intro W hSW; go_simp <;> with_reducible rfl)) | (refine ⟨undef, fx_skip (by rfl), ?_⟩)
                  try simp only [lays]
                  refine plan_oi (i := 6) (oi := ⟨some 49, .fieldAddr 45 (.tmp 48) 0, 0, "law.go:75", #[⟨5, .data⟩, ⟨1, .guard⟩], some (1, false)⟩) rfl (by kernel_rfl) (by kernel_rfl) ?_
                  first | (refine ⟨?_, (fx_read (Or.inl ⟨by rfl, ?hy4_6⟩)), ?_⟩; case hy4_6 => (intro W hSW; go_simp <;> with_reducible rfl)) | (refine ⟨undef, fx_skip (by rfl), ?_⟩)
                  try simp only [lays]
                  first | (refine plan_take (i := 7) (oi := ⟨some 50, .load 28 (.tmp 49), 28, "law.go:75", #[⟨6, .data⟩, ⟨1, .guard⟩], some (1, false)⟩) (v := vp) rfl (by kernel_rfl) (by kernel_rfl) (fx_read ?hy4_7) ?_; case hy4_7 => (refine yields_loadVtV ?hw (.tmp 49) rfl b1 (o1 + k * 23) ?hx P.v vp HVP.out (fun W hSW => HRP.out W (HZ0.out.trans hSW)); (case hw => rfl); (case hx => rfl))) | (refine plan_take (i := 7) (oi := ⟨some 50, .load 28 (.tmp 49), 28, "law.go:75", #[⟨6, .data⟩, ⟨1, .guard⟩], some (1, false)⟩) (v := undef) rfl (by kernel_rfl) (by kernel_rfl) (fx_skip (by rfl)) ?_) | fail "OP7"
                  try simp only [lays]
                  refine plan_oi (i := 8) (oi := ⟨some 51, .fieldAddr 32 (.tmp 3) 0, 0, "law.go:75", #[⟨1, .guard⟩], some (1, false)⟩) rfl (by kernel_rfl) (by kernel_rfl) ?_
                  first | (refine ⟨?_, (fx_read (Or.inl ⟨by rfl, ?hy4_8⟩)), ?_⟩; case hy4_8 => (intro W hSW; go_simp <;> with_reducible rfl)) | (refine ⟨undef, fx_skip (by rfl), ?_⟩)
                  try simp only [lays]
                  refine plan_oi (i := 9) (oi := ⟨some 52, .load 29 (.tmp 51), 29, "law.go:75", #[⟨8, .data⟩, ⟨1, .guard⟩], some (1, false)⟩) rfl (by kernel_rfl) (by kernel_rfl) ?_
                  first | (refine ⟨?_, (fx_read (Or.inl ⟨by rfl, ?hy4_9⟩)), ?_⟩; case hy4_9 => (intro W hSW; obtain ⟨c0, c1⟩ := vw_facts (HP7.out.ext (HZ0.out.trans hSW)); obtain ⟨e0, e1⟩ := vw_facts (HPB.out.ext (HZ0.out.trans hSW)); go_simp <;> with_reducible rfl)) | (refine ⟨undef, fx_skip (by rfl), ?_⟩)
                  try simp only [lays]
                  refine plan_oi (i := 10) (oi := ⟨some 53, .move (.tmp 7), 3, "law.go:75", #[⟨1, .guard⟩], some (1, false)⟩) rfl (by kernel_rfl) (by kernel_rfl) ?_
                  first | (refine ⟨?_, (fx_read (Or.inl ⟨by rfl, ?hy4_10⟩)), ?_⟩; case hy4_10 => (intro W hSW; go_simp <;> with_reducible rfl)) | (refine ⟨undef, fx_skip (by rfl), ?_⟩)
                  try simp only [lays]
                  refine plan_oi (i := 11) (oi := ⟨some 54, .indexAddr 29 (.tmp 52) (.tmp 53), 0, "law.go:75", #[⟨9, .data⟩, ⟨10, .data⟩, ⟨1, .guard⟩], some (1, false)⟩) rfl (by kernel_rfl) (by kernel_rfl) ?_
                  first | (refine ⟨?_, (fx_read (Or.inl ⟨by rfl, ?hy4_11⟩)), ?_⟩; case hy4_11 => (intro W hSW; go_simp <;> with_reducible rfl)) | (refine ⟨undef, fx_skip (by rfl), ?_⟩)
                  try simp only [lays]
                  refine plan_oi (i := 12) (oi := ⟨some 55, .fieldAddr 45 (.tmp 54) 0, 0, "law.go:75", #[⟨11, .data⟩, ⟨1, .guard⟩], some (1, false)⟩) rfl (by kernel_rfl) (by kernel_rfl) ?_
                  first | (refine ⟨?_, (fx_read (Or.inl ⟨by rfl, ?hy4_12⟩)), ?_⟩; case hy4_12 => (intro W hSW; go_simp <;> with_reducible rfl)) | (refine ⟨undef, fx_skip (by rfl), ?_⟩)
                  try simp only [lays]
                  first | (refine plan_take (i := 13) (oi := ⟨some 56, .load 28 (.tmp 55), 28, "law.go:75", #[⟨12, .data⟩, ⟨1, .guard⟩], some (1, false)⟩) (v := vq) rfl (by kernel_rfl) (by kernel_rfl) (fx_read ?hy4_13) ?_; case hy4_13 => (refine yields_loadVtV ?hw (.tmp 55) rfl b2 (o2 + i * 23) ?hx U.v vq HVQ.out (fun W hSW => HRU.out W (HZ0.out.trans hSW)); (case hw => rfl); (case hx => rfl))) | (refine plan_take (i := 13) (oi := ⟨some 56, .load 28 (.tmp 55), 28, "law.go:75", #[⟨12, .data⟩, ⟨1, .guard⟩], some (1, false)⟩) (v := undef) rfl (by kernel_rfl) (by kernel_rfl) (fx_skip (by rfl)) ?_) | fail "OP13"
                  try simp only [lays]
                  first | (refine plan_take (i := 14) (oi := ⟨some 57, .binOp .eql 28 (.tmp 50) (.tmp 56) 28, 4, "law.go:75", #[⟨7, .data⟩, ⟨13, .data⟩, ⟨1, .guard⟩], some (1, false)⟩) (v := .bool (decide (P.v = U.v))) rfl (by kernel_rfl) (by kernel_rfl) (fx_read ?hy4_14) ?_; case hy4_14 => (refine yields_eqVt ?hw (.tmp 50) (.tmp 56) rfl P.v U.v vp vq HVP.out HVQ.out HWP.out HWU.out ?hx ?hy; (case hw => rfl); (case hx => rfl); (case hy => rfl))) | (refine plan_take (i := 14) (oi := ⟨some 57, .binOp .eql 28 (.tmp 50) (.tmp 56) 28, 4, "law.go:75", #[⟨7, .data⟩, ⟨13, .data⟩, ⟨1, .guard⟩], some (1, false)⟩) (v := undef) rfl (by kernel_rfl) (by kernel_rfl) (fx_skip (by rfl)) ?_) | fail "OP14"
                  try simp only [lays]
                  (refine plan_take (i := 15) (oi := ⟨some 58, .pick (.tmp 44) (.const (.bool true)) (.tmp 57), 4, "law.go:75", #[⟨1, .data⟩, ⟨14, .data⟩], none⟩) (v := ?_) rfl (by kernel_rfl) (by kernel_rfl) (fx_read (Or.inl ⟨by rfl, ?hy4_15⟩)) ?_; case hy4_15 => (intro W hSW; go_simp <;> with_reducible rfl))
                  try simp only [lays]
                  (refine plan_take (i := 16) (oi := ⟨some 8, .assign (.tmp 58), 4, "law.go:75", #[⟨15, .data⟩, ⟨1, .chain⟩, ⟨0, .phase⟩, ⟨1, .phase⟩, ⟨2, .phase⟩, ⟨3, .phase⟩, ⟨4, .phase⟩, ⟨5, .phase⟩, ⟨6, .phase⟩, ⟨7, .phase⟩, ⟨8, .phase⟩, ⟨9, .phase⟩, ⟨10, .phase⟩, ⟨11, .phase⟩, ⟨12, .phase⟩, ⟨13, .phase⟩, ⟨14, .phase⟩, ⟨15, .phase⟩], none⟩) (v := ?_) rfl (by kernel_rfl) (by kernel_rfl) (fx_read (Or.inl ⟨by rfl, ?hy4_16⟩)) ?_; case hy4_16 => (intro W hSW; go_simp <;> with_reducible rfl))
                  try simp only [lays]
                  refine Plan.done (by kernel_rfl) (fun W hSW => ?_)
                  rw [hde]
                  clear hde
                  have HZ2 := Lib.hid (HZ.out.trans hSW)
                  have HKN2 := Lib.hid (show (L7.take (k + 1)).any (fun S => decide (S.v = U.v)) = true from by
                    rw [take_nthG (L := L7) (k := k) (by rw [HN7.out]; exact hk2), List.any_append, HKN.out, HPE.out]
                    simp [HDE.out])
                  clear hSW HKN HDE
                  go_wp2_with fail
                  go_roundw
                  case rel => exact ⟨k + 1, true, by go_num, rfl, hk2, HKN2, HZ2⟩
                  case measure => simp [intOf]; omega
                · skip
                  have hde : decide (P.v = U.v) = false := decide_eq_false hpe
                  have HDE := Lib.hid hde
                  clear hpe
                  go_wp2_with fail
                  refine wp_region_plan (S := fun W => Ext wr W) (by kernel_rfl) (by kernel_rfl) ((Ext.refl wr).drew') ?_
                  (refine plan_take (i := 0) (oi := ⟨some 43, .move (.tmp 8), 4, "law.go:75", #[], none⟩) (v := ?_) rfl (by kernel_rfl) (by kernel_rfl) (fx_read (Or.inl ⟨by rfl, ?hy5_0⟩)) ?_; case hy5_0 => (intro W hSW; go_simp <;> with_reducible rfl))
                  try simp only [lays]
                  (refine plan_take (i := 1) (oi := ⟨some 44, .move (.tmp 43), 4, "law.go:75", #[⟨0, .data⟩], none⟩) (v := ?_) rfl (by kernel_rfl) (by kernel_rfl) (fx_read (Or.inl ⟨by rfl, ?hy5_1⟩)) ?_; case hy5_1 => (intro W hSW; go_simp <;> with_reducible rfl))
                  try simp only [lays]
                  refine plan_oi (i := 2) (oi := ⟨some 45, .fieldAddr 32 (.tmp 6) 0, 0, "law.go:75", #[⟨1, .guard⟩], some (1, false)⟩) rfl (by kernel_rfl) (by kernel_rfl) ?_
                  first | (refine ⟨?_, (fx_read (Or.inl ⟨by rfl, ?hy5_2⟩)), ?_⟩; case hy5_2 => (intro W hSW; go_simp <;> with_reducible rfl)) | (refine ⟨undef, fx_skip (by rfl), ?_⟩)
                  try simp only [lays]
                  refine plan_oi (i := 3) (oi := ⟨some 46, .load 29 (.tmp 45), 29, "law.go:75", #[⟨2, .data⟩, ⟨1, .guard⟩], some (1, false)⟩) rfl (by kernel_rfl) (by kernel_rfl) ?_
                  first | (refine ⟨?_, (fx_read (Or.inl ⟨by rfl, ?hy5_3⟩)), ?_⟩; case hy5_3 => (intro W hSW; obtain ⟨c0, c1⟩ := vw_facts (HP7.out.ext (HZ0.out.trans hSW)); obtain ⟨e0, e1⟩ := vw_facts (HPB.out.ext (HZ0.out.trans hSW)); go_simp <;> with_reducible rfl)) | (refine ⟨undef, fx_skip (by rfl), ?_⟩)
                  try simp only [lays]
                  refine plan_oi (i := 4) (oi := ⟨some 47, .move (.tmp 9), 3, "law.go:75", #[⟨1, .guard⟩], some (1, false)⟩) rfl (by kernel_rfl) (by kernel_rfl) ?_
                  first | (refine ⟨?_, (fx_read (Or.inl ⟨by rfl, ?hy5_4⟩)), ?_⟩; case hy5_4 => (intro W hSW; go_simp <;> with_reducible rfl)) | (refine ⟨undef, fx_skip (by rfl), ?_⟩)
                  try simp only [lays]
                  refine plan_oi (i := 5) (oi := ⟨some 48, .indexAddr 29 (.tmp 46) (.tmp 47), 0, "law.go:75", #[⟨3, .data⟩, ⟨4, .data⟩, ⟨1, .guard⟩], some (1, false)⟩) rfl (by kernel_rfl) (by kernel_rfl) ?_
                  first | (refine ⟨?_, (fx_read (Or.inl ⟨by rfl, ?hy5_5⟩)), ?_⟩; case hy5_5 => (intro W hSW; go_simp <;> with_reducible rfl)) | (refine ⟨undef, fx_skip (by rfl), ?_⟩)
                  try simp only [lays]
                  refine plan_oi (i := 6) (oi := ⟨some 49, .fieldAddr 45 (.tmp 48) 0, 0, "law.go:75", #[⟨5, .data⟩, ⟨1, .guard⟩], some (1, false)⟩) rfl (by kernel_rfl) (by kernel_rfl) ?_
                  first | (refine ⟨?_, (fx_read (Or.inl ⟨by rfl, ?hy5_6⟩)), ?_⟩; case hy5_6 => (intro W hSW; go_simp <;> with_reducible rfl)) | (refine ⟨undef, fx_skip (by rfl), ?_⟩)
                  try simp only [lays]
                  first | (refine plan_take (i := 7) (oi := ⟨some 50, .load 28 (.tmp 49), 28, "law.go:75", #[⟨6, .data⟩, ⟨1, .guard⟩], some (1, false)⟩) (v := vp) rfl (by kernel_rfl) (by kernel_rfl) (fx_read ?hy5_7) ?_; case hy5_7 => (refine yields_loadVtV ?hw (.tmp 49) rfl b1 (o1 + k * 23) ?hx P.v vp HVP.out (fun W hSW => HRP.out W (HZ0.out.trans hSW)); (case hw => rfl); (case hx => rfl))) | (refine plan_take (i := 7) (oi := ⟨some 50, .load 28 (.tmp 49), 28, "law.go:75", #[⟨6, .data⟩, ⟨1, .guard⟩], some (1, false)⟩) (v := undef) rfl (by kernel_rfl) (by kernel_rfl) (fx_skip (by rfl)) ?_) | fail "OP7"
                  try simp only [lays]
                  refine plan_oi (i := 8) (oi := ⟨some 51, .fieldAddr 32 (.tmp 3) 0, 0, "law.go:75", #[⟨1, .guard⟩], some (1, false)⟩) rfl (by kernel_rfl) (by kernel_rfl) ?_
                  first | (refine ⟨?_, (fx_read (Or.inl ⟨by rfl, ?hy5_8⟩)), ?_⟩; case hy5_8 => (intro W hSW; go_simp <;> with_reducible rfl)) | (refine ⟨undef, fx_skip (by rfl), ?_⟩)
                  try simp only [lays]
                  refine plan_oi (i := 9) (oi := ⟨some 52, .load 29 (.tmp 51), 29, "law.go:75", #[⟨8, .data⟩, ⟨1, .guard⟩], some (1, false)⟩) rfl (by kernel_rfl) (by kernel_rfl) ?_
                  first | (refine ⟨?_, (fx_read (Or.inl ⟨by rfl, ?hy5_9⟩)), ?_⟩; case hy5_9 => (intro W hSW; obtain ⟨c0, c1⟩ := vw_facts (HP7.out.ext (HZ0.out.trans hSW)); obtain ⟨e0, e1⟩ := vw_facts (HPB.out.ext (HZ0.out.trans hSW)); go_simp <;> with_reducible rfl)) | (refine ⟨undef, fx_skip (by rfl), ?_⟩)
                  try simp only [lays]
                  refine plan_oi (i := 10) (oi := ⟨some 53, .move (.tmp 7), 3, "law.go:75", #[⟨1, .guard⟩], some (1, false)⟩) rfl (by kernel_rfl) (by kernel_rfl) ?_
                  first | (refine ⟨?_, (fx_read (Or.inl ⟨by rfl, ?hy5_10⟩)), ?_⟩; case hy5_10 => (intro W hSW; go_simp <;> with_reducible rfl)) | (refine ⟨undef, fx_skip (by rfl), ?_⟩)
                  try simp only [lays]
                  refine plan_oi (i := 11) (oi := ⟨some 54, .indexAddr 29 (.tmp 52) (.tmp 53), 0, "law.go:75", #[⟨9, .data⟩, ⟨10, .data⟩, ⟨1, .guard⟩], some (1, false)⟩) rfl (by kernel_rfl) (by kernel_rfl) ?_
                  first | (refine ⟨?_, (fx_read (Or.inl ⟨by rfl, ?hy5_11⟩)), ?_⟩; case hy5_11 => (intro W hSW; go_simp <;> with_reducible rfl)) | (refine ⟨undef, fx_skip (by rfl), ?_⟩)
                  try simp only [lays]
                  refine plan_oi (i := 12) (oi := ⟨some 55, .fieldAddr 45 (.tmp 54) 0, 0, "law.go:75", #[⟨11, .data⟩, ⟨1, .guard⟩], some (1, false)⟩) rfl (by kernel_rfl) (by kernel_rfl) ?_
                  first | (refine ⟨?_, (fx_read (Or.inl ⟨by rfl, ?hy5_12⟩)), ?_⟩; case hy5_12 => (intro W hSW; go_simp <;> with_reducible rfl)) | (refine ⟨undef, fx_skip (by rfl), ?_⟩)
                  try simp only [lays]
                  first | (refine plan_take (i := 13) (oi := ⟨some 56, .load 28 (.tmp 55), 28, "law.go:75", #[⟨12, .data⟩, ⟨1, .guard⟩], some (1, false)⟩) (v := vq) rfl (by kernel_rfl) (by kernel_rfl) (fx_read ?hy5_13) ?_; case hy5_13 => (refine yields_loadVtV ?hw (.tmp 55) rfl b2 (o2 + i * 23) ?hx U.v vq HVQ.out (fun W hSW => HRU.out W (HZ0.out.trans hSW)); (case hw => rfl); (case hx => rfl))) | (refine plan_take (i := 13) (oi := ⟨some 56, .load 28 (.tmp 55), 28, "law.go:75", #[⟨12, .data⟩, ⟨1, .guard⟩], some (1, false)⟩) (v := undef) rfl (by kernel_rfl) (by kernel_rfl) (fx_skip (by rfl)) ?_) | fail "OP13"
                  try simp only [lays]
                  first | (refine plan_take (i := 14) (oi := ⟨some 57, .binOp .eql 28 (.tmp 50) (.tmp 56) 28, 4, "law.go:75", #[⟨7, .data⟩, ⟨13, .data⟩, ⟨1, .guard⟩], some (1, false)⟩) (v := .bool (decide (P.v = U.v))) rfl (by kernel_rfl) (by kernel_rfl) (fx_read ?hy5_14) ?_; case hy5_14 => (refine yields_eqVt ?hw (.tmp 50) (.tmp 56) rfl P.v U.v vp vq HVP.out HVQ.out HWP.out HWU.out ?hx ?hy; (case hw => rfl); (case hx => rfl); (case hy => rfl))) | (refine plan_take (i := 14) (oi := ⟨some 57, .binOp .eql 28 (.tmp 50) (.tmp 56) 28, 4, "law.go:75", #[⟨7, .data⟩, ⟨13, .data⟩, ⟨1, .guard⟩], some (1, false)⟩) (v := undef) rfl (by kernel_rfl) (by kernel_rfl) (fx_skip (by rfl)) ?_) | fail "OP14"
                  try simp only [lays]
                  (refine plan_take (i := 15) (oi := ⟨some 58, .pick (.tmp 44) (.const (.bool true)) (.tmp 57), 4, "law.go:75", #[⟨1, .data⟩, ⟨14, .data⟩], none⟩) (v := ?_) rfl (by kernel_rfl) (by kernel_rfl) (fx_read (Or.inl ⟨by rfl, ?hy5_15⟩)) ?_; case hy5_15 => (intro W hSW; go_simp <;> with_reducible rfl))
                  try simp only [lays]
                  (refine plan_take (i := 16) (oi := ⟨some 8, .assign (.tmp 58), 4, "law.go:75", #[⟨15, .data⟩, ⟨1, .chain⟩, ⟨0, .phase⟩, ⟨1, .phase⟩, ⟨2, .phase⟩, ⟨3, .phase⟩, ⟨4, .phase⟩, ⟨5, .phase⟩, ⟨6, .phase⟩, ⟨7, .phase⟩, ⟨8, .phase⟩, ⟨9, .phase⟩, ⟨10, .phase⟩, ⟨11, .phase⟩, ⟨12, .phase⟩, ⟨13, .phase⟩, ⟨14, .phase⟩, ⟨15, .phase⟩], none⟩) (v := ?_) rfl (by kernel_rfl) (by kernel_rfl) (fx_read (Or.inl ⟨by rfl, ?hy5_16⟩)) ?_; case hy5_16 => (intro W hSW; go_simp <;> with_reducible rfl))
                  try simp only [lays]
                  refine Plan.done (by kernel_rfl) (fun W hSW => ?_)
                  rw [hde]
                  clear hde
                  have HZ2 := Lib.hid (HZ.out.trans hSW)
                  have HKN2 := Lib.hid (show (L7.take (k + 1)).any (fun S => decide (S.v = U.v)) = false from by
                    rw [take_nthG (L := L7) (k := k) (by rw [HN7.out]; exact hk2), List.any_append, HKN.out, HPE.out]
                    simp [HDE.out])
                  clear hSW HKN HDE
                  go_wp2_with fail
                  go_roundw
                  case rel => exact ⟨k + 1, false, by go_num, rfl, hk2, HKN2, HZ2⟩
                  case measure => simp [intOf]; omega
            · obtain rfl : k = n7 := by omega
              have i2 : ¬ (k : Int) < (k : Int) := by omega
              obtain rfl : true = kn := by have := HKN.out; rwa [List.take_of_length_le (by rw [HN7.out]; exact Nat.le_refl _), any_v, HFD.out] at this
              clear HKN HFD HZW HZ
              go_wp2_with fail
              go_roundw
              case rel => exact ⟨i + 1, by go_num, hlt, HZ0⟩
              case measure => simp [intOf]; omega
        · have i1 : ¬ (i : Int) < (n2 : Int) := by omega
          go_upto_region 17 with (fail)
          clear e0 e1
          have HE := Lib.hid (HZW.out.drew')
          refine wp_region_held_drew (S := fun W => Ext W8 W) (by kernel_rfl) (HE.out) (fun hHeld => ?_)
          (refine wpAnyH_take (i := 0) (oi := ⟨some 61, .fieldAddr 32 (.tmp 6) 1, 0, "law.go:81", #[], none⟩) (v := ?_) rfl (by kernel_rfl) (by kernel_rfl) (by kernel_rfl) (fun _ _ _ h => h) (Or.inl ⟨by rfl, ?hy2_0_l1⟩) hHeld ?_; case hy2_0_l1 => (intro W hSW; go_simp <;> with_reducible rfl))
          try simp only [lays]
          (refine wpAnyH_take (i := 1) (oi := ⟨some 62, .load 30 (.tmp 61), 30, "law.go:81", #[⟨0, .data⟩], none⟩) (v := ?_) rfl (by kernel_rfl) (by kernel_rfl) (by kernel_rfl) (fun _ _ _ h => h) (Or.inl ⟨by rfl, ?hy2_1_l3⟩) hHeld ?_; case hy2_1_l3 => (intro W hSW; obtain ⟨c0, c1⟩ := vw_facts (HPA.out.ext hSW); obtain ⟨e0, e1⟩ := vw_facts (HPB.out.ext hSW); obtain ⟨g0, g1⟩ := vw_facts (HP7.out.ext hSW); go_simp <;> with_reducible rfl))
          try simp only [lays]
          (refine wpAnyH_take (i := 2) (oi := ⟨some 63, .load 32 (.tmp 2), 32, "law.go:81", #[], none⟩) (v := ?_) rfl (by kernel_rfl) (by kernel_rfl) (by kernel_rfl) (fun _ _ _ h => h) (Or.inl ⟨by rfl, ?hy2_2_l5⟩) hHeld ?_; case hy2_2_l5 => (intro W hSW; obtain ⟨c0, c1⟩ := vw_facts (HPA.out.ext hSW); obtain ⟨e0, e1⟩ := vw_facts (HPB.out.ext hSW); obtain ⟨g0, g1⟩ := vw_facts (HP7.out.ext hSW); go_simp <;> with_reducible rfl))
          try simp only [lays]
          (refine wpAnyH_take (i := 3) (oi := ⟨some 64, .load 32 (.tmp 3), 32, "law.go:81", #[], none⟩) (v := ?_) rfl (by kernel_rfl) (by kernel_rfl) (by kernel_rfl) (fun _ _ _ h => h) (Or.inl ⟨by rfl, ?hy2_3_l7⟩) hHeld ?_; case hy2_3_l7 => (intro W hSW; obtain ⟨c0, c1⟩ := vw_facts (HPA.out.ext hSW); obtain ⟨e0, e1⟩ := vw_facts (HPB.out.ext hSW); obtain ⟨g0, g1⟩ := vw_facts (HP7.out.ext hSW); go_simp <;> with_reducible rfl))
          try simp only [lays]
          refine wpAnyH_ready (rs := [4]) (by kernel_rfl) (by simp) ?_
          refine (AllReadyH.cons (o := ⟨some 65, .call { callee := .value (.func 14), args := #[.tmp 63, .tmp 64], argTypes := #[32, 32] }, 32, "law.go:81", #[⟨2, .data⟩, ⟨3, .data⟩], none⟩) rfl (fun K hK => ?_) AllReadyH.nil)
          (go_simp; go_at_call 14; refine (refUnion_any A1 n1 k1 L1 B1 m1 d1 X1 A2 n2 c2 L2 B2 m2 d2 X2 _ (HS8.out.ext HE.out) (HX8.out.ext HE.out) (HS28.out.ext HE.out) (HX28.out.ext HE.out) (by omega) (by omega) (by omega) (by omega) HZS12.out HZT12.out).mono ?_; rintro e w9 ⟨A9, n9, c9, L9, B9, m9, d9, X9, rfl, hv9, hL9, hX9, hn9, hm9, he9⟩; have HE := Lib.hid (HE.out.trans he9); have HV9 := Lib.hid hv9; have HQ := Lib.hid (eqG_of_map TeR.l eqTe (fun x y => rfl) (HX7.out.trans hX9.symm)); clear hv9 hL9 hX9 hn9 hm9 he9)
          refine hK.out _ _ (HE.out) (fun hHeld => ?_)
          clear hK K
          try simp only [lays]
          (refine wpAnyH_take (i := 5) (oi := ⟨some 66, .field 32 (.tmp 65) 1, 30, "law.go:81", #[⟨4, .data⟩], none⟩) (v := .slice B9 m9 d9) rfl (by kernel_rfl) (by kernel_rfl) (by kernel_rfl) (fun _ _ _ h => h) ?hy2_5_l15 hHeld ?_; case hy2_5_l15 => (refine Or.inl ⟨by rfl, ?_⟩; intro W hSW; have hf := run_fieldVw1 A9 n9 c9 B9 m9 d9 W; go_simp <;> with_reducible rfl))
          try simp only [lays]
          refine wpAnyH_ready (rs := [6]) (by kernel_rfl) (by simp) ?_
          refine (AllReadyH.cons (o := ⟨some 67, .call { callee := .value (.func 15), args := #[.tmp 62, .tmp 66], argTypes := #[30, 30] }, 4, "law.go:81", #[⟨1, .data⟩, ⟨5, .data⟩, ⟨4, .chain⟩], none⟩) rfl (fun K hK => ?_) AllReadyH.nil)
          (go_simp; go_at_call 15; refine (sameTexts_any B7 m7 d7 X7 B9 m9 d9 X9 _ (HV7.out.sl2.ext HE.out) (HV9.out.sl2.ext (Ext.refl _))).mono ?_; rw [HQ.out]; rintro e w10 ⟨rfl, he10⟩; have HE := Lib.hid (HE.out.trans he10); clear he10)
          refine hK.out _ _ (HE.out) (fun hHeld => ?_)
          clear hK K
          try simp only [lays]
          (refine wpAnyH_take (i := 7) (oi := ⟨some 68, .move (.tmp 67), 4, "law.go:81", #[⟨6, .data⟩, ⟨6, .chain⟩], none⟩) (v := ?_) rfl (by kernel_rfl) (by kernel_rfl) (by kernel_rfl) (fun _ _ _ h => h) (Or.inl ⟨by rfl, ?hy2_7_l23⟩) hHeld ?_; case hy2_7_l23 => (intro W hSW; go_simp <;> with_reducible rfl))
          try simp only [lays]
          refine wpAnyH_ready (rs := [8]) (by kernel_rfl) (by simp) ?_
          refine (AllReadyH.cons (o := ⟨some 69, .call { callee := .value (.func 10), args := #[], argTypes := #[] }, 4, "law.go:81", #[⟨7, .chain⟩, ⟨7, .guard⟩], some (7, true)⟩) rfl (fun K hK => ?_) AllReadyH.nil)
          (go_simp; go_at_call 10; refine (awake37_any _).mono ?_; rintro e w11 ⟨rfl, he11⟩; have HE := Lib.hid (HE.out.trans he11); clear he11)
          refine hK.out _ _ (HE.out) (fun hHeld => ?_)
          clear hK K
          try simp only [lays]
          (refine wpAnyH_take (i := 9) (oi := ⟨some 70, .pick (.tmp 68) (.tmp 69) (.const (.bool false)), 4, "law.go:81", #[⟨7, .data⟩, ⟨8, .data⟩], none⟩) (v := ?_) rfl (by kernel_rfl) (by kernel_rfl) (by kernel_rfl) (fun _ _ _ h => h) (Or.inl ⟨by rfl, ?hy2_9_l31⟩) hHeld ?_; case hy2_9_l31 => (intro W hSW; go_simp <;> with_reducible rfl))
          try simp only [lays]
          (refine wpAnyH_take (i := 10) (oi := ⟨some 4, .assign (.tmp 70), 4, "law.go:81", #[⟨9, .data⟩, ⟨8, .chain⟩, ⟨0, .phase⟩, ⟨1, .phase⟩, ⟨2, .phase⟩, ⟨3, .phase⟩, ⟨4, .phase⟩, ⟨5, .phase⟩, ⟨6, .phase⟩, ⟨7, .phase⟩, ⟨8, .phase⟩, ⟨9, .phase⟩], none⟩) (v := ?_) rfl (by kernel_rfl) (by kernel_rfl) (by kernel_rfl) (fun _ _ _ h => h) (Or.inl ⟨by rfl, ?hy2_10_l33⟩) hHeld ?_; case hy2_10_l33 => (intro W hSW; go_simp <;> with_reducible rfl))
          try simp only [lays]
          refine wpAnyH_done (by kernel_rfl) ?_ _
          go_wp2_with fail
          go_ret
          exact ⟨rfl, HEW.out.trans HE.out⟩
end Go.Proofs.Ytjlnmpjffogpdaa
