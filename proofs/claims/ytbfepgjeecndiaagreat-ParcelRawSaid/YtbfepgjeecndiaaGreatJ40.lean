/- The signed vote that bytes tell (the reference's DecodeSigned). -/
import Derived.Test.YtbfepgjeecndiaaGreatJ22
import Derived.Test.YtbfepgjeecndiaaGreatJ32
import Derived.Test.YtbfepgjeecndiaaGreatJ34
import Derived.Test.YtbfepgjeecndiaaGreatJ37
namespace Go.Proofs.YtbfepgjeecndiaaGreat
set_option maxRecDepth 100000
set_option maxHeartbeats 8000000
open Go.RowKit
set_option linter.unusedVariables false
set_option linter.unusedSimpArgs false
attribute [local go_sem ↓] Go.wp_at_zero Go.wp_at_succ
theorem rSgDec_short (A : Option Addr) (n c : Nat) (l : List UInt8) (w : World) (hS : SlB w A n c l) (hn : n < 393) : Calls Tryz.prog 55 #[.slice A n c] w (SdOut w l) := by
 have hcap := hS.cap
 have hle := hS.le
 have HC := Lib.hid (show sdC l = 2 from by unfold sdC; rw [hS.len]; rw [if_pos hn])
 have HE := Lib.hid ((Ext.refl w).alloc' (.cells sg0 48))
 have HB := Lib.hid (Blk.new w 48 sg0)
 have ht : (w.alloc (.cells sg0 48)).there w.heap.size 0 23 := there_of_blk HB.out
 have hst := blk_whole (ds := sgA zeroS) HB.out rfl
 have i1 : ((n : Int) < 393) := by omega
 
 clear hS
 go_enter Tryz.func55, Tryz.ntmps55
 go_wp2_with (first | (with_reducible refine wpList_storeS0 rfl (.tmp 2) (.tmp 9) rfl w.heap.size rfl rfl ht ?_))
 exact bodyPost_ret (v := .tuple #[.agg (sgA zeroS), .int .i64 2]) (retCV rfl _ _ w.heap.size _ _ rfl rfl (run_loadVar_row _ _ _ _ _ (0, 0) _ hst Tryz.underlying48 rfl (by kernel_rfl))) rfl ⟨zeroS, by rw [HC.out], zeroS_ok _, Below.setCells' HE.out (Nat.le_refl _) _ _, fun h => by rw [HC.out] at h; exact absurd h (by decide), fun _ => rfl, OwnB.nil _ _ _⟩
theorem rSgDec_long (A : Option Addr) (n c : Nat) (l : List UInt8) (w : World) (hS : SlB w A n c l) (hn : 393 < n) : Calls Tryz.prog 55 #[.slice A n c] w (SdOut w l) := by
 have hcap := hS.cap
 have hle := hS.le
 have HC := Lib.hid (show sdC l = 3 from by unfold sdC; rw [hS.len]; rw [if_neg (by omega), if_pos hn])
 have HE := Lib.hid ((Ext.refl w).alloc' (.cells sg0 48))
 have HB := Lib.hid (Blk.new w 48 sg0)
 have ht : (w.alloc (.cells sg0 48)).there w.heap.size 0 23 := there_of_blk HB.out
 have hst := blk_whole (ds := sgA zeroS) HB.out rfl
 have i1 : (¬ (n : Int) < 393) := by omega
 have i2 : (393 : Int) < (n : Int) := by omega
 clear hS
 go_enter Tryz.func55, Tryz.ntmps55
 go_wp2_with (first | (with_reducible refine wpList_storeS0 rfl (.tmp 2) (.tmp 13) rfl w.heap.size rfl rfl ht ?_))
 exact bodyPost_ret (v := .tuple #[.agg (sgA zeroS), .int .i64 3]) (retCV rfl _ _ w.heap.size _ _ rfl rfl (run_loadVar_row _ _ _ _ _ (0, 0) _ hst Tryz.underlying48 rfl (by kernel_rfl))) rfl ⟨zeroS, by rw [HC.out], zeroS_ok _, Below.setCells' HE.out (Nat.le_refl _) _ _, fun h => by rw [HC.out] at h; exact absurd h (by decide), fun _ => rfl, OwnB.nil _ _ _⟩
theorem rSgDec_yes (A : Option Addr) (c : Nat) (l : List UInt8) (w : World) (hS : SlB w A 393 c l) : Calls Tryz.prog 55 #[.slice A 393 c] w (SdOut w l) := by
 have hl := hS.len
 have hcap := hS.cap
 have hle := hS.le
 obtain ⟨b, o, rfl, hr, hb⟩ := hS.at (by omega)
 have HC := Lib.hid (show sdC l = vdC (l.take 23) from by unfold sdC; rw [hl, if_neg (by omega), if_neg (by omega)])
 have HE := Lib.hid ((Ext.refl w).alloc' (.cells sg0 48))
 have HB := Lib.hid (Blk.new w 48 sg0)
 have HS := Lib.hid hS
 have HL := Lib.hid hl
 have e1 : (bcs l).take 23 = bcs (l.take 23) := by simp [bcs]
 have e2 : (bcs l).drop 23 = bcs (l.drop 23) := by simp [bcs]
 have HA := Lib.hid (fun (W : World) (h : Ext w W) => show SlB W (some ⟨b, o, none⟩) 23 c (l.take 23) from slB_at (by have := rangeAt_take (k := 23) (rangeAt_keep hr (h.block b hb)); rwa [e1] at this) (by rw [List.length_take]; omega) (by omega) (by omega))
 have HD := Lib.hid (fun (W : World) (h : Ext w W) => show SlB W (some ⟨b, o + 23, none⟩) 370 (c - 23) (l.drop 23) from slB_at (by have := rangeAt_drop (k := 23) (rangeAt_keep hr (h.block b hb)); rwa [e2] at this) (by rw [List.length_drop]; omega) (by omega) (by omega))
 have hck : ¬ c = 23 := by omega
 clear hS hr hl e1 e2
 go_enter Tryz.func55, Tryz.ntmps55
 go_wp2_with fail
 refine (rVtDec_yes _ c (l.take 23) _ (HA.out _ HE.out)).mono ?_
 rintro e w1 ⟨rfl, he1⟩
 have HX1 := Lib.hid (HE.out.trans he1)
 have HB1 := Lib.hid (HB.out.ext he1)
 have HWF := Lib.hid (show (vdV (l.take 23)).wf from by unfold vdV; split; exact decVt_wf _; exact zeroV_wf)
 have HV := Lib.hid (show (vdC (l.take 23) = 0 ∧ vdV (l.take 23) = decVt (l.take 23) ∧ vldVt (vdV (l.take 23)) = true) ∨ vdC (l.take 23) = 11 from by
  unfold vdC vdV
  cases hv : vldVt (decVt (l.take 23)) with
  | true => exact .inl ⟨rfl, rfl, hv⟩
  | false => exact .inr rfl)
 obtain ⟨v, hv⟩ : ∃ v, vdV (l.take 23) = v := ⟨_, rfl⟩
 obtain ⟨z, hz⟩ : ∃ z, vdC (l.take 23) = z := ⟨_, rfl⟩
 rw [hv, hz] at HV
 rw [hv] at HWF
 rw [hz] at HC
 rw [hv, hz]
 clear hv hz he1
 have HX2 := Lib.hid (HX1.out.alloc' (.cells (vtA v) 46))
 have HB2 := Lib.hid (HB1.out.alloc (.cells (vtA v) 46))
 have HV2 := Lib.hid (Blk.new w1 46 (vtA v))
 have HG := Lib.hid HB1.out.lt
 have hth : (w1.alloc (.cells (vtA v) 46)).there w.heap.size 0 23 := there_of_blk HB2.out
 rcases HV.out with ⟨rfl, hd, hvd⟩ | rfl
 ·have HF := Lib.hid (And.intro hd hvd)
  clear hd hvd
  go_wp2_with (first | (with_reducible refine wpList_newVt rfl (.tmp 4) (.tmp 18) rfl _ rfl v rfl rfl ?_))
  generalize w1.alloc (.cells (vtA v) 46) = W2 at HX2 HB2 HV2 hth ⊢
  have HN := Lib.hid (show w1.heap.size ≠ w.heap.size from by have := HG.out; omega)
  refine wp_region_held_drew (S := fun W => W.rangeAt w1.heap.size 0 (vtL v)) (by kernel_rfl) (rangeAt_of_blk HV2.out.drew) (fun hHeld => ?_)
  (refine wpAnyH_take (i := 0) (oi := ⟨some 24, .load 46 (.tmp 4), 46, "ref.go:225", #[], none⟩) (v := .agg (vtA v)) rfl (by kernel_rfl) (by kernel_rfl) (by kernel_rfl) (fun _ _ _ h => h) ?hy0 hHeld ?_; case hy0 => (refine yields_loadVtA ?hw (.tmp 4) rfl w1.heap.size 0 ?hx v (fun W h => h); (case hw => rfl); (case hx => rfl)))
  try simp only [lays]
  (refine wr 1 (oi := ⟨some 25, .move (.tmp 0), 28, "ref.go:225", #[], none⟩) (v := ?_) rfl (by kernel_rfl) (by rfl) (fun _ _ _ h => h) ?h hHeld ?_; case h => (intro W hSW; go_simp <;> with_reducible rfl))
  try simp only [lays]
  (refine wr 2 (oi := ⟨some 26, .slice 28 (.tmp 25) (some (.const (.int .i64 23))) none none, 28, "ref.go:225", #[⟨1, .data⟩], none⟩) (v := ?_) rfl (by kernel_rfl) (by rfl) (fun _ _ _ h => h) ?h hHeld ?_; case h => (intro W hSW; go_simp <;> with_reducible rfl))
  try simp only [lays]
  refine wpAnyH_ready (rs := [3]) (by kernel_rfl) (by simp) ?_
  refine AllReadyH.cons (o := ⟨some 27, .call { callee := .builtin .append, args := #[.const (.slice none 0 0), .tmp 26], argTypes := #[28, 28] }, 28, "ref.go:225", #[⟨2, .data⟩], none⟩) rfl (fun K hK => ?_) AllReadyH.nil
  refine step_appBG bytesE rfl (.const (.slice none 0 0)) (.tmp 26) rfl W2.heap.size none 0 0 [] (by rfl) (OwnB.nil _ _ _) (some ⟨b, o + 23, none⟩) 370 (c - 23) (l.drop 23) (by rfl) (HD.out _ (HX2.out.trans (Ext.refl W2).drew')) (by omega) (Ext.refl W2).drew'.size ?_; intro A3 c3 w3 ho hg; have he3 : Ext W2 w3 := Below.grown (Ext.refl W2).drew' hg (Ext.refl W2).drew'.size (fun q hq => by cases hq); have hO3 : OwnB w3 W2.heap.size 5 A3 370 c3 (l.drop 23) := (by simpa only [Nat.zero_add, List.nil_append] using ho); clear ho hg
  refine hK.out _ _ (rangeAt_of_blk (HV2.out.ext he3)) (fun hHeld => ?_)
  clear hK K
  try simp only [lays]
  (refine wr 4 (oi := ⟨some 28, .build 48 #[(0, .tmp 24), (1, .tmp 27)], 48, "ref.go:225", #[⟨0, .data⟩, ⟨3, .data⟩], none⟩) (v := ?_) rfl (by kernel_rfl) (by rfl) (fun _ _ _ h => h) ?h hHeld ?_; case h => (intro W hSW; go_simp <;> with_reducible rfl))
  try simp only [lays]
  refine wpAnyH_ready (rs := [5]) (by kernel_rfl) (by simp) ?_
  refine AllReadyH.cons (o := ⟨none, .store 48 (.tmp 2) (.tmp 28), 0, "ref.go:225", #[⟨4, .data⟩, ⟨3, .chain⟩, ⟨0, .phase⟩, ⟨1, .phase⟩, ⟨2, .phase⟩, ⟨3, .phase⟩, ⟨4, .phase⟩], none⟩) rfl (fun K hK => ?_) AllReadyH.nil
  refine Eq.mpr (if_pos (by rfl)) ?_; refine wp_store_mid 48 (.tmp 2) (.tmp 28) rfl w.heap.size 0 (sgA ⟨v, A3, 370, c3, l.drop 23⟩) rfl ?hy (show w3.there w.heap.size 0 23 from there_of_blk (HB2.out.ext he3)) (by kernel_rfl) (sgA_all _) ?_; (case hy => rfl)
  refine hK.out _ _ (World.rangeAt_setCells_apart (rangeAt_of_blk (HV2.out.ext he3)) _ _ _ (.inl HN.out)) (fun hHeld => ?_)
  clear hK K
  try simp only [lays]
  (refine wr 6 (oi := ⟨some 3, .assign (.const (.int .i64 0)), 29, "ref.go:225", #[⟨5, .chain⟩, ⟨0, .phase⟩, ⟨1, .phase⟩, ⟨2, .phase⟩, ⟨3, .phase⟩, ⟨4, .phase⟩, ⟨5, .phase⟩], none⟩) (v := ?_) rfl (by kernel_rfl) (by rfl) (fun _ _ _ h => h) ?h hHeld ?_; case h => (intro W hSW; go_simp <;> with_reducible rfl))
  try simp only [lays]
  refine wpAnyH_done (by kernel_rfl) ?_ _
  have hst := blk_whole (ds := sgA ⟨v, A3, 370, c3, l.drop 23⟩) (HB2.out.ext he3) rfl
  have hx3 : Ext w w3 := Ext.trans HX2.out he3
  have hown : OwnB (w3.setCells w.heap.size 0 (sgA ⟨v, A3, 370, c3, l.drop 23⟩).toList) w.heap.size 5 A3 370 c3 (l.drop 23) :=
   World.ownsRow.kept (own_mono hO3 (Nat.le_of_lt (show w.heap.size < W2.heap.size from HB2.out.lt))) (grown_setCells' w3 w.heap.size _ 0) (.inr (Ne.symm (own_other hO3 (HB2.out.ext he3) (by decide))))
  have hok : (SgR.mk v A3 370 c3 (l.drop 23)).ok (w3.setCells w.heap.size 0 (sgA ⟨v, A3, 370, c3, l.drop 23⟩).toList) := ⟨HWF.out, hown.sl⟩
  go_wp2_with fail
  exact bodyPost_ret (v := .tuple #[.agg (sgA ⟨v, A3, 370, c3, l.drop 23⟩), .int .i64 0]) (retCV rfl _ _ w.heap.size _ _ rfl rfl (run_loadVar_row _ _ _ _ _ (0, 0) _ hst Tryz.underlying48 rfl (by kernel_rfl))) rfl ⟨⟨v, A3, 370, c3, l.drop 23⟩, by rw [HC.out], hok, Below.setCells' hx3 (Nat.le_refl _) _ _, fun _ => ⟨HF.out.1, HF.out.2, rfl, rfl⟩, fun h => absurd HC.out h, hown⟩
 ·have ht := hth
  have hst := blk_whole (ds := sgA zeroS) HB2.out rfl
  go_wp2_with (first | (with_reducible refine wpList_newVt rfl (.tmp 4) (.tmp 18) rfl _ rfl v rfl rfl ?_) | (with_reducible refine wpList_storeS0 rfl (.tmp 2) (.tmp 22) rfl w.heap.size rfl rfl ht ?_))
  exact bodyPost_ret (v := .tuple #[.agg (sgA zeroS), .int .i64 11]) (retCV rfl _ _ w.heap.size _ _ rfl rfl (run_loadVar_row _ _ _ _ _ (0, 0) _ hst Tryz.underlying48 rfl (by kernel_rfl))) rfl ⟨zeroS, by rw [HC.out], zeroS_ok _, Below.setCells' HX2.out (Nat.le_refl _) _ _, fun h => by rw [HC.out] at h; exact absurd h (by decide), fun _ => rfl, OwnB.nil _ _ _⟩
theorem rSgDec_any (A : Option Addr) (n c : Nat) (l : List UInt8) (w : World) (hS : SlB w A n c l) : Calls Tryz.prog 55 #[.slice A n c] w (SdOut w l) := by
 rcases Nat.lt_trichotomy n 393 with h | h | h
 ·exact rSgDec_short A n c l w hS h
 ·subst h; exact rSgDec_yes A c l w hS
 ·exact rSgDec_long A n c l w hS h
end Go.Proofs.YtbfepgjeecndiaaGreat

/- What the bytes of parcels tell, as values; many parcels together (plain). -/
namespace Go.Proofs.YtbfepgjeecndiaaGreat
open Go.RowKit
set_option linter.unusedVariables false
set_option linter.unusedSimpArgs false
theorem dTe_len : ∀ (k : Nat) (r : List UInt8) (acc acc' : List (List UInt8)) (r' : List UInt8), dTe k r acc = some (acc', r') → (∀ q ∈ acc, q.length ≤ 65535) → ∀ q ∈ acc', q.length ≤ 65535
 | 0, r, acc, acc', r', h, ha => by
  simp only [dTe, Option.some.injEq, Prod.mk.injEq] at h
  rw [← h.1]; exact ha
 | k + 1, r, acc, acc', r', h, ha => by
  unfold dTe at h
  split at h
  ·refine dTe_len k _ _ acc' r' h (fun q hq => ?_)
   rcases List.mem_append.1 hq with hq | hq
   ·exact ha q hq
   ·rw [List.mem_singleton.1 hq, List.length_take]
    have h1 := beNat_lt (r.take 2)
    have h2 : 256 ^ (r.take 2).length ≤ 256 ^ 2 := Nat.pow_le_pow_right (by omega) (by rw [List.length_take]; omega)
    omega
  ·cases h
theorem rawVw_len {l : List UInt8} {LV : List SgV} {XV : List (List UInt8)} (h : rawVw l = some (LV, XV)) : ∀ q ∈ XV, q.length ≤ 65535 := by
 unfold rawVw contS at h
 split at h
 ·cases h
 ·split at h
  ·cases h
  ·rename_i P' r' _
   unfold contT at h
   split at h
   ·cases h
   ·split at h
    ·cases h
    ·rename_i Q' r2 hd
     split at h
     ·injection h with h; injection h with _ h; subst h
      exact dTe_len _ _ _ _ _ hd (fun q hq => by cases hq)
     ·cases h
def pcDecV (l : List UInt8) : Option (List SgV × List (List UInt8)) := if 8 ≤ l.length ∧ sumOk l = true then
  (match rawVw (l.drop 8) with
  | none => none
  | some (LV, XV) => if (adjB ltSv LV && adjB lexB XV) = true ∧ lrgN LV.length XV.length = false then some (LV, XV) else none)
 else none
def joS (s : (List SgV × List (List UInt8)) × Nat) (l : List UInt8) : (List SgV × List (List UInt8)) × Nat := match pcDecV l with
 | none => (s.1, s.2 + 1)
 | some (LV, XV) => ((s.1.1 ++ LV, s.1.2 ++ XV), s.2)
def joV (ls : List (List UInt8)) : (List SgV × List (List UInt8)) × Nat := ls.foldl joS (([], []), 0)
theorem joV_snoc (ls : List (List UInt8)) (l : List UInt8) : joV (ls ++ [l]) = joS (joV ls) l := by unfold joV; rw [List.foldl_append]; rfl
def mkSg (v : SgV) : SgR := ⟨v.1, none, 0, 0, v.2⟩
def mkTe (l : List UInt8) : TeR := ⟨none, 0, 0, l⟩
theorem mkSg_V (LV : List SgV) : (LV.map mkSg).map SgR.V = LV := by rw [List.map_map]; exact List.map_id'' (fun _ => rfl) LV
theorem mkTe_l (XV : List (List UInt8)) : (XV.map mkTe).map TeR.l = XV := by rw [List.map_map]; exact List.map_id'' (fun _ => rfl) XV
theorem pcDecV_short {l : List UInt8} (h : l.length < 8) : pcDecV l = none := by unfold pcDecV; rw [if_neg (fun hh => by omega)]
theorem pcDecV_sum {l : List UInt8} (h : sumOk l = false) : pcDecV l = none := by unfold pcDecV; rw [if_neg (fun hh => by rw [h] at hh; cases hh.2)]
theorem pcDecV_raw {l : List UInt8} (h : ∀ (L : List SgR) (X : List TeR), rawVw (l.drop 8) = some (L.map SgR.V, X.map TeR.l) → ordV L X = false) : pcDecV l = none := by
 unfold pcDecV
 split
 ·split
  ·rfl
  ·rename_i LV XV hr
   have := h (LV.map mkSg) (XV.map mkTe) (by rw [mkSg_V, mkTe_l]; exact hr)
   rw [ordV_V, mkSg_V, mkTe_l] at this
   rw [if_neg (fun hh => by rw [this] at hh; cases hh.1)]
 ·rfl
theorem pcDecV_large {l : List UInt8} {L : List SgR} {X : List TeR} (hr : rawVw (l.drop 8) = some (L.map SgR.V, X.map TeR.l)) (h : lrgN L.length X.length = true) : pcDecV l = none := by
 unfold pcDecV
 split
 ·rw [hr]
  simp only [List.length_map]
  rw [if_neg (fun hh => by rw [h] at hh; cases hh.2)]
 ·rfl
theorem pcDecV_yes {l : List UInt8} {L : List SgR} {X : List TeR} (h8 : 8 ≤ l.length) (hs : sumOk l = true) (hr : rawVw (l.drop 8) = some (L.map SgR.V, X.map TeR.l)) (ho : ordV L X = true) (h : lrgN L.length X.length = false) : pcDecV l = some (L.map SgR.V, X.map TeR.l) := by
 unfold pcDecV
 rw [if_pos ⟨h8, hs⟩, hr]
 simp only [List.length_map]
 rw [if_pos ⟨by rw [← ordV_V]; exact ho, h⟩]
def PcDec2 (w : World) (l : List UInt8) (e : Ending) (w' : World) : Prop :=
 ∃ (A : Option Addr) (n c : Nat) (L : List SgR) (B : Option Addr) (m d : Nat) (X : List TeR) (z : Int), e = .returned (.tuple #[.agg (vwA A n c B m d), .int .i64 z]) ∧ VwO w' w.heap.size A n c L B m d X ∧ Ext w w' ∧
  ((z ≠ 0 ∧ pcDecV l = none) ∨ (z = 0 ∧ pcDecV l = some (L.map SgR.V, X.map TeR.l) ∧ n ≤ 64 ∧ m ≤ 64 ∧ (∀ S, S ∈ L → S.n = 370) ∧ ∀ T, T ∈ X → T.n ≤ 65535))
theorem pcDec2_any (A : Option Addr) (n c : Nat) (l : List UInt8) (w : World) (hS : SlB w A n c l) (hbd : n ≤ 100000000) : Calls Tryz.prog 11 #[.slice A n c] w (PcDec2 w l) := by
 refine (pcDec_any A n c l w hS hbd).mono ?_
 rintro e w' ⟨A', n', c', L, B, m, d, X, z, he, hv, hE, hc⟩
 refine ⟨A', n', c', L, B, m, d, X, z, he, hv, hE, ?_⟩
 rcases hc with ⟨rfl, h, -⟩ | ⟨rfl, -, h, -⟩ | ⟨rfl, -, -, -, -, h⟩ | ⟨rfl, -, -, -, -, L2, X2, h, -, h2⟩ | ⟨rfl, h8, hs, hr, ho, hl, hv2⟩
 ·exact .inl ⟨by decide, pcDecV_short h⟩
 ·exact .inl ⟨by decide, pcDecV_sum h⟩
 ·exact .inl ⟨by decide, pcDecV_raw h⟩
 ·exact .inl ⟨by decide, pcDecV_large h h2⟩
 ·have hn : L.length = n' := hv.sl1.len
  have hm : X.length = m := hv.sl2.len
  have hlg := hl
  unfold lrgN at hlg
  rw [hn, hm, Bool.or_eq_false_iff] at hlg
  have h1 := of_decide_eq_false hlg.1
  have h2 := of_decide_eq_false hlg.2
  refine .inr ⟨rfl, pcDecV_yes h8 hs hr ho hl, by omega, by omega, fun S hS => ?_, fun T hT => ?_⟩
  ·have := hv2 S hS
   unfold vldSg at this
   rw [Bool.and_eq_true] at this
   exact of_decide_eq_true this.2
  ·have := rawVw_len hr T.l (List.mem_map_of_mem hT)
   have h3 := SlB.len (hv.sl2.ok T hT)
   omega
end Go.Proofs.YtbfepgjeecndiaaGreat

/- A sorted row without its repetitions is the ascending row (plain). -/
namespace Go.Proofs.YtbfepgjeecndiaaGreat
open Go.RowKit
set_option linter.unusedVariables false
set_option linter.unusedSimpArgs false
set_option linter.unusedSectionVars false
section
variable {α β : Type} [RowT α] [DecidableEq β] {V : α → β} {lt0 : α → α → Bool} {lt : β → β → Bool} {d d' : Array α} {n : Nat}
theorem wsc_of (hlt : ∀ x y, lt0 x y = lt (V x) (V y)) (hn : d'.size = n) (hs : Sort.SortedIn lt0 0 n d') : Wsc lt (d'.toList.map V) := by
 unfold Wsc
 rw [List.pairwise_iff_getElem]
 intro i j hi hj hij
 simp only [List.length_map, Array.length_toList] at hi hj
 have := hs i j (Nat.zero_le _) hij (by omega)
 rw [hlt, getElem!_pos d' i hi, getElem!_pos d' j hj] at this
 simpa using this
theorem mem_of_perm (hd : d.size = n) (hp : Sort.PermIn 0 n d d') (y : β) : y ∈ d'.toList.map V ↔ y ∈ d.toList.map V := by
 obtain ⟨h1, h2, h3⟩ := hp
 have e1 : d'.extract 0 n = d' := by rw [← hd, ← h1]; exact Array.extract_size
 have e2 : d.extract 0 n = d := by rw [← hd]; exact Array.extract_size
 rw [e1, e2] at h3
 exact (h3.map V).mem_iff
theorem canon_of_sorted (hS : STO lt) (hlt : ∀ x y, lt0 x y = lt (V x) (V y)) (hd : d.size = n) (hp : Sort.PermIn 0 n d d') (hs : Sort.SortedIn lt0 0 n d') : compO (d'.toList.map V) = canonO lt (d.toList.map V) :=
 compO_canon hS (wsc_of hlt (by rw [hp.1, hd]) hs) (mem_of_perm hd hp)
end
end Go.Proofs.YtbfepgjeecndiaaGreat

/- What the bytes of a parcel are answered with: its code (plain). -/
namespace Go.Proofs.YtbfepgjeecndiaaGreat
open Go.RowKit
set_option linter.unusedVariables false
set_option linter.unusedSimpArgs false
attribute [local go_sem ↓] Go.wp_at_zero Go.wp_at_succ
theorem eqG_of_map {α β : Type} [RowT α] [DecidableEq β] (f : α → β) (e : α → α → Bool) (he : ∀ x y, e x y = decide (f x = f y)) {L M : List α} (h : L.map f = M.map f) : eqG e L M = true := by
 have hl : L.length = M.length := by simpa using congrArg List.length h
 refine eqG_yes hl (fun k hk => ?_)
 rw [he]
 refine decide_eq_true ?_
 have h1 : (L.map f)[k]? = (M.map f)[k]? := by rw [h]
 rw [List.getElem?_map, List.getElem?_map, nthG_get hk, nthG_get (by rw [← hl]; exact hk)] at h1
 simpa using h1
theorem eqVw_of {L L' : List SgR} {X X' : List TeR} (h1 : L.map SgR.V = L'.map SgR.V) (h2 : X.map TeR.l = X'.map TeR.l) : eqVw L X L' X' = true := by
 unfold eqVw
 rw [eqG_of_map SgR.V eqSg eqSg_V h1, eqG_of_map TeR.l eqTe (fun x y => rfl) h2]; rfl
end Go.Proofs.YtbfepgjeecndiaaGreat

/- The small view of the law's sanity check, as values (plain). -/
namespace Go.Proofs.YtbfepgjeecndiaaGreat
open Go.RowKit
set_option linter.unusedVariables false
set_option linter.unusedSimpArgs false
def awE : List UInt8 := [0, 0, 0, 0, 0, 0, 0, 2, 0, 1, 1, 0, 1, 2]
theorem awE_enc : encVwV [] [[1], [2]] = awE := by kernel_rfl
theorem awE_raw : rawVw awE = some ([], [[1], [2]]) := by kernel_rfl
theorem aw_err : pcEV [] [[1], [2]] = 0 := by kernel_rfl
theorem aw_canon : canonO lexB [[(1 : UInt8)], [2]] = [[1], [2]] := by kernel_rfl
theorem aw_canon0 : canonO ltSv [] = [] := rfl
theorem aw_enc : encPcV [] [[1], [2]] = nmb (tagU 89 awE) ++ awE := by unfold encPcV; rw [awE_enc]
theorem aw_len : (encPcV [] [[1], [2]]).length = 22 := by rw [aw_enc, List.length_append, nmb_length]; rfl
theorem aw_dec : pcDecV (encPcV [] [[1], [2]]) = some ([], [[1], [2]]) := by
 have h1 : (nmb (tagU 89 awE) ++ awE).drop 8 = awE := by
  rw [List.drop_append, nmb_length]; rw [List.drop_of_length_le (by rw [nmb_length]; exact Nat.le_refl _)]; rfl
 have h2 : (nmb (tagU 89 awE) ++ awE).take 8 = nmb (tagU 89 awE) := by
  rw [List.take_append, nmb_length, List.take_of_length_le (by rw [nmb_length]; exact Nat.le_refl _)]; simp
 have h3 : sumOk (nmb (tagU 89 awE) ++ awE) = true := by unfold sumOk; rw [h1, h2]; exact decide_eq_true rfl
 rw [aw_enc]
 unfold pcDecV
 rw [if_pos ⟨by rw [List.length_append, nmb_length]; decide, h3⟩, h1, awE_raw]
 exact if_pos (by decide)
theorem aw_split : splV (canonO ltSv []) (canonO lexB [[(1 : UInt8)], [2]]) = ([encPcV [] [[1], [2]]], 0) := by
 rw [aw_canon, aw_canon0]
 have h : splN ([] : List SgV) [[(1 : UInt8)], [2]] = 1 := by decide
 unfold splV
 rw [h, splF, if_neg (show ¬ pcEV (prt ([] : List SgV) 0) (prt [[(1 : UInt8)], [2]] 0) ≠ 0 from by rw [show pcEV (prt ([] : List SgV) 0) (prt [[(1 : UInt8)], [2]] 0) = 0 from by kernel_rfl]; simp)]
 rfl
theorem aw_join : joV [encPcV [] [[1], [2]], []] = (([], [[1], [2]]), 1) := by
 unfold joV
 rw [List.foldl_cons, List.foldl_cons, List.foldl_nil]
 unfold joS
 rw [aw_dec, pcDecV_short (show ([] : List UInt8).length < 8 from by decide)]
 rfl
theorem aw_miss : (canonO lexB [[(1 : UInt8)], [2]]).filter (fun l => !decide (l ∈ [[(1 : UInt8)]])) = [[2]] := by kernel_rfl
end Go.Proofs.YtbfepgjeecndiaaGreat
