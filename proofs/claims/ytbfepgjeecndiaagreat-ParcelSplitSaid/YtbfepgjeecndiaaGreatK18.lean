/- Stable sorting, plain: blocks put in order, then merged two by two. -/
import Derived.Test.YtbfepgjeecndiaaGreatK17
namespace Go.Proofs.YtbfepgjeecndiaaGreat
open Go.Sort
set_option linter.unusedVariables false
section
variable {α : Type} [Inhabited α] {lt : α → α → Bool} {a m b s n : Nat} {d0 d d' d'' : Array α}
theorem Rot.perm (h : Rot a m b d d') (ham : a ≤ m) (hmb : m ≤ b) (hb : b ≤ d.size) : PermIn a b d d' := by
 refine ⟨h.size, fun i hi => h.out i hi, ?_⟩
 rw [extract_toList d' a b (by rw [h.size]; exact hb), extract_toList d a b hb]
 have e1 : List.range' a (b - a) = List.range' a (b - m) ++ List.range' (a + (b - m)) (m - a) := by
  rw [List.range'_append_1]; congr 1; omega
 have e2 : List.range' a (b - a) = List.range' a (m - a) ++ List.range' m (b - m) := by
  have := List.range'_append_1 (s := a) (m := m - a) (n := b - m)
  rw [show a + (m - a) = m from by omega, show m - a + (b - m) = b - a from by omega] at this
  exact this.symm
 have g1 : (List.range' a (b - m)).map (fun i => d'[i]!) = (List.range' m (b - m)).map (fun i => d[i]!) := by
  refine List.ext_getElem (by simp) fun i h1 h2 => ?_
  simp only [List.length_map, List.length_range'] at h1
  simp only [List.getElem_map, List.getElem_range', Nat.one_mul]
  rw [h.lo (a + i) (by omega) (by omega)]; congr 1; omega
 have g2 : (List.range' (a + (b - m)) (m - a)).map (fun i => d'[i]!) = (List.range' a (m - a)).map (fun i => d[i]!) := by
  refine List.ext_getElem (by simp) fun i h1 h2 => ?_
  simp only [List.length_map, List.length_range'] at h1
  simp only [List.getElem_map, List.getElem_range', Nat.one_mul]
  rw [h.hi (a + (b - m) + i) (by omega) (by omega)]; congr 1; omega
 have k1 : (List.range' a (b - a)).map (fun i => d'[i]!) = (List.range' m (b - m)).map (fun i => d[i]!) ++ (List.range' a (m - a)).map (fun i => d[i]!) := by
  rw [e1, List.map_append, g1, g2]
 have k2 : (List.range' a (b - a)).map (fun i => d[i]!) = (List.range' a (m - a)).map (fun i => d[i]!) ++ (List.range' m (b - m)).map (fun i => d[i]!) := by
  rw [e2, List.map_append]
 have k1' := k1
 have k2' := k2
 exact (List.Perm.of_eq k1).trans (List.perm_append_comm.trans (List.Perm.of_eq k2.symm))
theorem sorted_far {x y : Nat} (p : PermIn a b d d') (h : SortedIn lt x y d) (hd : y ≤ a ∨ b ≤ x) : SortedIn lt x y d' := fun i j hi hij hj => by
 rw [p.2.1 i (by omega), p.2.1 j (by omega)]; exact h i j hi hij hj
structure InsA (lt : α → α → Bool) (a n : Nat) (d0 d : Array α) : Prop where
 perm : PermIn 0 n d0 d
 low : ∃ j, a = j * 20 ∧ ∀ k, k < j → SortedIn lt (k * 20) ((k + 1) * 20) d
structure Runs (lt : α → α → Bool) (s n : Nat) (d0 d : Array α) : Prop where
 perm : PermIn 0 n d0 d
 all : ∀ k, SortedIn lt (k * s) (min ((k + 1) * s) n) d
theorem InsA.start (n : Nat) (d : Array α) : InsA lt 0 n d d := ⟨permIn_refl _ _ _, 0, rfl, fun k hk => absurd hk (Nat.not_lt_zero _)⟩
theorem InsA.step (h : InsA lt a n d0 d) (hb : a + 20 ≤ n) (hn : n ≤ d0.size) (p : PermIn a (a + 20) d d') (q : SortedIn lt a (a + 20) d') : InsA lt (a + 20) n d0 d' := by
 obtain ⟨hp, j, rfl, hl⟩ := h
 have hs := hp.1
 refine ⟨permIn_trans _ _ _ _ _ hp (permIn_mono _ _ _ _ _ _ (by omega) hb (by omega) p), j + 1, by omega, fun k hk => ?_⟩
 by_cases e : k = j
 ·subst e; rw [show (k + 1) * 20 = k * 20 + 20 from by omega]; exact q
 ·exact sorted_far p (hl k (by omega)) (.inl (by omega))
theorem InsA.last (h : InsA lt a n d0 d) (ha : a ≤ n) (hb : n < a + 20) (hn : n ≤ d0.size) (p : PermIn a n d d') (q : SortedIn lt a n d') : Runs lt 20 n d0 d' := by
 obtain ⟨hp, j, rfl, hl⟩ := h
 have hs := hp.1
 refine ⟨permIn_trans _ _ _ _ _ hp (permIn_mono _ _ _ _ _ _ (by omega) (Nat.le_refl _) (by omega) p), fun k => ?_⟩
 by_cases e : k = j
 ·subst e; rw [show min ((k + 1) * 20) n = n from by omega]; exact q
 ·by_cases e2 : k < j
  ·rw [show min ((k + 1) * 20) n = (k + 1) * 20 from by omega]; exact sorted_far p (hl k e2) (.inl (by omega))
  ·intro x y h1 h2 h3; omega
theorem Runs.whole (h : Runs lt s n d0 d) (hs : n ≤ s) : SortedIn lt 0 n d := by
 have := h.all 0
 rw [Nat.zero_mul, Nat.zero_add, Nat.one_mul, Nat.min_eq_right hs] at this
 exact this
structure MerA (lt : α → α → Bool) (s a n : Nat) (d0 d : Array α) : Prop where
 perm : PermIn 0 n d0 d
 run : ∃ j, a = j * (2 * s) ∧ (∀ k, k < j → SortedIn lt (k * (2 * s)) ((k + 1) * (2 * s)) d) ∧ ∀ k, 2 * j ≤ k → SortedIn lt (k * s) (min ((k + 1) * s) n) d
theorem MerA.start (h : Runs lt s n d0 d) : MerA lt s 0 n d0 d := ⟨h.perm, 0, by simp, fun k hk => absurd hk (Nat.not_lt_zero _), fun k _ => h.all k⟩
theorem two_mul_s (j s : Nat) : 2 * j * s = j * (2 * s) := by rw [Nat.mul_comm 2 j, Nat.mul_assoc]
theorem succ_mul_s (j s : Nat) : (j + 1) * (2 * s) = j * (2 * s) + 2 * s := by rw [Nat.add_mul, Nat.one_mul]
theorem MerA.left (h : MerA lt s a n d0 d) (hb : a + s ≤ n) : SortedIn lt a (a + s) d := by
 obtain ⟨hp, j, rfl, hl, hh⟩ := h
 have := hh (2 * j) (Nat.le_refl _)
 rw [Nat.add_mul, Nat.one_mul, two_mul_s, Nat.min_eq_left hb] at this
 exact this
theorem MerA.right (h : MerA lt s a n d0 d) : SortedIn lt (a + s) (min (a + 2 * s) n) d := by
 obtain ⟨hp, j, rfl, hl, hh⟩ := h
 have := hh (2 * j + 1) (by omega)
 rw [Nat.add_mul (2 * j + 1) 1, Nat.one_mul, Nat.add_mul, Nat.one_mul, two_mul_s, show j * (2 * s) + s + s = j * (2 * s) + 2 * s from by omega] at this
 exact this
theorem MerA.step (h : MerA lt s a n d0 d) (hb : a + 2 * s ≤ n) (hn : n ≤ d0.size) (p : PermIn a (a + 2 * s) d d') (q : SortedIn lt a (a + 2 * s) d') : MerA lt s (a + 2 * s) n d0 d' := by
 obtain ⟨hp, j, rfl, hl, hh⟩ := h
 have hs := hp.1
 refine ⟨permIn_trans _ _ _ _ _ hp (permIn_mono _ _ _ _ _ _ (by omega) hb (by omega) p), j + 1, (succ_mul_s j s).symm, fun k hk => ?_, fun k hk => ?_⟩
 ·by_cases e : k = j
  ·subst e; rw [succ_mul_s]; exact q
  ·exact sorted_far p (hl k (by omega)) (.inl (Nat.mul_le_mul_right _ (by omega)))
 ·refine sorted_far p (hh k (by omega)) (.inr ?_)
  have := Nat.mul_le_mul_right s hk
  rw [two_mul_s, succ_mul_s] at this
  exact this
theorem MerA.last (h : MerA lt s a n d0 d) (ha : a ≤ n) (hb : n < a + 2 * s) (hn : n ≤ d0.size) (p : PermIn a n d d') (q : SortedIn lt a n d') : Runs lt (2 * s) n d0 d' := by
 obtain ⟨hp, j, rfl, hl, hh⟩ := h
 have hs := hp.1
 refine ⟨permIn_trans _ _ _ _ _ hp (permIn_mono _ _ _ _ _ _ (by omega) (Nat.le_refl _) (by omega) p), fun k => ?_⟩
 by_cases e : k = j
 ·subst e; rw [succ_mul_s, Nat.min_eq_right (by omega)]; exact q
 ·by_cases e2 : k < j
  ·have h1 : (k + 1) * (2 * s) ≤ j * (2 * s) := Nat.mul_le_mul_right _ (by omega)
   rw [Nat.min_eq_left (by omega)]; exact sorted_far p (hl k e2) (.inl h1)
  ·intro x y h1 h2 h3
   have h4 : (j + 1) * (2 * s) ≤ k * (2 * s) := Nat.mul_le_mul_right _ (by omega)
   rw [succ_mul_s] at h4
   omega
theorem MerA.rest (h : MerA lt s a n d0 d) (hb : n ≤ a + s) (ha : a ≤ n) (hn : n ≤ d0.size) : Runs lt (2 * s) n d0 d := by
 have hs := h.perm.1
 rcases Nat.eq_zero_or_pos s with e | e
 ·subst e
  have ha : a = n := by omega
  obtain ⟨hp, j, rfl, hl, hh⟩ := h
  refine ⟨hp, fun k => ?_⟩
  intro x y h1 h2 h3; omega
 ·have hl := h.right
  have h0 : SortedIn lt a n d := by
   obtain ⟨hp, j, rfl, hl, hh⟩ := h
   have := hh (2 * j) (Nat.le_refl _)
   rw [Nat.add_mul, Nat.one_mul, two_mul_s, Nat.min_eq_right hb] at this
   exact this
  exact h.last ha (by omega) hn (permIn_refl _ _ _) h0
end
end Go.Proofs.YtbfepgjeecndiaaGreat

/- The bytes of votes and of signed votes (the program's Encode). -/
namespace Go.Proofs.YtbfepgjeecndiaaGreat
set_option maxRecDepth 100000
set_option maxHeartbeats 4000000
open Go.RowKit
set_option linter.unusedVariables false
set_option linter.unusedSimpArgs false
attribute [local go_sem ↓] Go.wp_at_zero Go.wp_at_succ
theorem hmk23 (w : World) : (Instr.makeSlice 28 (.int .i64 0) (.int .i64 23)).run Tryz.prog w = .ok (.slice (some ⟨w.heap.size, 0, none⟩) 0 23) (w.alloc (.cells (madeCells (Value.int .u8 0).cells 23) 5)) := by
 obtain ⟨i, hi, hz, hs, hby⟩ := bytesE.get
 have h := run_make (P := Tryz.prog) w 28 5 i (.int .u8 0) bytesE.ut hi hz .i64 .i64 0 23 (by omega) (by omega) (by rw [hby]; omega) (by omega)
 simpa [hs] using h
theorem appV2 (A : Option Addr) (n c : Nat) (l : List UInt8) (z : Int) (w : World) (h : SlB w A n c l) (hn : n ≤ 140737488351232) : Calls Tryz.prog 37 #[.slice A n c, .int .u64 (un (uI z)), .int .i64 2] w fun e w' => ∃ A' c', e = .returned (.slice A' (n + 2) c') ∧ OwnB w' w.heap.size 5 A' (n + 2) c' (l ++ beI 2 z) ∧ Ext w w' :=
 appendUI_any A n c l z 2 (by omega) w h hn
theorem slB_new5 (w : World) (t : TypeId) (x y z u v : Int) (a b c d e : UInt8) (hx : x = (a.toNat : Int)) (hy : y = (b.toNat : Int)) (hz : z = (c.toNat : Int)) (hu : u = (d.toNat : Int)) (hv : v = (e.toNat : Int)) (g : Nat) (hg : w.heap.size = g) : SlB (w.alloc (.cells #[.int .u8 x, .int .u8 y, .int .u8 z, .int .u8 u, .int .u8 v] t)) (some ⟨g, 0, none⟩) 5 5 [a, b, c, d, e] :=
 SlB.new hg [a, b, c, d, e] (by rw [hx, hy, hz, hu, hv]; rfl) (by simp)
theorem slB_at {w : World} {b o : Nat} {l : List UInt8} (h : w.rangeAt b o (bcs l)) {n c : Nat} (hl : l.length = n) (hc : n ≤ c) (hm : c ≤ 9223372036854775807) : SlB w (some ⟨b, o, none⟩) n c l := ⟨hl, hc, hm, .inr ⟨b, o, rfl, h⟩⟩
theorem voteEnc_no (v : VtR) (h : vldVt v = false) (w : World) : Calls Tryz.prog 71 #[.agg (vtA v)] w fun e w' => e = .returned (.tuple #[.slice none 0 0, .bool false]) ∧ Ext w w' := by
 have HE := Lib.hid ((Ext.refl w).alloc' (.cells (vtA v) 46))
 have hr : (w.alloc (.cells (vtA v) 46)).rangeAt w.heap.size 0 (vtL v) := rangeAt_of_blk (Blk.new w 46 (vtA v))
 have HV := Lib.hid (fun (W : World) => voteValid_any v W)
 rw [h] at HV
 clear h
 go_enter Tryz.func71, Tryz.ntmps71
 go_wp2_with (first | (with_reducible refine wpList_loadVt rfl (.tmp 1) rfl w.heap.size 0 rfl v hr ?_))
 refine (HV.out _).mono ?_
 rintro e w1 ⟨rfl, he1⟩
 have HX := Lib.hid (HE.out.trans he1)
 clear he1 hr
 go_wp2_with fail
 go_ret2
 exact ⟨rfl, HX.out⟩
theorem voteEnc_yes (v : VtR) (h : vldVt v = true) (w : World) : Calls Tryz.prog 71 #[.agg (vtA v)] w fun e w' => ∃ A' c', e = .returned (.tuple #[.slice A' 23 c', .bool true]) ∧ OwnB w' w.heap.size 5 A' 23 c' (encVt v) ∧ Ext w w' := by
 have HE := Lib.hid ((Ext.refl w).alloc' (.cells (vtA v) 46))
 have HB := Lib.hid (Blk.new w 46 (vtA v))
 obtain ⟨W0, hW0⟩ : ∃ W0, w.alloc (.cells (vtA v) 46) = W0 := ⟨_, rfl⟩
 rw [hW0] at HE HB
 have hr : W0.rangeAt w.heap.size 0 (vtL v) := rangeAt_of_blk HB.out
 have HV := Lib.hid (fun (W : World) => voteValid_any v W)
 rw [h] at HV
 have hmk := hmk23
 have u_su := uI_un v.su
 clear h
 go_enter Tryz.func71, Tryz.ntmps71
 go_wp2_with (first | (with_reducible refine wpList_loadVt rfl (.tmp 1) rfl w.heap.size 0 rfl v hr ?_))
 refine (HV.out _).mono ?_
 rintro e w1 ⟨rfl, he1⟩
 have HX := Lib.hid (HE.out.trans he1)
 have HB1 := Lib.hid (HB.out.ext he1)
 obtain ⟨a0, a1, a2, a3, a4, a5, a6, a7⟩ := vt_facts HB1.out
 have glt : w.heap.size < w1.heap.size := by have := HB1.out.lt; omega
 clear he1 hr hW0 a6 a7
 go_wp2_with (at_builtin; go_must (refine wpList_appB bytesE rfl (.tmp 9) (.tmp 25) rfl w1.heap.size _ _ _ [] rfl ((OwnB.made w1 w1.heap.size _ 23 w1.heap.size rfl (Nat.le_refl _) (by omega) (size_madeCells _ _)).alloc _) _ _ _ [toB v.k, toB v.sl, toB v.ro, toB v.ch, toB v.si] rfl ?r1 (by omega) ?b1 w1 ?w1 ?_))
 case r1 => exact slB_new5 _ _ _ _ _ _ _ _ _ _ _ _ (by first | exact toB_eq _ | (rw [← toB_eq]; omega)) (by first | exact toB_eq _ | (rw [← toB_eq]; omega)) (by first | exact toB_eq _ | (rw [← toB_eq]; omega)) (by first | exact toB_eq _ | (rw [← toB_eq]; omega)) (by first | exact toB_eq _ | (rw [← toB_eq]; omega)) _ (by simp)
 case b1 => simp; omega
 case w1 => exact Below.alloc (Below.alloc (Below.refl _ _) (Nat.le_refl _) _) (by simp) _
 intro A1 c1 w2 ho2 hw2 hs2
 have HX2 := Lib.hid (Below.mono hw2 (Nat.le_refl _) : Ext w1 w2)
 have HB2 := Lib.hid (HB1.out.ext HX2.out)
 have HO2 := Lib.hid ho2
 obtain ⟨a0, a1, a2, a3, a4, a5, a6, a7⟩ := vt_facts HB2.out
 clear ho2 hw2 hs2 hmk a0 a1 a2 a3 a4 a6 a7
 go_wp2_with fail
 refine (appV2 A1 5 c1 _ v.su w2 HO2.out.sl (by omega)).mono ?_
 rintro e w3 ⟨A3, c3, rfl, hO3, he3⟩
 have HX3 := Lib.hid (Ext.trans HX2.out he3)
 have HB3 := Lib.hid (HB1.out.ext HX3.out)
 have HO3 := Lib.hid hO3
 have HS3 := Lib.hid he3.size
 clear hO3 he3 a5 u_su
 go_wp2_with (at_builtin; go_must (refine wpList_appB bytesE rfl (.tmp 32) (.tmp 34) rfl w2.heap.size _ _ _ _ rfl HO3.out _ 8 8 (nmb v.pa) rfl (slB_at (vt_pa HB3.out) (nmb_length _) (by omega) (by omega)) (by omega) HS3.out w3 ((Below.refl _ _)) ?_))
 intro A4 c4 w4 ho4 hw4 hs4
 have HX4 := Lib.hid (Below.trans (Below.mono HX3.out (Nat.le_refl _)) (Below.mono hw4 HX2.out.size) : Ext w1 w4)
 have HB4 := Lib.hid (HB1.out.ext HX4.out)
 have HO4 := Lib.hid ho4
 have HS4 := Lib.hid (show w2.heap.size ≤ w4.heap.size from Nat.le_trans HS3.out hs4)
 clear ho4 hw4 hs4
 go_wp2_with (at_builtin; go_must (refine wpList_appB bytesE rfl (.tmp 36) (.tmp 38) rfl w2.heap.size _ _ _ _ rfl HO4.out _ 8 8 (nmb v.va) rfl (slB_at (vt_va HB4.out) (nmb_length _) (by omega) (by omega)) (by omega) HS4.out w4 ((Below.refl _ _)) ?_))
 intro A5 c5 w5 ho5 hw5 hs5
 have HF := Lib.hid (show OwnB w5 w.heap.size 5 A5 23 c5 (encVt v) from by
  have h1 : OwnB w5 w.heap.size 5 A5 23 c5 _ := own_mono (base' := w.heap.size) ho5 (by have := HX.out.size; have := HX2.out.size; omega)
  have e : encVt v = [toB v.k, toB v.sl, toB v.ro, toB v.ch, toB v.si] ++ beI 2 v.su ++ nmb v.pa ++ nmb v.va := by simp [encVt]
  rw [e]
  exact h1)
 have HG := Lib.hid (HX.out.trans (Below.trans (Below.mono HX4.out (Nat.le_refl _)) (Below.mono hw5 HX2.out.size) : Ext w1 w5))
 clear ho5 hw5 hs5
 go_wp2_with fail
 go_ret2
 exact ⟨A5, c5, rfl, HF.out, HG.out⟩
end Go.Proofs.YtbfepgjeecndiaaGreat

/- signed.Encode (the program's). -/
namespace Go.Proofs.YtbfepgjeecndiaaGreat
set_option maxRecDepth 100000
set_option maxHeartbeats 4000000
open Go.RowKit
set_option linter.unusedVariables false
set_option linter.unusedSimpArgs false
attribute [local go_sem ↓] Go.wp_at_zero Go.wp_at_succ
theorem size2_any (w : World) : Calls Tryz.prog 72 #[.int .i64 2] w fun e w' => e = .returned (.int .i64 370) ∧ w = w' := by
 go_enter Tryz.func72, Tryz.ntmps72
 go_wp2_with fail
 go_ret
 exact ⟨rfl, rfl⟩
def vldSg (S : SgR) : Bool := vldVt S.v && decide (S.n = 370)
def encSg (S : SgR) : List UInt8 := encVt S.v ++ S.sig
theorem sgEnc_no1 (S : SgR) (w : World) (hS : S.ok w) (h : vldVt S.v = false) : Calls Tryz.prog 38 #[.agg (sgA S)] w fun e w' => e = .returned (.tuple #[.slice none 0 0, .bool false]) ∧ Ext w w' := by
 have HE := Lib.hid ((Ext.refl w).alloc' (.cells (sgA S) 48))
 have HB := Lib.hid (Blk.new w 48 (sgA S))
 obtain ⟨W0, hW0⟩ : ∃ W0, w.alloc (.cells (sgA S) 48) = W0 := ⟨_, rfl⟩
 rw [hW0] at HE HB
 have HS := Lib.hid (hS.ext HE.out)
 have hr := sg_vote HB.out
 clear hS
 go_enter Tryz.func38, Tryz.ntmps38
 go_wp2_with (first | (with_reducible refine wpList_loadVt rfl (.tmp 7) rfl w.heap.size 0 rfl S.v hr ?_))
 refine (voteEnc_no S.v h W0).mono ?_
 rintro e w1 ⟨rfl, he1⟩
 have HX := Lib.hid (HE.out.trans he1)
 clear he1 hr h
 go_wp2_with fail
 refine wp_region_plan (S := fun W => Ext w1 W) (by kernel_rfl) (by kernel_rfl) ((Ext.refl w1).drew') ?_
 (refine pr 0 (oi := ⟨some 12, .move (.tmp 5), 4, "signed.go:44", #[], none⟩) (v := ?_) rfl (by kernel_rfl) (by rfl) ?h ?_; case h => (intro W hSW; go_simp <;> with_reducible rfl))
 try simp only [lays]
 (refine pr 1 (oi := ⟨some 13, .unOp .not 4 (.tmp 12), 4, "signed.go:44", #[⟨0, .data⟩], none⟩) (v := ?_) rfl (by kernel_rfl) (by rfl) ?h ?_; case h => (intro W hSW; go_simp <;> with_reducible rfl))
 try simp only [lays]
 (refine pr 2 (oi := ⟨some 14, .move (.tmp 13), 4, "signed.go:44", #[⟨1, .data⟩], none⟩) (v := ?_) rfl (by kernel_rfl) (by rfl) ?h ?_; case h => (intro W hSW; go_simp <;> with_reducible rfl))
 try simp only [lays]
 refine plan_oi (i := 3) (oi := ⟨some 15, .fieldAddr 48 (.tmp 1) 1, 0, "signed.go:44", #[⟨2, .guard⟩], some (2, false)⟩) rfl (by kernel_rfl) (by kernel_rfl) ?_
 first | (refine ⟨?_, (fx_read (Or.inl ⟨by rfl, ?hy3⟩)), ?_⟩; case hy3 => (intro W hSW; go_simp <;> with_reducible rfl)) | (refine ⟨undef, fx_skip (by rfl), ?_⟩)
 try simp only [lays]
 refine plan_oi (i := 4) (oi := ⟨some 16, .load 28 (.tmp 15), 28, "signed.go:44", #[⟨3, .data⟩, ⟨2, .guard⟩], some (2, false)⟩) rfl (by kernel_rfl) (by kernel_rfl) ?_
 first | (refine ⟨?_, (fx_read (Or.inl ⟨by rfl, ?hy4⟩)), ?_⟩; case hy4 => (intro W hSW; go_simp <;> with_reducible rfl)) | (refine ⟨undef, fx_skip (by rfl), ?_⟩)
 try simp only [lays]
 refine plan_oi (i := 5) (oi := ⟨some 17, .call { callee := .builtin .len, args := #[.tmp 16], argTypes := #[28] }, 3, "signed.go:44", #[⟨4, .data⟩, ⟨2, .guard⟩], some (2, false)⟩) rfl (by kernel_rfl) (by kernel_rfl) ?_
 first | (refine ⟨?_, (fx_read (Or.inl ⟨by rfl, ?hy5⟩)), ?_⟩; case hy5 => (intro W hSW; go_simp <;> with_reducible rfl)) | (refine ⟨undef, fx_skip (by rfl), ?_⟩)
 try simp only [lays]
 refine plan_oi (i := 6) (oi := ⟨some 18, .call { callee := .value (.func 72), args := #[.const (.int .i64 2)], argTypes := #[3] }, 3, "signed.go:44", #[⟨2, .chain⟩, ⟨2, .guard⟩], some (2, false)⟩) rfl (by kernel_rfl) (by kernel_rfl) ?_
 first | (refine ⟨?_, (fx_call (by rfl) (fun W hSW K hK => ?hy6)), ?_⟩; case hy6 => (go_simp; go_at_call 72; (with_reducible refine (size2_any W).mono ?_); rintro e w1 ⟨rfl, he1⟩; exact hK.out _ (hSW))) | (refine ⟨undef, fx_skip (by rfl), ?_⟩)
 try simp only [lays]
 refine plan_oi (i := 7) (oi := ⟨some 19, .binOp .neq 3 (.tmp 17) (.tmp 18) 3, 4, "signed.go:44", #[⟨5, .data⟩, ⟨6, .data⟩, ⟨2, .guard⟩], some (2, false)⟩) rfl (by kernel_rfl) (by kernel_rfl) ?_
 first | (refine ⟨?_, (fx_read (Or.inl ⟨by rfl, ?hy7⟩)), ?_⟩; case hy7 => (intro W hSW; go_simp <;> with_reducible rfl)) | (refine ⟨undef, fx_skip (by rfl), ?_⟩)
 try simp only [lays]
 (refine pr 8 (oi := ⟨some 20, .pick (.tmp 14) (.const (.bool true)) (.tmp 19), 4, "signed.go:44", #[⟨2, .data⟩, ⟨7, .data⟩], none⟩) (v := ?_) rfl (by kernel_rfl) (by rfl) ?h ?_; case h => (intro W hSW; go_simp <;> with_reducible rfl))
 try simp only [lays]
 refine Plan.done (by kernel_rfl) (fun W hSW => ?_)
 have HX2 := Lib.hid (HX.out.trans hSW)
 clear hSW
 go_wp2_with fail
 go_ret2
 exact ⟨rfl, HX2.out⟩
theorem sgEnc_no2 (S : SgR) (w : World) (hS : S.ok w) (h : vldVt S.v = true) (hn : ¬ S.n = 370) : Calls Tryz.prog 38 #[.agg (sgA S)] w fun e w' => e = .returned (.tuple #[.slice none 0 0, .bool false]) ∧ Ext w w' := by
 have HE := Lib.hid ((Ext.refl w).alloc' (.cells (sgA S) 48))
 have HB := Lib.hid (Blk.new w 48 (sgA S))
 obtain ⟨W0, hW0⟩ : ∃ W0, w.alloc (.cells (sgA S) 48) = W0 := ⟨_, rfl⟩
 rw [hW0] at HE HB
 have HS := Lib.hid (hS.ext HE.out)
 have hr := sg_vote HB.out
 clear hS
 have hl : (S.n : Int) ≤ 9223372036854775807 := by have := HS.out.sig.le; have := HS.out.sig.cap; omega
 have hn1 : ((S.n : Int) != 370) = true := by simp; omega
 clear hn
 go_enter Tryz.func38, Tryz.ntmps38
 go_wp2_with (first | (with_reducible refine wpList_loadVt rfl (.tmp 7) rfl w.heap.size 0 rfl S.v hr ?_))
 refine (voteEnc_yes S.v h W0).mono ?_
 rintro e w1 ⟨A1, c1, rfl, hO1, he1⟩
 have HX := Lib.hid (HE.out.trans he1)
 have HB1 := Lib.hid (HB.out.ext he1)
 have HS1 := Lib.hid (HS.out.ext he1)
 have HO1 := Lib.hid hO1
 have HL1 := Lib.hid he1.size
 have HC := Lib.hid (fun (W : World) (hx : Ext w1 W) => show W.cell? ⟨w.heap.size, 22, none⟩ = some (.slice S.A S.n S.c) from (HB1.out.ext hx).cell 22)
 clear he1 hr h hO1
 go_wp2_with fail
 refine wp_region_plan (S := fun W => Ext w1 W) (by kernel_rfl) (by kernel_rfl) ((Ext.refl w1).drew') ?_
 (refine pr 0 (oi := ⟨some 12, .move (.tmp 5), 4, "signed.go:44", #[], none⟩) (v := ?_) rfl (by kernel_rfl) (by rfl) ?h ?_; case h => (intro W hSW; go_simp <;> with_reducible rfl))
 try simp only [lays]
 (refine pr 1 (oi := ⟨some 13, .unOp .not 4 (.tmp 12), 4, "signed.go:44", #[⟨0, .data⟩], none⟩) (v := ?_) rfl (by kernel_rfl) (by rfl) ?h ?_; case h => (intro W hSW; go_simp <;> with_reducible rfl))
 try simp only [lays]
 (refine pr 2 (oi := ⟨some 14, .move (.tmp 13), 4, "signed.go:44", #[⟨1, .data⟩], none⟩) (v := ?_) rfl (by kernel_rfl) (by rfl) ?h ?_; case h => (intro W hSW; go_simp <;> with_reducible rfl))
 try simp only [lays]
 refine plan_oi (i := 3) (oi := ⟨some 15, .fieldAddr 48 (.tmp 1) 1, 0, "signed.go:44", #[⟨2, .guard⟩], some (2, false)⟩) rfl (by kernel_rfl) (by kernel_rfl) ?_
 first | (refine ⟨?_, (fx_read (Or.inl ⟨by rfl, ?hy3⟩)), ?_⟩; case hy3 => (intro W hSW; go_simp <;> with_reducible rfl)) | (refine ⟨undef, fx_skip (by rfl), ?_⟩)
 try simp only [lays]
 refine plan_oi (i := 4) (oi := ⟨some 16, .load 28 (.tmp 15), 28, "signed.go:44", #[⟨3, .data⟩, ⟨2, .guard⟩], some (2, false)⟩) rfl (by kernel_rfl) (by kernel_rfl) ?_
 first | (refine ⟨?_, (fx_read (Or.inl ⟨by rfl, ?hy4⟩)), ?_⟩; case hy4 => (intro W hSW; have c1 := HC.out W hSW; go_simp <;> with_reducible rfl)) | (refine ⟨undef, fx_skip (by rfl), ?_⟩)
 try simp only [lays]
 refine plan_oi (i := 5) (oi := ⟨some 17, .call { callee := .builtin .len, args := #[.tmp 16], argTypes := #[28] }, 3, "signed.go:44", #[⟨4, .data⟩, ⟨2, .guard⟩], some (2, false)⟩) rfl (by kernel_rfl) (by kernel_rfl) ?_
 first | (refine ⟨?_, (fx_read (Or.inl ⟨by rfl, ?hy5⟩)), ?_⟩; case hy5 => (intro W hSW; have c1 := HC.out W hSW; go_simp <;> with_reducible rfl)) | (refine ⟨undef, fx_skip (by rfl), ?_⟩)
 try simp only [lays]
 refine plan_oi (i := 6) (oi := ⟨some 18, .call { callee := .value (.func 72), args := #[.const (.int .i64 2)], argTypes := #[3] }, 3, "signed.go:44", #[⟨2, .chain⟩, ⟨2, .guard⟩], some (2, false)⟩) rfl (by kernel_rfl) (by kernel_rfl) ?_
 first | (refine ⟨?_, (fx_call (by rfl) (fun W hSW K hK => ?hy6)), ?_⟩; case hy6 => (go_simp; go_at_call 72; (with_reducible refine (size2_any W).mono ?_); rintro e wz ⟨rfl, rfl⟩; exact hK.out _ (hSW))) | (refine ⟨undef, fx_skip (by rfl), ?_⟩)
 try simp only [lays]
 refine plan_oi (i := 7) (oi := ⟨some 19, .binOp .neq 3 (.tmp 17) (.tmp 18) 3, 4, "signed.go:44", #[⟨5, .data⟩, ⟨6, .data⟩, ⟨2, .guard⟩], some (2, false)⟩) rfl (by kernel_rfl) (by kernel_rfl) ?_
 first | (refine ⟨?_, (fx_read (Or.inl ⟨by rfl, ?hy7⟩)), ?_⟩; case hy7 => (intro W hSW; go_simp <;> with_reducible rfl)) | (refine ⟨undef, fx_skip (by rfl), ?_⟩)
 try simp only [lays]
 (refine pr 8 (oi := ⟨some 20, .pick (.tmp 14) (.const (.bool true)) (.tmp 19), 4, "signed.go:44", #[⟨2, .data⟩, ⟨7, .data⟩], none⟩) (v := ?_) rfl (by kernel_rfl) (by rfl) ?h ?_; case h => (intro W hSW; go_simp <;> with_reducible rfl))
 try simp only [lays]
 refine Plan.done (by kernel_rfl) (fun W hSW => ?_)
 have HX2 := Lib.hid (HX.out.trans hSW)
 clear hSW
 go_wp2_with fail
 go_ret2
 exact ⟨rfl, HX2.out⟩
theorem sgEnc_yes (S : SgR) (w : World) (hS : S.ok w) (h : vldVt S.v = true) (hn : S.n = 370) : Calls Tryz.prog 38 #[.agg (sgA S)] w fun e w' => ∃ A' c', e = .returned (.tuple #[.slice A' 393 c', .bool true]) ∧ OwnB w' w.heap.size 5 A' 393 c' (encSg S) ∧ Ext w w' := by
 have HE := Lib.hid ((Ext.refl w).alloc' (.cells (sgA S) 48))
 have HB := Lib.hid (Blk.new w 48 (sgA S))
 obtain ⟨W0, hW0⟩ : ∃ W0, w.alloc (.cells (sgA S) 48) = W0 := ⟨_, rfl⟩
 rw [hW0] at HE HB
 have HS := Lib.hid (hS.ext HE.out)
 have hr := sg_vote HB.out
 clear hS
 have hl : (S.n : Int) ≤ 9223372036854775807 := by have := HS.out.sig.le; have := HS.out.sig.cap; omega
 have hn1 : ((S.n : Int) != 370) = false := by simp; omega
 go_enter Tryz.func38, Tryz.ntmps38
 go_wp2_with (first | (with_reducible refine wpList_loadVt rfl (.tmp 7) rfl w.heap.size 0 rfl S.v hr ?_))
 refine (voteEnc_yes S.v h W0).mono ?_
 rintro e w1 ⟨A1, c1, rfl, hO1, he1⟩
 have HX := Lib.hid (HE.out.trans he1)
 have HB1 := Lib.hid (HB.out.ext he1)
 have HS1 := Lib.hid (HS.out.ext he1)
 have HO1 := Lib.hid hO1
 have HL1 := Lib.hid he1.size
 have HC := Lib.hid (fun (W : World) (hx : Ext w1 W) => show W.cell? ⟨w.heap.size, 22, none⟩ = some (.slice S.A S.n S.c) from (HB1.out.ext hx).cell 22)
 clear he1 hr h hO1
 go_wp2_with fail
 refine wp_region_plan (S := fun W => Ext w1 W) (by kernel_rfl) (by kernel_rfl) ((Ext.refl w1).drew') ?_
 (refine pr 0 (oi := ⟨some 12, .move (.tmp 5), 4, "signed.go:44", #[], none⟩) (v := ?_) rfl (by kernel_rfl) (by rfl) ?h ?_; case h => (intro W hSW; go_simp <;> with_reducible rfl))
 try simp only [lays]
 (refine pr 1 (oi := ⟨some 13, .unOp .not 4 (.tmp 12), 4, "signed.go:44", #[⟨0, .data⟩], none⟩) (v := ?_) rfl (by kernel_rfl) (by rfl) ?h ?_; case h => (intro W hSW; go_simp <;> with_reducible rfl))
 try simp only [lays]
 (refine pr 2 (oi := ⟨some 14, .move (.tmp 13), 4, "signed.go:44", #[⟨1, .data⟩], none⟩) (v := ?_) rfl (by kernel_rfl) (by rfl) ?h ?_; case h => (intro W hSW; go_simp <;> with_reducible rfl))
 try simp only [lays]
 refine plan_oi (i := 3) (oi := ⟨some 15, .fieldAddr 48 (.tmp 1) 1, 0, "signed.go:44", #[⟨2, .guard⟩], some (2, false)⟩) rfl (by kernel_rfl) (by kernel_rfl) ?_
 first | (refine ⟨?_, (fx_read (Or.inl ⟨by rfl, ?hy3⟩)), ?_⟩; case hy3 => (intro W hSW; go_simp <;> with_reducible rfl)) | (refine ⟨undef, fx_skip (by rfl), ?_⟩)
 try simp only [lays]
 refine plan_oi (i := 4) (oi := ⟨some 16, .load 28 (.tmp 15), 28, "signed.go:44", #[⟨3, .data⟩, ⟨2, .guard⟩], some (2, false)⟩) rfl (by kernel_rfl) (by kernel_rfl) ?_
 first | (refine ⟨?_, (fx_read (Or.inl ⟨by rfl, ?hy4⟩)), ?_⟩; case hy4 => (intro W hSW; have c1 := HC.out W hSW; go_simp <;> with_reducible rfl)) | (refine ⟨undef, fx_skip (by rfl), ?_⟩)
 try simp only [lays]
 refine plan_oi (i := 5) (oi := ⟨some 17, .call { callee := .builtin .len, args := #[.tmp 16], argTypes := #[28] }, 3, "signed.go:44", #[⟨4, .data⟩, ⟨2, .guard⟩], some (2, false)⟩) rfl (by kernel_rfl) (by kernel_rfl) ?_
 first | (refine ⟨?_, (fx_read (Or.inl ⟨by rfl, ?hy5⟩)), ?_⟩; case hy5 => (intro W hSW; have c1 := HC.out W hSW; go_simp <;> with_reducible rfl)) | (refine ⟨undef, fx_skip (by rfl), ?_⟩)
 try simp only [lays]
 refine plan_oi (i := 6) (oi := ⟨some 18, .call { callee := .value (.func 72), args := #[.const (.int .i64 2)], argTypes := #[3] }, 3, "signed.go:44", #[⟨2, .chain⟩, ⟨2, .guard⟩], some (2, false)⟩) rfl (by kernel_rfl) (by kernel_rfl) ?_
 first | (refine ⟨?_, (fx_call (by rfl) (fun W hSW K hK => ?hy6)), ?_⟩; case hy6 => (go_simp; go_at_call 72; (with_reducible refine (size2_any W).mono ?_); rintro e wz ⟨rfl, rfl⟩; exact hK.out _ (hSW))) | (refine ⟨undef, fx_skip (by rfl), ?_⟩)
 try simp only [lays]
 refine plan_oi (i := 7) (oi := ⟨some 19, .binOp .neq 3 (.tmp 17) (.tmp 18) 3, 4, "signed.go:44", #[⟨5, .data⟩, ⟨6, .data⟩, ⟨2, .guard⟩], some (2, false)⟩) rfl (by kernel_rfl) (by kernel_rfl) ?_
 first | (refine ⟨?_, (fx_read (Or.inl ⟨by rfl, ?hy7⟩)), ?_⟩; case hy7 => (intro W hSW; go_simp <;> with_reducible rfl)) | (refine ⟨undef, fx_skip (by rfl), ?_⟩)
 try simp only [lays]
 (refine pr 8 (oi := ⟨some 20, .pick (.tmp 14) (.const (.bool true)) (.tmp 19), 4, "signed.go:44", #[⟨2, .data⟩, ⟨7, .data⟩], none⟩) (v := ?_) rfl (by kernel_rfl) (by rfl) ?h ?_; case h => (intro W hSW; go_simp <;> with_reducible rfl))
 try simp only [lays]
 refine Plan.done (by kernel_rfl) (fun W hSW => ?_)
 have HX2 := Lib.hid (HX.out.trans hSW)
 have HO2 := Lib.hid (HO1.out.ext hSW)
 have HS2 := Lib.hid (HS1.out.ext hSW)
 have c2 := HC.out W hSW
 have HL2 := Lib.hid (Nat.le_trans HL1.out hSW.size)
 have HN := Lib.hid hn
 have HE2 := Lib.hid (HE.out)
 rw [hn] at c2
 clear hSW hn
 go_wp2_with (at_builtin; go_must (refine wpList_appB bytesE rfl (.tmp 21) (.tmp 23) rfl W0.heap.size _ _ _ _ rfl HO2.out _ 370 S.c S.sig rfl ?r1 (by omega) HL2.out W (Below.refl _ _) ?_))
 case r1 => have := HS2.out.sig; rwa [HN.out] at this
 intro A3 c3 w3 ho3 hw3 hs3
 have HF := Lib.hid (show OwnB w3 w.heap.size 5 A3 393 c3 (encSg S) from own_mono ho3 HE.out.size)
 have HG := Lib.hid (Below.trans HX2.out (Below.mono hw3 HE.out.size) : Ext w w3)
 clear ho3 hw3 hs3
 go_wp2_with fail
 go_ret2
 exact ⟨A3, c3, rfl, HF.out, HG.out⟩
end Go.Proofs.YtbfepgjeecndiaaGreat
