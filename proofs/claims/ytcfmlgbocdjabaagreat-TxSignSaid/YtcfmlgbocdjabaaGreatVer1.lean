/- names (the program's), list and Uint (the reference's): names that stand in bytes. -/
import Derived.Test.YtcfmlgbocdjabaaGreatMrk
import Derived.Test.YtcfmlgbocdjabaaGreatCod
namespace Go.Proofs.YtcfmlgbocdjabaaGreat
open Go.RowKit
set_option linter.unusedVariables false
set_option linter.unusedSimpArgs false

/-- the name that stands at place i behind an offset -/
def nmAt (l : List UInt8) (at_ i : Nat) : UInt64 := ofNm ((l.drop (at_ + i * 8)).take 8)
def namesU (l : List UInt8) (at_ n : Nat) : List UInt64 := (List.range n).map (nmAt l at_)
theorem namesU_length (l : List UInt8) (at_ n : Nat) : (namesU l at_ n).length = n := by simp [namesU]
theorem nmb_nmAt (l : List UInt8) (at_ i : Nat) (h : at_ + i * 8 + 8 ≤ l.length) : nmb (nmAt l at_ i) = (l.drop (at_ + i * 8)).take 8 := nmb_ofNm _ (by simp; omega)
theorem hmkN (n : Nat) (hn : n ≤ 1000) (F : Nat → UInt64) (w : World) : (Instr.makeSlice 63 (.int .i64 (n : Int)) (.int .i64 (n : Int))).run Tryz.prog w = .ok (.slice (some ⟨w.heap.size, 0, none⟩) n n) (w.alloc (.cells (ncs (tabN F n 0)).toArray 23)) := by
  obtain ⟨i, hi, hz, hs, hby⟩ := namesE.get
  have h := run_make (P := Tryz.prog) w 63 23 i (.agg zcs.toArray) namesE.ut hi hz .i64 .i64 n n (by omega) (by omega) (by rw [hby]; omega) (by omega)
  rw [hs, show (n : Int).toNat * 8 = n * 8 from by rw [Int.toNat_natCast], made_names] at h
  simpa [tabN] using h
theorem splice_name (ns : List UInt64) (k : Nat) (n : UInt64) (hk : k < ns.length) : splice (ncs ns) (k * 8) (bcs (nmb n)) = ncs (ns.set k n) := by
  have hs : ns.set k n = ns.take k ++ n :: ns.drop (k + 1) := by rw [List.set_eq_take_append_cons_drop, if_pos hk]
  unfold splice
  rw [bcs_length, nmb_length, ncs_take, show k * 8 + 8 = (k + 1) * 8 from by omega, ncs_drop, hs, ncs_append, ncs_cons]
set_option maxRecDepth 100000 in
set_option maxHeartbeats 1000000 in
theorem names_any (A : Option Addr) (len c : Nat) (l : List UInt8) (at_ n : Nat) (w : World) (h : SlB w A len c l) (hn : n ≤ 1000) (hf : at_ + n * 8 ≤ len) (hat : at_ ≤ 1000) :
    Calls Tryz.prog 118 #[.slice A len c, .int .i64 (at_ : Int), .int .i64 (n : Int)] w fun e w' => ∃ g, e = .returned (.slice (some ⟨g, 0, none⟩) n n) ∧ SlN w' (some ⟨g, 0, none⟩) n n (namesU l at_ n) ∧ Ext w w' := by
  have hmk := hmkN n hn (nmAt l at_)
  have hle := h.le
  have hcap := h.cap
  have hlen := h.len
  have HS := Lib.hid h
  clear h
  go_enter Tryz.func118, Tryz.ntmps118
  go_wp2_with fail
  go_loopw [13] (fun i wr => ∃ (k : Nat), k ≤ n ∧ i = .int .i64 (k : Int) ∧ Blk wr w.heap.size 23 (ncs (tabN (nmAt l at_) n k)).toArray ∧ Ext w wr) (fun i _ => n - (intOf i).toNat)
  case atStart => exact ⟨0, by omega, rfl, Blk.new _ _ _, (Ext.refl w).alloc' _⟩
  case round =>
    obtain ⟨k, hk, rfl, hT, hE⟩ := hrel
    by_cases hlt : k < n
    · have HT := Lib.hid hT
      have HE := Lib.hid hE
      obtain ⟨b, o, rfl, hra, hbl⟩ := (HS.out.ext hE).at (by omega)
      have j0 : (0 : Int) ≤ (k : Int) := by omega
      have j1 : (k : Int) < (n : Int) := by omega
      have e1 : IntKind.i64.wrap ((k : Int) * 8) = (k : Int) * 8 := IntWalk.i64_in _ (by omega)
      have e2 : IntKind.i64.wrap ((at_ : Int) + (k : Int) * 8) = (at_ : Int) + (k : Int) * 8 := IntWalk.i64_in _ (by omega)
      have e3 : (0 : Int) ≤ (at_ : Int) + (k : Int) * 8 := by omega
      have e4 : ((at_ : Int) + (k : Int) * 8).toNat = at_ + k * 8 := by omega
      have e5 : (at_ : Int) + (k : Int) * 8 ≤ (len : Int) := by omega
      have e6 : ¬ c = at_ + k * 8 := by omega
      have hsrc := Lib.hid (show wr.drew.rangeAt b (o + (at_ + k * 8)) (bcs (nmb (nmAt l at_ k))) from by
        rw [nmb_nmAt l at_ k (by omega)]
        have := rangeAt_take (rangeAt_drop hra (k := at_ + k * 8)) (k := 8)
        simpa [bcs, List.map_take, List.map_drop] using this)
      have HPS := Lib.hid (show ∀ j v, (bcs (nmb (nmAt l at_ k)))[j]? = some v → wr.drew.cell? ((⟨b, o + (at_ + k * 8), none⟩ : Addr).add j) = some v from fun j v hv => by rw [Addr.add_mid]; exact hsrc.out j v hv)
      clear hT hE hra
      go_wp2_with fail
      have HN := Lib.hid (show (bcs (nmb (nmAt l at_ k))).length = Nat.min (len - (at_ + k * 8)) 8 from by rw [bcs_length, nmb_length]; exact (Nat.min_eq_right (by omega)).symm)
      have HFT := Lib.hid (show k * 8 + (bcs (nmb (nmAt l at_ k))).length ≤ (ncs (tabN (nmAt l at_) n k)).length from by rw [bcs_length, nmb_length, ncs_length, tabN_length _ _ _ hk]; omega)
      have HSP := Lib.hid (show splice (ncs (tabN (nmAt l at_) n k)) (k * 8) (bcs (nmb (nmAt l at_ k))) = ncs (tabN (nmAt l at_) n (k + 1)) from by rw [splice_name _ _ _ (by rw [tabN_length _ _ _ hk]; exact hlt), tabN_set _ _ _ hlt])
      go_region_law ((refine step_copy_splice rfl (.tmp 19) (.tmp 25) 29 29 rfl 5 Tryz.underlying29 (by kernel_rfl) (some ⟨w.heap.size, k * 8, none⟩) (some ⟨b, o + (at_ + k * 8), none⟩) 8 8 (len - (at_ + k * 8)) (c - (at_ + k * 8)) ?q1 ?q2 w.heap.size (k * 8) (ncs (tabN (nmAt l at_) n k)) 23 HT.out (bcs (nmb (nmAt l at_ k))) HN.out (fun _ => ⟨rfl, _, rfl, HPS.out⟩) HFT.out (bcs_one _) w.heap.size w HE.out.drew' (Nat.le_refl _) ?q9; (case q1 => go_simp); (case q2 => go_simp); intro w1 hg1 hE1))
      go_wp2_with fail
      go_roundw
      case rel => exact ⟨k + 1, by omega, by go_num, by rw [← HSP.out]; exact hg1.out, hE1⟩
      case measure => simp [intOf]; omega
    · obtain rfl : k = n := by omega
      rw [tabN_full] at hT
      have hsl : SlN wr (some ⟨w.heap.size, 0, none⟩) k k (namesU l at_ k) := SlN.of_blk hT (namesU_length l at_ k) (by omega)
      go_wp2_with fail
      go_ret
      exact ⟨_, rfl, hsl, hE⟩
set_option maxRecDepth 100000 in
set_option maxHeartbeats 1000000 in
theorem refUint_yes (A : Option Addr) (n c : Nat) (l : List UInt8) (at_ width : Nat) (w : World) (h : SlB w A n c l) (h1 : 1 ≤ width) (h8 : width ≤ 8) (hf : at_ + width ≤ n) (hn : n ≤ 140737488355328) :
    Calls Tryz.prog 122 #[.slice A n c, .int .i64 (at_ : Int), .int .i64 (width : Int)] w fun e w' => e = .returned (.tuple #[.int .u64 (numAt l at_ width : Int), .bool true]) ∧ w = w' := by
  have hle := h.le
  have hcap := h.cap
  have hlen := h.len
  have e1 : decide ((width : Int) < 1) = false := decide_eq_false (by omega)
  have e2 : decide ((8 : Int) < (width : Int)) = false := decide_eq_false (by omega)
  have e3 : decide ((at_ : Int) < 0) = false := decide_eq_false (by omega)
  have e4 : decide ((n : Int) - (width : Int) < (at_ : Int)) = false := decide_eq_false (by omega)
  have e5 : (0 : Int) ≤ (at_ : Int) := by omega
  obtain ⟨b, o, rfl, hra, hbl⟩ := h.at (by omega)
  go_enter Tryz.func122, Tryz.ntmps122
  go_wp2_with fail
  go_loop [8, 9] (fun v i => ∃ k : Nat, k ≤ width ∧ i = .int .i64 (k : Int) ∧ v = .int .u64 ((numAt l at_ k : Nat) : Int)) (fun _ i => width - (intOf i).toNat)
  case atStart => exact ⟨0, by omega, rfl, by simp [numAt, beNat]⟩
  case round =>
    obtain ⟨k, hk, rfl, rfl⟩ := hrel
    by_cases hlt : k < width
    · have hcell := byte_at hra (at_ + k) (by omega)
      rw [← Nat.add_assoc] at hcell
      have hd : (l.drop at_)[k]'(by simp; omega) = l[at_ + k]'(by omega) := by simp
      have HS := Lib.hid (show numAt l at_ (k + 1) = numAt l at_ k * 256 + (l[at_ + k]'(by omega)).toNat by unfold numAt; rw [take_at _ _ (by simp; omega), beNat_snoc, hd])
      have hor := or_byte' (numAt l at_ k) (l[at_ + k]'(by omega)) (pow_le7 _ k (beNat_take_lt _ _ (by simp; omega)) (by omega))
      clear hd
      generalize numAt l at_ k = a at *
      generalize (l[at_ + k]'(by omega)) = x at *
      have hcell' : w.cell? ⟨b, o + (at_ + k), none⟩ = some (.int .u8 (x.toNat : Int)) := by rw [← Nat.add_assoc]; exact hcell
      have i1 : (at_ : Int) + (k : Int) < (n : Int) := by omega
      have i2 : (0 : Int) ≤ (at_ : Int) + (k : Int) := by omega
      go_wp2_with fail
      go_round
      case rel => exact ⟨k + 1, by omega, by go_num, by rw [HS.out]; go_num⟩
      case measure => simp [intOf]; omega
    · obtain rfl : k = width := by omega
      go_wp2_with fail
      go_ret2
      exact ⟨rfl, rfl⟩
end Go.Proofs.YtcfmlgbocdjabaaGreat
/- climbed: the root that a part of a signature shows. -/
namespace Go.Proofs.YtcfmlgbocdjabaaGreat
open Go.RowKit
set_option linter.unusedVariables false
set_option linter.unusedSimpArgs false

theorem names18 (A : Option Addr) (len c : Nat) (l : List UInt8) (at_ : Nat) (w : World) (h : SlB w A len c l) (hf : at_ + 144 ≤ len) (hat : at_ ≤ 1000) :
    Calls Tryz.prog 118 #[.slice A len c, .int .i64 (at_ : Int), .int .i64 18] w fun e w' => ∃ g, e = .returned (.slice (some ⟨g, 0, none⟩) 18 18) ∧ SlN w' (some ⟨g, 0, none⟩) 18 18 (namesU l at_ 18) ∧ Ext w w' :=
  names_any A len c l at_ 18 w h (by omega) (by omega) hat
theorem names5 (A : Option Addr) (len c : Nat) (l : List UInt8) (at_ : Nat) (z : Int) (hz : z = (at_ : Int)) (w : World) (h : SlB w A len c l) (hf : at_ + 40 ≤ len) (hat : at_ ≤ 1000) :
    Calls Tryz.prog 118 #[.slice A len c, .int .i64 z, .int .i64 5] w fun e w' => ∃ g, e = .returned (.slice (some ⟨g, 0, none⟩) 5 5) ∧ SlN w' (some ⟨g, 0, none⟩) 5 5 (namesU l at_ 5) ∧ Ext w w' := by
  subst hz; exact names_any A len c l at_ 5 w h (by omega) (by omega) hat
theorem stN {w0 w2 : World} {g : Nat} (hX : Ext w0 w2) (hq : Blk w2 g 23 zcs.toArray) (hg : w0.heap.size ≤ g) (r : UInt64) : Ext w0 (w2.setCells g 0 (nmc r).toList) := Below.setCells' hX hg _ _
theorem pack9 {w0 cur : World} {g : Nat} {r : UInt64} (hX : Ext w0 cur) (hb : Blk cur g 23 (nmc r)) : ∃ W1 g1, W1 = cur ∧ g1 = g ∧ Ext w0 W1 ∧ Blk W1 g1 23 (nmc r) := ⟨_, _, rfl, rfl, hX, hb⟩
theorem follow32 (leaf : UInt64) (j : Nat) (A : Option Addr) (c : Nat) (ns : List UInt64) (w : World) (hd : depU j 32 = 5) (hj : j < 32) (h : SlN w A 5 c ns) :
    Calls Tryz.prog 119 #[.agg (nmc leaf), .int .i64 (j : Int), .int .i64 32, .slice A 5 c] w fun e w' => e = .returned (.tuple #[.agg (nmc (compU leaf j 32 ns)), .bool true]) ∧ Ext w w' :=
  follow_yes leaf 32 j 5 A c ns w (by omega) hj hd.symm h
def climbU (l : List UInt8) (at_ j : Nat) (m : UInt64) : UInt64 := compU (oneRec m (namesU l at_ 18)) j 32 (namesU l (at_ + 144) 5)
theorem dep_step (n d : Nat) (hn : 1 ≤ n) (hs : spl (2 * n) = n) (ih : ∀ j, j < n → depU j n = d) : ∀ j, j < 2 * n → depU j (2 * n) = d + 1 := by
  intro j hj
  by_cases hlt : j < n
  · rw [depU_low _ _ (by omega) (by rw [hs]; exact hlt), hs, ih j hlt]
  · rw [depU_high _ _ (by omega) (by rw [hs]; exact hlt), hs, show 2 * n - n = n from by omega, ih (j - n) (by omega)]
theorem dep32 (j : Nat) (h : j < 32) : depU j 32 = 5 :=
  dep_step 16 4 (by omega) (by decide) (dep_step 8 3 (by omega) (by decide) (dep_step 4 2 (by omega) (by decide) (dep_step 2 1 (by omega) (by decide) (dep_step 1 0 (by omega) (by decide) (fun j _ => depU_short _ _ (by decide)))))) j h
set_option maxRecDepth 100000 in
set_option maxHeartbeats 2000000 in
theorem climbed_any (A : Option Addr) (len c : Nat) (l : List UInt8) (at_ j : Nat) (m : UInt64) (w : World) (h : SlB w A len c l) (hf : at_ + 184 ≤ len) (hat : at_ ≤ 500) (hj : j < 32) :
    Calls Tryz.prog 75 #[.slice A len c, .int .i64 (at_ : Int), .int .i64 (j : Int), .agg (nmc m)] w fun e w' => e = .returned (.agg (nmc (climbU l at_ j m))) ∧ Ext w w' := by
  have hle := h.le
  have hcap := h.cap
  have hE0 : Ext w ((w.alloc (.cells (nmc m) 23)).alloc (.cells zcs.toArray 23)).drew := (((Ext.refl w).alloc' _).alloc' _).drew'
  have hbm : Blk ((w.alloc (.cells (nmc m) 23)).alloc (.cells zcs.toArray 23)).drew w.heap.size 23 (nmc m) := ((Blk.new w _ _).alloc _).drew
  have hbz : Blk ((w.alloc (.cells (nmc m) 23)).alloc (.cells zcs.toArray 23)).drew (w.heap.size + 1) 23 zcs.toArray := (Blk.newAt _ _ _ _ (by simp)).drew
  have HW0 := Lib.hid (show w.heap.size + 2 ≤ ((w.alloc (.cells (nmc m) 23)).alloc (.cells zcs.toArray 23)).heap.size from by simp)
  have HSL := Lib.hid h
  have hu := Tryz.underlying23
  have hi := size61b m
  clear h
  go_enter Tryz.func75, Tryz.ntmps75
  go_wp2_with fail
  generalize (w.alloc (.cells (nmc m) 23)).alloc (.cells zcs.toArray 23) = W0 at *
  have HE0 := Lib.hid hE0
  have HBM := Lib.hid hbm
  have HBZ := Lib.hid hbz
  have HSS := Lib.hid (fun (w' : World) (hx : Ext W0.drew w') => cells8 (hbm.ext hx))
  clear hE0 hbm hbz
  have hX := Ext.refl W0.drew
  have HAD := Lib.hid (fun (o : Obj) => (show Ext W0.drew (W0.alloc o).drew from ((Ext.refl W0.drew).alloc' o : Ext W0.drew (W0.drew.alloc o))))
  have HD5 := Lib.hid (dep32 j hj)
  have HAT := Lib.hid (show (at_ : Int) + 144 = ((at_ + 144 : Nat) : Int) by omega)
  have H40 := Lib.hid (show at_ + 144 + 40 ≤ len by omega)
  have H1000b := Lib.hid (show at_ + 144 ≤ 1000 by omega)
  have H18 := Lib.hid (show at_ + 144 ≤ len by omega)
  have H1000 := Lib.hid (show at_ ≤ 1000 by omega)
  have HSZ := Lib.hid (show w.heap.size + 2 ≤ W0.heap.size from HW0.out)
  go_region_held3 (fun w' => (∀ i, i < 8 → w'.cell? ⟨w.heap.size, i, none⟩ = some (.int .u8 (nb8 m i)))) (first | (with_reducible exact HSS.out _ hX) | (with_reducible exact HSS.out _ (HAD.out _)) | (with_reducible exact HSS.out _ (hX.alloc' _)) | (with_reducible exact HSS.out _ HW9.out)) (first | (go_at_call 118; first | ((with_reducible refine (names18 A len c l at_ _ (HSL.out.ext (HE0.out.trans hX)) H18.out H1000.out).mono ?_); rintro e w1 ⟨g1, rfl, hsl1, he1⟩; have hX := hX.trans he1) | ((with_reducible refine (names18 A len c l at_ _ (HSL.out.ext (HE0.out.trans (HAD.out _))) H18.out H1000.out).mono ?_); rintro e w1 ⟨g1, rfl, hsl1, he1⟩; have hq := (Blk.new W0 23 zcs.toArray).drew.ext he1; have hX := (HAD.out _).trans he1)) | (go_at_call 117; first | ((with_reducible refine (recover_any m _ _ _ _ hsl1).mono ?_); rintro e w2 ⟨rfl, he2⟩; have hX := hX.trans he2; first | (have hq2 := hq.ext he2; have hst := run_storeN hq2 (oneRec m (namesU l at_ 18)); have HW9 := Lib.hid (stN hX hq2 (Nat.le_refl _) (oneRec m (namesU l at_ 18)))) | (have hst := run_storeNewN w2 w2.heap.size rfl (oneRec m (namesU l at_ 18)); have HW9 := Lib.hid (hX.alloc' (.cells (nmc (oneRec m (namesU l at_ 18))) 23)))) | ((with_reducible refine (recover_any m _ _ _ _ (hsl1.ext ((Ext.refl _).alloc' _))).mono ?_); rintro e w2 ⟨rfl, he2⟩; have hq2 := (Blk.new w1 23 zcs.toArray).ext he2; have HG2 := Lib.hid hX.size; have hX := (hX.alloc' _).trans he2; have hst := run_storeN hq2 (oneRec m (namesU l at_ 18)); have HW9 := Lib.hid (stN hX hq2 HG2.out (oneRec m (namesU l at_ 18))))))
  all_goals
    obtain ⟨W1, g9, hW, hg, hX1, hb1⟩ : ∃ W1 g1, W1 = _ ∧ g1 = _ ∧ Ext W0.drew W1 ∧ Blk W1 g1 23 (nmc (oneRec m (namesU l at_ 18))) := by first | exact pack9 HW9.out (blkN hq2 (oneRec m (namesU l at_ 18))) | exact pack9 HW9.out (Blk.new w2 23 (nmc (oneRec m (namesU l at_ 18))))
    rw [← hW, ← hg]
    clear hX HW9 hst
    (try clear hq2)
    (try clear hq)
    clear he2 hsl1 he1
    have HX1 := Lib.hid hX1
    have HB1 := Lib.hid hb1
    clear hX1 hb1 hW hg
    go_wp2_with fail
    have HSS1 := Lib.hid (fun (w' : World) (hx : Ext W1.drew w') => cells8 (HB1.out.drew.ext hx))
    have hX := Ext.refl W1.drew
    have HE1 := Lib.hid (show Ext w W1.drew from (HE0.out.trans HX1.out).drew')
    have HAD1 := Lib.hid (fun (o : Obj) => (show Ext W1.drew (W1.alloc o).drew from ((Ext.refl W1.drew).alloc' o : Ext W1.drew (W1.drew.alloc o))))
    have a1 : IntKind.i64.wrap ((at_ : Int) + 144) = (at_ : Int) + 144 := IntWalk.i64_in _ (by omega)
    go_region_held3 (fun w' => (∀ i, i < 8 → w'.cell? ⟨g9, i, none⟩ = some (.int .u8 (nb8 (oneRec m (namesU l at_ 18)) i)))) (first | (with_reducible exact HSS1.out _ hX) | (with_reducible exact HSS1.out _ (HAD1.out _)) | (with_reducible exact HSS1.out _ (hX.alloc' _)) | (with_reducible exact HSS1.out _ HW9.out)) (first | (go_at_call 118; first | ((with_reducible refine (names5 A len c l (at_ + 144) _ HAT.out _ (HSL.out.ext (HE1.out.trans hX)) H40.out H1000b.out).mono ?_); rintro e w1 ⟨g1, rfl, hsl1, he1⟩; have hX := hX.trans he1) | ((with_reducible refine (names5 A len c l (at_ + 144) _ HAT.out _ (HSL.out.ext (HE1.out.trans (HAD1.out _))) H40.out H1000b.out).mono ?_); rintro e w1 ⟨g1, rfl, hsl1, he1⟩; have hq := (Blk.new W1 23 zcs.toArray).drew.ext he1; have hX := (HAD1.out _).trans he1)) | (go_at_call 119; first | ((with_reducible refine (follow32 (oneRec m (namesU l at_ 18)) j _ _ _ _ HD5.out hj hsl1).mono ?_); rintro e w2 ⟨rfl, he2⟩; have hX := hX.trans he2; first | (have hq2 := hq.ext he2; have hst := run_storeN hq2 (compU (oneRec m (namesU l at_ 18)) j 32 (namesU l (at_ + 144) 5)); have HW9 := Lib.hid (stN hX hq2 (Nat.le_refl _) (compU (oneRec m (namesU l at_ 18)) j 32 (namesU l (at_ + 144) 5)))) | (have hst := run_storeNewN w2 w2.heap.size rfl (compU (oneRec m (namesU l at_ 18)) j 32 (namesU l (at_ + 144) 5)); have HW9 := Lib.hid (hX.alloc' (.cells (nmc (compU (oneRec m (namesU l at_ 18)) j 32 (namesU l (at_ + 144) 5))) 23)))) | ((with_reducible refine (follow32 (oneRec m (namesU l at_ 18)) j _ _ _ _ HD5.out hj (hsl1.ext ((Ext.refl _).alloc' _))).mono ?_); rintro e w2 ⟨rfl, he2⟩; have hq2 := (Blk.new w1 23 zcs.toArray).ext he2; have HG2 := Lib.hid hX.size; have hX := (hX.alloc' _).trans he2; have hst := run_storeN hq2 (compU (oneRec m (namesU l at_ 18)) j 32 (namesU l (at_ + 144) 5)); have HW9 := Lib.hid (stN hX hq2 HG2.out (compU (oneRec m (namesU l at_ 18)) j 32 (namesU l (at_ + 144) 5))))))
  all_goals
    obtain ⟨W2, g8, hW, hg, hX2, hb2⟩ : ∃ W2 g1, W2 = _ ∧ g1 = _ ∧ Ext W1.drew W2 ∧ Blk W2 g1 23 (nmc (compU (oneRec m (namesU l at_ 18)) j 32 (namesU l (at_ + 144) 5))) := by first | exact pack9 HW9.out (blkN hq2 (compU (oneRec m (namesU l at_ 18)) j 32 (namesU l (at_ + 144) 5))) | exact pack9 HW9.out (Blk.new w2 23 (nmc (compU (oneRec m (namesU l at_ 18)) j 32 (namesU l (at_ + 144) 5))))
    rw [← hW, ← hg]
    clear hX HW9 hst
    (try clear hq2)
    (try clear hq)
    clear he2 hsl1 he1
    have hz2 := (HBZ.out.ext HX1.out).drew.ext hX2
    have HE2 := Lib.hid (HE1.out.trans hX2)
    have hr8 := rangeN hb2
    clear hW hg
    go_wp2_with (first | (with_reducible refine wpList_loadN rfl (.tmp 11) rfl g8 0 rfl (compU (oneRec m (namesU l at_ 18)) j 32 (namesU l (at_ + 144) 5)) hr8 ?_) | (with_reducible refine wpList_storeN rfl _ _ rfl (w.heap.size + 1) 0 _ rfl rfl (thereZ hz2) ?_))
    refine bodyPost_ret (v := .agg (nmc (compU (oneRec m (namesU l at_ 18)) j 32 (namesU l (at_ + 144) 5)))) (retN rfl _ _ (w.heap.size + 1) _ rfl (blkN hz2 _)) rfl ⟨rfl, Below.setCells' HE2.out (by omega) _ _⟩
end Go.Proofs.YtcfmlgbocdjabaaGreat
