/- The bytes of votes and of signed votes (the reference's Encode). -/
import Derived.Test.YtbfepgjeecndiaaGreatJ29
namespace Go.Proofs.YtbfepgjeecndiaaGreat
set_option maxRecDepth 100000
set_option maxHeartbeats 8000000
open Go.RowKit
set_option linter.unusedVariables false
set_option linter.unusedSimpArgs false
attribute [local go_sem ↓] Go.wp_at_zero Go.wp_at_succ
theorem own_lit7 (w : World) (base : Nat) (e : TypeId) (z0 z1 z2 z3 z4 z5 z6 : Int) (b0 b1 b2 b3 b4 b5 b6 : UInt8) (g : Nat) (hg : w.heap.size = g) (hb : base ≤ g) (h0 : z0 = (b0.toNat : Int)) (h1 : z1 = (b1.toNat : Int)) (h2 : z2 = (b2.toNat : Int)) (h3 : z3 = (b3.toNat : Int)) (h4 : z4 = (b4.toNat : Int)) (h5 : z5 = (b5.toNat : Int)) (h6 : z6 = (b6.toNat : Int)) : OwnB (w.alloc (.cells #[.int .u8 z0, .int .u8 z1, .int .u8 z2, .int .u8 z3, .int .u8 z4, .int .u8 z5, .int .u8 z6] e)) base e (some ⟨g, 0, none⟩) 7 7 [b0, b1, b2, b3, b4, b5, b6] := by
 subst hg; subst h0; subst h1; subst h2; subst h3; subst h4; subst h5; subst h6
 exact own_cells (heap_alloc_new w _) hb rfl (Nat.le_refl _) (by omega) rfl rfl
theorem beI_two {z : Int} (h0 : 0 ≤ z) (h1 : z < 65536) : beI 2 z = [toB (z / 256), toB z] := by
 have hb : ∀ a b : UInt8, ((beNat [a, b] : Nat) : Int) = (a.toNat : Int) * 256 + (b.toNat : Int) := fun a b => by simp [beNat]
 have e1 := beI_2 h0 (by omega)
 have hl := beI_length 2 z
 match hm : beI 2 z, hl with
 | [a, b], _ =>
  rw [hm, hb] at e1
  have ha := a.toNat_lt
  have hbb := b.toNat_lt
  have t1 : (toB (z / 256)).toNat = a.toNat := by have := toB_toNat (z := z / 256) (by omega) (by omega); omega
  have t2 : (toB z).toNat = b.toNat := by have h := toB_eq z; omega
  rw [UInt8.toNat_inj.1 t1, UInt8.toNat_inj.1 t2]
theorem rVtEnc_no (v : VtR) (h : vldVt v = false) (w : World) : Calls Tryz.prog 77 #[.agg (vtA v)] w fun e w' => e = .returned (.tuple #[.slice none 0 0, .bool false]) ∧ Ext w w' := by
 have HE := Lib.hid ((Ext.refl w).alloc' (.cells (vtA v) 46))
 have hr : (w.alloc (.cells (vtA v) 46)).rangeAt w.heap.size 0 (vtL v) := rangeAt_of_blk (Blk.new w 46 (vtA v))
 have HV := Lib.hid (fun (W : World) => rVtValid_any v W)
 rw [h] at HV
 clear h
 go_enter Tryz.func77, Tryz.ntmps77
 go_wp2_with (first | (with_reducible refine wpList_loadVt rfl (.tmp 1) rfl w.heap.size 0 rfl v hr ?_))
 refine (HV.out _).mono ?_
 rintro e w1 ⟨rfl, he1⟩
 have HX := Lib.hid (HE.out.trans he1)
 clear he1 hr
 go_wp2_with fail
 go_ret2
 exact ⟨rfl, HX.out⟩
theorem rVtEnc_yes (v : VtR) (hwf : v.wf) (h : vldVt v = true) (w : World) : Calls Tryz.prog 77 #[.agg (vtA v)] w fun e w' => ∃ A' c', e = .returned (.tuple #[.slice A' 23 c', .bool true]) ∧ OwnB w' w.heap.size 5 A' 23 c' (encVt v) ∧ Ext w w' := by
 have HBD := Lib.hid (vldVt_bd h hwf)
 have HE0 := Lib.hid ((Ext.refl w).alloc' (.cells (vtA v) 46))
 have HB := Lib.hid (Blk.new w 46 (vtA v))
 obtain ⟨W0, hW0⟩ : ∃ W0, w.alloc (.cells (vtA v) 46) = W0 := ⟨_, rfl⟩
 rw [hW0] at HE0 HB
 have hr : W0.rangeAt w.heap.size 0 (vtL v) := rangeAt_of_blk HB.out
 have HV := Lib.hid (fun (W : World) => rVtValid_any v W)
 rw [h] at HV
 clear h
 go_enter Tryz.func77, Tryz.ntmps77
 go_wp2_with (first | (with_reducible refine wpList_loadVt rfl (.tmp 1) rfl w.heap.size 0 rfl v hr ?_))
 refine (HV.out _).mono ?_
 rintro e w1 ⟨rfl, he1⟩
 have HX := Lib.hid (HE0.out.trans he1)
 have HB1 := Lib.hid (HB.out.ext he1)
 obtain ⟨a0, a1, a2, a3, a4, a5, a6, a7⟩ := vt_facts HB1.out
 clear he1 hr hW0 a6 a7
 go_upto_region 4 with (fail)
 have HO := Lib.hid (own_lit7 w1 w1.heap.size 5 (v.k % 256) (v.sl % 256) (v.ro % 256) (v.ch % 256) (v.si % 256) (v.su / 256 % 256) (v.su % 256) (toB v.k) (toB v.sl) (toB v.ro) (toB v.ch) (toB v.si) (toB (v.su / 256)) (toB v.su) w1.heap.size rfl (Nat.le_refl _) (toB_eq _) (toB_eq _) (toB_eq _) (toB_eq _) (toB_eq _) (toB_eq _) (toB_eq _))
 have HE := Lib.hid ((Ext.refl w1).alloc' (.cells #[.int .u8 (v.k % 256), .int .u8 (v.sl % 256), .int .u8 (v.ro % 256), .int .u8 (v.ch % 256), .int .u8 (v.si % 256), .int .u8 (v.su / 256 % 256), .int .u8 (v.su % 256)] 5))
 obtain ⟨W3, hW3⟩ : ∃ W3, w1.alloc (.cells #[.int .u8 (v.k % 256), .int .u8 (v.sl % 256), .int .u8 (v.ro % 256), .int .u8 (v.ch % 256), .int .u8 (v.si % 256), .int .u8 (v.su / 256 % 256), .int .u8 (v.su % 256)] 5) = W3 := ⟨_, rfl⟩
 rw [hW3] at HO HE ⊢
 have HO := Lib.hid (OwnB.ext HO.out (Ext.refl W3).drew')
 have HE := Lib.hid (HE.out.trans (Ext.refl W3).drew')
 clear hW3 a0 a1 a2 a3 a4 a5
 refine wp_region_held_drew (S := fun W => Ext w1 W) (by kernel_rfl) (HE.out) (fun hHeld => ?_)
 (refine wr 0 (oi := ⟨some 31, .move (.tmp 4), 28, "ref.go:106", #[], none⟩) (v := ?_) rfl (by kernel_rfl) (by rfl) (fun _ _ _ h => h) ?h hHeld ?_; case h => (intro W hSW; go_simp <;> with_reducible rfl))
 try simp only [lays]
 (refine wr 1 (oi := ⟨some 32, .fieldAddr 46 (.tmp 1) 6, 0, "ref.go:106", #[], none⟩) (v := ?_) rfl (by kernel_rfl) (by rfl) (fun _ _ _ h => h) ?h hHeld ?_; case h => (intro W hSW; go_simp <;> with_reducible rfl))
 try simp only [lays]
 (refine wr 2 (oi := ⟨some 33, .slice 44 (.tmp 32) none none none, 28, "ref.go:106", #[⟨1, .data⟩], none⟩) (v := ?_) rfl (by kernel_rfl) (by rfl) (fun _ _ _ h => h) ?h hHeld ?_; case h => (intro W hSW; go_simp <;> with_reducible rfl))
 try simp only [lays]
 (refine wr 4 (oi := ⟨some 35, .fieldAddr 46 (.tmp 1) 7, 0, "ref.go:106", #[], none⟩) (v := ?_) rfl (by kernel_rfl) (by rfl) (fun _ _ _ h => h) ?h hHeld ?_; case h => (intro W hSW; go_simp <;> with_reducible rfl))
 try simp only [lays]
 (refine wr 5 (oi := ⟨some 36, .slice 44 (.tmp 35) none none none, 28, "ref.go:106", #[⟨4, .data⟩], none⟩) (v := ?_) rfl (by kernel_rfl) (by rfl) (fun _ _ _ h => h) ?h hHeld ?_; case h => (intro W hSW; go_simp <;> with_reducible rfl))
 try simp only [lays]
 refine wpAnyH_ready (rs := [3]) (by kernel_rfl) (by simp) ?_
 refine (AllReadyH.cons (o := ⟨some 34, .call { callee := .builtin .append, args := #[.tmp 31, .tmp 33], argTypes := #[28, 28] }, 28, "ref.go:106", #[⟨0, .data⟩, ⟨2, .data⟩], none⟩) rfl (fun K hK => ?_) AllReadyH.nil)
 (refine step_appBG bytesE rfl (.tmp 31) (.tmp 33) rfl w1.heap.size (some ⟨w1.heap.size, 0, none⟩) 7 7 [toB v.k, toB v.sl, toB v.ro, toB v.ch, toB v.si, toB (v.su / 256), toB v.su] (by rfl) HO.out (some ⟨w.heap.size, 6, none⟩) 8 8 (nmb v.pa) (by rfl) (slB_at (vt_pa (HB1.out.ext HE.out)) (nmb_length _) (by omega) (by omega)) (by omega) HE.out.size ?_; intro A4 c4 w4 ho hg; have HE := Lib.hid (show Ext _ _ from Below.grown HE.out hg HE.out.size (fun q hq => (own_lt HO.out q hq).1)); have HO := Lib.hid ho; clear ho hg)
 refine hK.out _ _ (HE.out) (fun hHeld => ?_)
 clear hK K
 try simp only [lays]
 refine wpAnyH_ready (rs := [6]) (by kernel_rfl) (by simp) ?_
 refine (AllReadyH.cons (o := ⟨some 37, .call { callee := .builtin .append, args := #[.tmp 34, .tmp 36], argTypes := #[28, 28] }, 28, "ref.go:106", #[⟨3, .data⟩, ⟨5, .data⟩, ⟨3, .chain⟩], none⟩) rfl (fun K hK => ?_) AllReadyH.nil)
 (refine step_appBG bytesE rfl (.tmp 34) (.tmp 36) rfl w1.heap.size A4 15 c4 ([toB v.k, toB v.sl, toB v.ro, toB v.ch, toB v.si, toB (v.su / 256), toB v.su] ++ nmb v.pa) (by rfl) HO.out (some ⟨w.heap.size, 14, none⟩) 8 8 (nmb v.va) (by rfl) (slB_at (vt_va (HB1.out.ext HE.out)) (nmb_length _) (by omega) (by omega)) (by omega) HE.out.size ?_; intro A5 c5 w5 ho hg; have HE := Lib.hid (show Ext _ _ from Below.grown HE.out hg HE.out.size (fun q hq => (own_lt HO.out q hq).1)); have HO := Lib.hid ho; clear ho hg)
 refine hK.out _ _ (HE.out) (fun hHeld => ?_)
 clear hK K
 try simp only [lays]
 (refine wr 7 (oi := ⟨some 2, .assign (.tmp 37), 28, "ref.go:106", #[⟨6, .data⟩, ⟨6, .chain⟩, ⟨0, .phase⟩, ⟨1, .phase⟩, ⟨2, .phase⟩, ⟨3, .phase⟩, ⟨4, .phase⟩, ⟨5, .phase⟩, ⟨6, .phase⟩], none⟩) (v := ?_) rfl (by kernel_rfl) (by rfl) (fun _ _ _ h => h) ?h hHeld ?_; case h => (intro W hSW; go_simp <;> with_reducible rfl))
 try simp only [lays]
 (refine wr 8 (oi := ⟨some 3, .assign (.const (.bool true)), 4, "ref.go:106", #[⟨7, .chain⟩, ⟨0, .phase⟩, ⟨1, .phase⟩, ⟨2, .phase⟩, ⟨3, .phase⟩, ⟨4, .phase⟩, ⟨5, .phase⟩, ⟨6, .phase⟩, ⟨7, .phase⟩], none⟩) (v := ?_) rfl (by kernel_rfl) (by rfl) (fun _ _ _ h => h) ?h hHeld ?_; case h => (intro W hSW; go_simp <;> with_reducible rfl))
 try simp only [lays]
 refine wpAnyH_done (by kernel_rfl) ?_ _
 have HF := Lib.hid (show OwnB w5 w.heap.size 5 A5 23 c5 (encVt v) from by
  have h1 : OwnB w5 w.heap.size 5 A5 23 c5 _ := own_mono (base' := w.heap.size) HO.out HX.out.size
  obtain ⟨-, -, -, -, -, -, -, -, -, -, b0, b1⟩ := HBD.out
  have e : encVt v = [toB v.k, toB v.sl, toB v.ro, toB v.ch, toB v.si, toB (v.su / 256), toB v.su] ++ nmb v.pa ++ nmb v.va := by unfold encVt; rw [beI_two b0 (by omega)]; simp
  rw [e]
  exact h1)
 have HG := Lib.hid (HX.out.trans HE.out)
 clear hHeld
 go_wp2_with fail
 go_ret2
 exact ⟨A5, c5, rfl, HF.out, HG.out⟩
theorem rSgEnc_no1 (S : SgR) (w : World) (hS : S.ok w) (h : vldVt S.v = false) : Calls Tryz.prog 43 #[.agg (sgA S)] w fun e w' => e = .returned (.tuple #[.slice none 0 0, .bool false]) ∧ Ext w w' := by
 have HE := Lib.hid ((Ext.refl w).alloc' (.cells (sgA S) 48))
 have HB := Lib.hid (Blk.new w 48 (sgA S))
 have HWF := Lib.hid hS.v
 obtain ⟨W0, hW0⟩ : ∃ W0, w.alloc (.cells (sgA S) 48) = W0 := ⟨_, rfl⟩
 rw [hW0] at HE HB
 have HS := Lib.hid (hS.ext HE.out)
 have hr := sg_vote HB.out
 clear hS
 have hl : (S.n : Int) ≤ 9223372036854775807 := by have := HS.out.sig.le; have := HS.out.sig.cap; omega
 go_enter Tryz.func43, Tryz.ntmps43
 go_wp2_with (first | (with_reducible refine wpList_loadVt rfl (.tmp 7) rfl w.heap.size 0 rfl S.v hr ?_))
 refine (rVtEnc_no S.v h W0).mono ?_
 rintro e w1 ⟨rfl, he1⟩
 have HX := Lib.hid (HE.out.trans he1)
 clear he1 hr h
 go_wp2_with fail
 go_ret2
 exact ⟨rfl, HX.out⟩
theorem rSgEnc_no2 (S : SgR) (w : World) (hS : S.ok w) (h : vldVt S.v = true) (hn : ¬ S.n = 370) : Calls Tryz.prog 43 #[.agg (sgA S)] w fun e w' => e = .returned (.tuple #[.slice none 0 0, .bool false]) ∧ Ext w w' := by
 have HE := Lib.hid ((Ext.refl w).alloc' (.cells (sgA S) 48))
 have HB := Lib.hid (Blk.new w 48 (sgA S))
 have HWF := Lib.hid hS.v
 obtain ⟨W0, hW0⟩ : ∃ W0, w.alloc (.cells (sgA S) 48) = W0 := ⟨_, rfl⟩
 rw [hW0] at HE HB
 have HS := Lib.hid (hS.ext HE.out)
 have hr := sg_vote HB.out
 clear hS
 have hl : (S.n : Int) ≤ 9223372036854775807 := by have := HS.out.sig.le; have := HS.out.sig.cap; omega
 go_enter Tryz.func43, Tryz.ntmps43
 go_wp2_with (first | (with_reducible refine wpList_loadVt rfl (.tmp 7) rfl w.heap.size 0 rfl S.v hr ?_))
 refine (rVtEnc_yes S.v HWF.out h W0).mono ?_
 rintro e w1 ⟨A1, c1, rfl, hO1, he1⟩
 have HX := Lib.hid (HE.out.trans he1)
 have hc : w1.cell? ⟨w.heap.size, 22, none⟩ = some (.slice S.A S.n S.c) := (HB.out.ext he1).cell 22
 have hn1 : ((S.n : Int) != 370) = true := by simp; omega
 have hn2 : ((S.n : Int) == 370) = false := by simp; omega
 clear he1 hr h hO1 hn hW0
 go_wp2_with fail
 go_ret2
 exact ⟨rfl, HX.out⟩
theorem rSgEnc_yes (S : SgR) (w : World) (hS : S.ok w) (h : vldVt S.v = true) (hn : S.n = 370) : Calls Tryz.prog 43 #[.agg (sgA S)] w fun e w' => ∃ A' c', e = .returned (.tuple #[.slice A' 393 c', .bool true]) ∧ OwnB w' w.heap.size 5 A' 393 c' (encSg S) ∧ Ext w w' := by
 have HE := Lib.hid ((Ext.refl w).alloc' (.cells (sgA S) 48))
 have HB := Lib.hid (Blk.new w 48 (sgA S))
 have HWF := Lib.hid hS.v
 obtain ⟨W0, hW0⟩ : ∃ W0, w.alloc (.cells (sgA S) 48) = W0 := ⟨_, rfl⟩
 rw [hW0] at HE HB
 have HS := Lib.hid (hS.ext HE.out)
 have hr := sg_vote HB.out
 clear hS
 have hl : (S.n : Int) ≤ 9223372036854775807 := by have := HS.out.sig.le; have := HS.out.sig.cap; omega
 go_enter Tryz.func43, Tryz.ntmps43
 go_wp2_with (first | (with_reducible refine wpList_loadVt rfl (.tmp 7) rfl w.heap.size 0 rfl S.v hr ?_))
 refine (rVtEnc_yes S.v HWF.out h W0).mono ?_
 rintro e w1 ⟨A1, c1, rfl, hO1, he1⟩
 have HX := Lib.hid (HE.out.trans he1)
 have hc : w1.cell? ⟨w.heap.size, 22, none⟩ = some (.slice S.A S.n S.c) := (HB.out.ext he1).cell 22
 have HN := Lib.hid hn
 have HS1 := Lib.hid (HS.out.sig.ext he1)
 have HO1 := Lib.hid hO1
 have HL1 := Lib.hid he1.size
 rw [hn] at hc HS1
 clear he1 hr h hO1 hn hW0
 go_wp2_with (at_builtin; go_must (refine wpList_appB bytesE rfl (.tmp 20) (.tmp 22) rfl W0.heap.size _ _ _ _ rfl HO1.out _ 370 S.c S.sig rfl HS1.out (by omega) HL1.out w1 (Below.refl _ _) ?_))
 intro A3 c3 w3 ho3 hw3 hs3
 have HF := Lib.hid (show OwnB w3 w.heap.size 5 A3 393 c3 (encSg S) from own_mono ho3 HE.out.size)
 have HG := Lib.hid (Below.trans HX.out (Below.mono hw3 HE.out.size) : Ext w w3)
 clear ho3 hw3 hs3
 go_wp2_with fail
 go_ret2
 exact ⟨A3, c3, rfl, HF.out, HG.out⟩
end Go.Proofs.YtbfepgjeecndiaaGreat

/- Elements struck from a row by a test (what slices.DeleteFunc does, plain). -/
namespace Go.Proofs.YtbfepgjeecndiaaGreat
open Go.RowKit
set_option linter.unusedVariables false
set_option linter.unusedSimpArgs false
set_option linter.unusedSectionVars false
section
variable {α : Type} [RowT α] {p : α → Bool} {d dk : Array α} {i j : Nat}
def keepL (p : α → Bool) (L : List α) : List α := L.filter fun x => !p x
theorem keepL_take (hj : j < d.size) : keepL p (d.toList.take (j + 1)) = keepL p (d.toList.take j) ++ if p d[j]! = true then [] else [d[j]!] := by
 unfold keepL
 rw [take_nthG (L := d.toList) (k := j) (by simpa using hj), List.filter_append, ← arr_nth]
 congr 1
 cases h : p d[j]! <;> simp [h]
structure Dl0 (p : α → Bool) (d : Array α) (j : Nat) : Prop where
 le : j ≤ d.size
 val : keepL p (d.toList.take j) = d.toList.take j
structure Dls (p : α → Bool) (d dk : Array α) (i j : Nat) : Prop where
 size : dk.size = d.size
 ij : i < j
 jn : j ≤ d.size
 rest : ∀ t, i ≤ t → dk[t]! = d[t]!
 val : dk.toList.take i = keepL p (d.toList.take j)
theorem Dl0.start (d : Array α) : Dl0 p d 0 := ⟨Nat.zero_le _, rfl⟩
theorem Dl0.next (h : Dl0 p d j) (hj : j < d.size) (hp : p d[j]! = false) : Dl0 p d (j + 1) := ⟨hj, by
 rw [keepL_take hj, h.val, hp, if_neg (by decide), take_nthG (L := d.toList) (k := j) (by simpa using hj), ← arr_nth]⟩
theorem Dl0.hit (h : Dl0 p d j) (hj : j < d.size) (hp : p d[j]! = true) : Dls p d d j (j + 1) := ⟨rfl, by omega, hj, fun _ _ => rfl, by
 rw [keepL_take hj, h.val, hp, if_pos rfl, List.append_nil]⟩
theorem Dl0.all (h : Dl0 p d j) (hj : d.size ≤ j) : keepL p d.toList = d.toList := by
 have := h.val
 rwa [List.take_of_length_le (by simpa using hj)] at this
theorem Dls.skip (h : Dls p d dk i j) (hj : j < d.size) (hp : p d[j]! = true) : Dls p d dk i (j + 1) := ⟨h.size, by have := h.ij; omega, hj, h.rest, by
 rw [keepL_take hj, hp, if_pos rfl, List.append_nil]; exact h.val⟩
theorem Dls.keep (h : Dls p d dk i j) (hj : j < d.size) (hp : p d[j]! = false) : Dls p d (dk.setIfInBounds i d[j]!) (i + 1) (j + 1) := by
 have hij := h.ij
 have hk : i < dk.size := by rw [h.size]; omega
 refine ⟨by rw [Array.size_setIfInBounds]; exact h.size, by omega, by omega, fun t ht => ?_, ?_⟩
 ·rw [← h.rest t (by omega)]
  by_cases hs : t < dk.size
  ·rw [getElem!_pos _ t (by simpa using hs), getElem!_pos dk t hs, Array.getElem_setIfInBounds (by simpa using hs), if_neg (by omega)]
  ·rw [getElem!_neg _ t (by simpa using hs), getElem!_neg dk t hs]
 ·rw [keepL_take hj, hp, if_neg (by decide), ← h.val, Array.toList_setIfInBounds, take_nthG (k := i) (by simpa using hk), List.take_set_of_le (Nat.le_refl _)]
  congr 1
  rw [show nthG (dk.toList.set i d[j]!) i = d[j]! from by simp [nthG, hk]]
theorem Dls.all (h : Dls p d dk i j) (hj : d.size ≤ j) : dk.toList.take i = keepL p d.toList := by
 have := h.val
 rwa [List.take_of_length_le (show (d.toList).length ≤ j by simpa using hj)] at this
end
end Go.Proofs.YtbfepgjeecndiaaGreat

/- A row of texts of one's own. -/
namespace Go.Proofs.YtbfepgjeecndiaaGreat
open Go.RowKit
set_option linter.unusedVariables false
set_option linter.unusedSimpArgs false
attribute [local go_sem ↓] Go.wp_at_zero Go.wp_at_succ
structure RwT (w : World) (base : Nat) (A : Option Addr) (n c : Nat) (D : List TeR) : Prop where
 own : w.ownsRow base 28 1 (.slice A n c) n (gcs D)
 tex : ∀ T ∈ D, OwnB w base 5 T.A T.n T.c T.l
section
variable {w w' : World} {base n c : Nat} {A : Option Addr} {D : List TeR}
theorem RwT.nil (w : World) (base : Nat) : RwT w base none 0 0 [] := ⟨World.ownsRow_nil _ _ _ _, fun T hT => by cases hT⟩
theorem RwT.ext (h : RwT w base A n c D) (he : Ext w w') : RwT w' base A n c D := ⟨own_ext h.own he, fun T hT => OwnB.ext (h.tex T hT) he⟩
theorem RwT.len (h : RwT w base A n c D) : D.length = n := gcs_len2 h.own
theorem RwT.push (h : RwT w base A n c D) {A' : Option Addr} {c' : Nat} {T : TeR} (hT : OwnB w base 5 T.A T.n T.c T.l) (hg : w.grownBy w' (Value.ownBlock (.slice A n c))) (ho : w'.ownsRow base 28 1 (.slice A' (n + 1) c') (n + 1) (gcs D ++ teL T)) : RwT w' base A' (n + 1) c' (D ++ [T]) := by
 refine ⟨by rw [gcs_append, gcs_one]; exact ho, fun Q hQ => ?_⟩
 rcases List.mem_append.1 hQ with hQ | hQ
 ·exact World.ownsRow.kept (h.tex Q hQ) hg (own_ne (h.tex Q hQ) h.own (by decide))
 ·rw [List.mem_singleton.1 hQ]; exact World.ownsRow.kept hT hg (own_ne hT h.own (by decide))
theorem RwT.sl (h : RwT w base A n c D) : SlG w A n c D := OwnG.sl (e := 28) h.own (fun T hT => (h.tex T hT).sl)
theorem RwT.mono {base' : Nat} (h : RwT w base A n c D) (hb : base' ≤ base) : RwT w base' A n c D := ⟨own_mono h.own hb, fun T hT => own_mono (h.tex T hT) hb⟩
theorem RwT.set (h : RwT w base A n c D) {g : Nat} {t : TypeId} {cs : Array Value} (hb : Blk w g t cs) (h1 : t ≠ 28) (h2 : t ≠ 5) (vs : List Value) : RwT (w.setCells g 0 vs) base A n c D :=
 ⟨World.ownsRow.kept h.own (grown_setCells' w g vs 0) (.inr (Ne.symm (own_other h.own hb h1))), fun T hT => World.ownsRow.kept (h.tex T hT) (grown_setCells' w g vs 0) (.inr (Ne.symm (own_other (h.tex T hT) hb h2)))⟩
end
theorem own_zero (w : World) (e : TypeId) (size : Nat) : (w.alloc (.cells #[] e)).ownsRow w.heap.size e size (.slice (some ⟨w.heap.size, 0, none⟩) 0 0) 0 [] :=
 ⟨by simp, .inr ⟨w.heap.size, 0, #[], rfl, Nat.le_refl _, heap_alloc_new w _, Nat.le_refl _, Nat.zero_le _, by simp, by simp⟩⟩
theorem run_buildT0 (w : World) : (Instr.buildSlice 23 0 #[]).run Tryz.prog w = .ok (.slice (some ⟨w.heap.size, 0, none⟩) 0 0) (w.alloc (.cells #[] 28)) := by kernel_rfl
theorem run_buildY0 (w : World) : (Instr.buildSlice 28 0 #[]).run Tryz.prog w = .ok (.slice (some ⟨w.heap.size, 0, none⟩) 0 0) (w.alloc (.cells #[] 5)) := by kernel_rfl
end Go.Proofs.YtbfepgjeecndiaaGreat

/- Parcels as values (plain): their bytes, errors, parts. -/
namespace Go.Proofs.YtbfepgjeecndiaaGreat
open Go.RowKit
set_option linter.unusedVariables false
set_option linter.unusedSimpArgs false
section
variable {α β : Type}
def adjB (lt : β → β → Bool) : List β → Bool
 | x :: y :: r => lt x y && adjB lt (y :: r)
 | _ => true
theorem adjB_iff (lt : β → β → Bool) : ∀ (M : List β), adjB lt M = true ↔ ∀ k (h : k + 1 < M.length), lt (M[k]'(Nat.lt_of_succ_lt h)) (M[k + 1]'h) = true
 | [] => by simp [adjB]
 | [x] => by simp [adjB]
 | x :: y :: r => by
  rw [adjB, Bool.and_eq_true, adjB_iff lt (y :: r)]
  constructor
  ·rintro ⟨h1, h2⟩ k hk
   cases k with
   | zero => exact h1
   | succ k => exact h2 k (by simpa using hk)
  ·intro h
   exact ⟨h 0 (by simp), fun k hk => h (k + 1) (by simpa using hk)⟩
theorem ascG_adj [RowT α] {V : α → β} {lt0 : α → α → Bool} {lt : β → β → Bool} (h : ∀ x y, lt0 x y = lt (V x) (V y)) (L : List α) : ascG lt0 L = adjB lt (L.map V) := by
 rw [Bool.eq_iff_iff, adjB_iff]
 constructor
 ·intro hh k hk
  rw [List.length_map] at hk
  have := ascG_of hh hk
  rw [h] at this
  rw [List.getElem_map, List.getElem_map, nthG_eq, nthG_eq]
  exact this
 ·intro hh
  refine ascG_yes (fun k hk => ?_)
  have := hh k (by simpa using hk)
  rw [List.getElem_map, List.getElem_map, nthG_eq, nthG_eq] at this
  rw [h]; exact this
theorem allG_all [RowT α] {V : α → β} {f : α → Bool} {g : β → Bool} {L : List α} (h : ∀ x ∈ L, f x = g (V x)) : allG f L = (L.map V).all g := by
 rw [Bool.eq_iff_iff, List.all_map, List.all_eq_true]
 constructor
 ·intro hh x hx
  obtain ⟨k, hk, rfl⟩ := List.getElem_of_mem hx
  have := allG_of hh hk
  rw [← nthG_eq hk, h _ hx] at this
  exact this
 ·intro hh
  refine allG_yes (fun k hk => ?_)
  rw [h _ (nthG_mem hk)]
  exact hh _ (nthG_mem hk)
end
def vldSv (s : SgV) : Bool := vldVt s.1 && decide (s.2.length = 370)
def encSv (s : SgV) : List UInt8 := encVt s.1 ++ s.2
def okTv (l : List UInt8) : Bool := decide (l.length ≤ 65535)
def encVwV (L : List SgV) (X : List (List UInt8)) : List UInt8 := beI 4 (L.length : Int) ++ L.flatMap encSv ++ (beI 4 (X.length : Int) ++ X.flatMap fun l => blob l)
def vwEV (L : List SgV) (X : List (List UInt8)) : Int := if L.all vldSv = true ∧ X.all okTv = true then (if (adjB ltSv L && adjB lexB X) = true then 0 else 10) else 1
def pcEV (L : List SgV) (X : List (List UInt8)) : Int := if lrgN L.length X.length = true then 5 else vwEV L X
def encPcV (L : List SgV) (X : List (List UInt8)) : List UInt8 := nmb (tagU 89 (encVwV L X)) ++ encVwV L X
theorem vldSg_V {S : SgR} (h : S.sig.length = S.n) : vldSg S = vldSv S.V := by unfold vldSg vldSv SgR.V; rw [h]
theorem vwE_V {L : List SgR} {X : List TeR} (hL : ∀ S ∈ L, S.sig.length = S.n) (hX : ∀ T ∈ X, T.l.length = T.n) : vwE L X = vwEV (L.map SgR.V) (X.map TeR.l) := by
 unfold vwE vwEV ordV
 rw [allG_all (V := SgR.V) (g := vldSv) (fun S hS => vldSg_V (hL S hS)), allG_all (V := TeR.l) (g := okTv) (fun T hT => by unfold okTe okTv; rw [hX T hT]), ascG_adj (V := SgR.V) (lt0 := ltSg) (lt := ltSv) (fun _ _ => rfl), ascG_adj (V := TeR.l) (lt0 := ltTe) (lt := lexB) (fun _ _ => rfl)]
theorem pcE_V {L : List SgR} {X : List TeR} (hL : ∀ S ∈ L, S.sig.length = S.n) (hX : ∀ T ∈ X, T.l.length = T.n) : pcE L X = pcEV (L.map SgR.V) (X.map TeR.l) := by
 unfold pcE pcEV
 rw [vwE_V hL hX, List.length_map, List.length_map]
theorem encVw_V (L : List SgR) (X : List TeR) : encVw L X = encVwV (L.map SgR.V) (X.map TeR.l) := by
 unfold encVw encVwV encSgs encTes
 rw [List.length_map, List.length_map, List.flatMap_map, List.flatMap_map]; rfl
theorem encPc_V (L : List SgR) (X : List TeR) : encPc L X = encPcV (L.map SgR.V) (X.map TeR.l) := by unfold encPc encPcV; rw [encVw_V]
theorem ordV_V (L : List SgR) (X : List TeR) : ordV L X = (adjB ltSv (L.map SgR.V) && adjB lexB (X.map TeR.l)) := by
 unfold ordV
 rw [ascG_adj (V := SgR.V) (lt0 := ltSg) (lt := ltSv) (fun _ _ => rfl), ascG_adj (V := TeR.l) (lt0 := ltTe) (lt := lexB) (fun _ _ => rfl)]
/-! the parts of a view -/
def prt {β : Type} (L : List β) (i : Nat) : List β := (L.drop (i * 64)).take 64
theorem prt_map {α β : Type} (V : α → β) (L : List α) (i : Nat) : (prt L i).map V = prt (L.map V) i := by unfold prt; rw [List.map_take, List.map_drop]
def splF (L : List SgV) (X : List (List UInt8)) : Nat → Nat → List (List UInt8) → List (List UInt8) × Int
 | 0, _, acc => (acc, 0)
 | k + 1, i, acc => if pcEV (prt L i) (prt X i) ≠ 0 then ([], pcEV (prt L i) (prt X i)) else splF L X k (i + 1) (acc ++ [encPcV (prt L i) (prt X i)])
def splN (L : List SgV) (X : List (List UInt8)) : Nat := (max L.length X.length + 63) / 64
def splV (L : List SgV) (X : List (List UInt8)) : List (List UInt8) × Int := splF L X (splN L X) 0 []
theorem splF_no {L : List SgV} {X : List (List UInt8)} {i : Nat} {acc : List (List UInt8)} (hi : i < splN L X) (h : pcEV (prt L i) (prt X i) ≠ 0) : splF L X (splN L X - i) i acc = ([], pcEV (prt L i) (prt X i)) := by
 rw [show splN L X - i = (splN L X - i - 1) + 1 from by omega, splF, if_pos h]
theorem splF_yes {L : List SgV} {X : List (List UInt8)} {i : Nat} {acc : List (List UInt8)} (hi : i < splN L X) (h : pcEV (prt L i) (prt X i) = 0) : splF L X (splN L X - i) i acc = splF L X (splN L X - (i + 1)) (i + 1) (acc ++ [encPcV (prt L i) (prt X i)]) := by
 rw [show splN L X - i = (splN L X - (i + 1)) + 1 from by omega, splF, if_neg (by simpa using h)]
theorem splF_end {L : List SgV} {X : List (List UInt8)} {i : Nat} {acc : List (List UInt8)} (hi : splN L X ≤ i) : splF L X (splN L X - i) i acc = (acc, 0) := by
 rw [show splN L X - i = 0 from by omega]; rfl
theorem prt_empty {L : List SgV} {X : List (List UInt8)} {i : Nat} : (prt L i = [] ∧ prt X i = []) ↔ splN L X ≤ i := by
 unfold prt splN
 rw [List.eq_nil_iff_length_eq_zero, List.eq_nil_iff_length_eq_zero, List.length_take, List.length_drop, List.length_take, List.length_drop]
 omega
end Go.Proofs.YtbfepgjeecndiaaGreat
