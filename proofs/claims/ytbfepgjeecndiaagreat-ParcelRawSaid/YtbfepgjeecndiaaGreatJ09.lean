/- Votes: which are valid, their bytes, their order. Plain: no program in sight. -/
import Derived.Test.YtbfepgjeecndiaaGreatJ07
import Derived.Test.YtbfepgjeecndiaaGreatJ08
namespace Go.Proofs.YtbfepgjeecndiaaGreat
open Go.RowKit
set_option linter.unusedVariables false
set_option linter.unusedSimpArgs false
def supI (z : Int) : Int := bits .andNot .i64 z 1023
theorem wfI_bd {z : Int} (h : wfI z) : -9223372036854775808 ≤ z ∧ z ≤ 9223372036854775807 := by
 unfold wfI at h
 simp [Lit.wf, IntKind.min, IntKind.max, IntKind.bits, IntKind.signed] at h
 omega
theorem supI_iff {z : Int} (h : wfI z) : supI z = 0 ↔ 0 ≤ z ∧ z ≤ 1023 := by
 obtain ⟨h1, h2⟩ := wfI_bd h
 have key : ∀ X : Nat, X < 18446744073709551616 → X &&& 18446744073709550592 = X / 1024 * 1024 := fun X hX => by
  rw [nat_hi64_10 X, Nat.mod_eq_of_lt hX]
 have hx : (BitVec.ofInt 64 z).toNat < 18446744073709551616 := (BitVec.ofInt 64 z).isLt
 have hz : ((BitVec.ofInt 64 z).toNat : Int) = z % 18446744073709551616 := by
  rw [BitVec.toNat_ofInt]; omega
 have e : supI z = IntKind.i64.wrap (((BitVec.ofInt 64 z).toNat / 1024 * 1024 : Nat) : Int) := by
  rw [← key _ hx]
  show IntKind.i64.wrap ((BitVec.ofInt 64 z &&& ~~~BitVec.ofInt 64 (1023 : Int)).toNat : Int) = _
  rw [BitVec.toNat_and]
  rfl
 rw [e, IntKind.wrap_i64]
 omega
def inI (n lo hi : Int) : Bool := decide (lo ≤ n ∧ n ≤ hi)
def chV (v : VtR) : Bool := decide (v.ch = 1 ↔ v.va ≠ 0)
def restV (v : VtR) : Bool :=
 if v.k = 3 then inI v.sl 0 9 && (inI v.ro 1 12 && (inI v.ch 0 1 && (decide (v.ro ≠ 1) || (decide (v.ch ≠ 0) || decide (v.su = 0)))))
 else if v.k = 4 then inI v.sl 0 9 && (inI v.ro 1 12 && inI v.ch 0 2)
 else inI v.sl 0 (if v.k ≤ 2 then 9 else 0) && (decide (v.ro = 0 ∧ v.su = 0) && decide (v.ch = 1))
def vldVt (v : VtR) : Bool := (inI v.k 1 7 && inI v.si 0 9) && ((chV v && decide (supI v.su = 0)) && restV v)
theorem vldVt_bd {v : VtR} (h : vldVt v = true) (hw : v.wf) : 0 ≤ v.k ∧ v.k < 256 ∧ 0 ≤ v.sl ∧ v.sl < 256 ∧ 0 ≤ v.ro ∧ v.ro < 256 ∧ 0 ≤ v.ch ∧ v.ch < 256 ∧ 0 ≤ v.si ∧ v.si < 256 ∧ 0 ≤ v.su ∧ v.su ≤ 1023 := by
 unfold vldVt inI at h
 simp only [Bool.and_eq_true, decide_eq_true_eq] at h
 obtain ⟨⟨h1, h2⟩, ⟨h3, h4⟩, h5⟩ := h
 have h6 := (supI_iff hw.su).1 h4
 unfold restV inI at h5
 split at h5
 ·simp only [Bool.and_eq_true, decide_eq_true_eq] at h5; omega
 ·split at h5
  ·simp only [Bool.and_eq_true, decide_eq_true_eq] at h5; omega
  ·simp only [Bool.and_eq_true, decide_eq_true_eq] at h5; split at h5 <;> omega
def encVt (v : VtR) : List UInt8 := [toB v.k, toB v.sl, toB v.ro, toB v.ch, toB v.si] ++ (beI 2 v.su ++ (nmb v.pa ++ nmb v.va))
theorem encVt_length (v : VtR) : (encVt v).length = 23 := by simp [encVt, beI_length, nmb_length]
def byt (l : List UInt8) (i : Nat) : UInt8 := l.getD i 0
def decVt (l : List UInt8) : VtR := ⟨(byt l 0).toNat, (byt l 1).toNat, (byt l 2).toNat, (byt l 3).toNat, (byt l 4).toNat, numAt l 5 2, ofNm ((l.drop 7).take 8), ofNm ((l.drop 15).take 8)⟩
theorem wfI_of {z : Int} (h1 : -9223372036854775808 ≤ z) (h2 : z ≤ 9223372036854775807) : wfI z := by
 unfold wfI
 simp [Lit.wf, IntKind.min, IntKind.max, IntKind.bits, IntKind.signed]
 omega
theorem decVt_wf (l : List UInt8) : (decVt l).wf := by
 have hb : ∀ c : UInt8, wfI (c.toNat : Int) := fun c => by have := c.toNat_lt; exact wfI_of (by omega) (by omega)
 refine ⟨hb _, hb _, hb _, hb _, hb _, ?_⟩
 have h1 := beNat_lt ((l.drop 5).take 2)
 have h2 : ((l.drop 5).take 2).length ≤ 2 := List.length_take_le _ _
 have h3 : 256 ^ ((l.drop 5).take 2).length ≤ 256 ^ 2 := Nat.pow_le_pow_right (by omega) h2
 refine wfI_of ?_ ?_
 ·show _ ≤ ((numAt l 5 2 : Nat) : Int); omega
 ·show ((numAt l 5 2 : Nat) : Int) ≤ _; unfold numAt; omega
theorem beI_2 {z : Int} (h1 : 0 ≤ z) (h2 : z ≤ 65535) : (beNat (beI 2 z) : Int) = z := by
 unfold beI
 rw [beNat_beBytes]
 omega
theorem enc_decVt {l : List UInt8} (h : l.length = 23) : encVt (decVt l) = l := by
 have h1 : beI 2 (numAt l 5 2 : Nat) = (l.drop 5).take 2 := by
  have hl : ((l.drop 5).take 2).length = 2 := by rw [List.length_take, List.length_drop]; omega
  have hlt := beNat_lt ((l.drop 5).take 2)
  rw [hl] at hlt
  have e : (((numAt l 5 2 : Nat) : Int) % 18446744073709551616).toNat = beNat ((l.drop 5).take 2) := by unfold numAt; omega
  unfold beI
  rw [e]
  have := beBytes_beNat ((l.drop 5).take 2)
  rwa [hl] at this
 have h2 : nmb (ofNm ((l.drop 7).take 8)) = (l.drop 7).take 8 := nmb_ofNm _ (by rw [List.length_take, List.length_drop]; omega)
 have h3 : nmb (ofNm ((l.drop 15).take 8)) = (l.drop 15).take 8 := nmb_ofNm _ (by rw [List.length_take, List.length_drop]; omega)
 unfold encVt decVt
 simp only [toB_byte]
 rw [h1, h2, h3]
 apply List.ext_getElem?
 intro i
 have hb : ∀ j, j < 23 → l[j]? = some (byt l j) := fun j hj => by
  unfold byt
  rw [List.getD_eq_getElem?_getD]
  cases hh : l[j]? with
  | none => rw [List.getElem?_eq_none_iff] at hh; omega
  | some c => rfl
 rcases Nat.lt_or_ge i 5 with hi | hi
 ·rw [List.getElem?_append_left (by simpa using hi)]
  rcases (by omega : i = 0 ∨ i = 1 ∨ i = 2 ∨ i = 3 ∨ i = 4) with rfl | rfl | rfl | rfl | rfl <;> (rw [hb _ (by omega)]; rfl)
 ·rw [List.getElem?_append_right (by simpa using hi)]
  simp only [List.length_cons, List.length_nil]
  have t : (l.drop 5).take 2 ++ ((l.drop 7).take 8 ++ (l.drop 15).take 8) = l.drop 5 := by
   have t3 : (l.drop 15).take 8 = l.drop 15 := List.take_of_length_le (by rw [List.length_drop]; omega)
   have t2 : (l.drop 7).take 8 ++ l.drop 15 = l.drop 7 := by
    have := List.take_append_drop 8 (l.drop 7)
    rwa [List.drop_drop] at this
   have t1 : (l.drop 5).take 2 ++ l.drop 7 = l.drop 5 := by
    have := List.take_append_drop 2 (l.drop 5)
    rwa [List.drop_drop] at this
   rw [t3, t2, t1]
  rw [t, List.getElem?_drop]
  congr 1
  omega
/-! the order -/
def lexI : List Int → List Int → Bool
 | x :: r, y :: s => if x = y then lexI r s else decide (x < y)
 | _, _ => false
theorem lexI_irrefl (l : List Int) : lexI l l = false := by
 induction l with
 | nil => rfl
 | cons x r ih => simp [lexI, ih]
theorem lexI_trans : ∀ (a b c : List Int), lexI a b = true → lexI b c = true → lexI a c = true
 | [], _, _, h, _ => by simp [lexI] at h
 | _ :: _, [], _, h, _ => by simp [lexI] at h
 | _ :: _, _ :: _, [], _, h => by simp [lexI] at h
 | x :: r, y :: s, z :: t, h1, h2 => by
  unfold lexI at h1 h2 ⊢
  have ih := lexI_trans r s t
  by_cases c1 : x = y
  ·subst c1
   rw [if_pos rfl] at h1
   by_cases c2 : x = z
   ·subst c2; rw [if_pos rfl] at h2 ⊢; exact ih h1 h2
   ·rw [if_neg c2] at h2 ⊢; exact h2
  ·rw [if_neg c1] at h1
   have h1' := of_decide_eq_true h1
   by_cases c2 : y = z
   ·subst c2; rw [if_neg c1]; exact h1
   ·rw [if_neg c2] at h2
    have h2' := of_decide_eq_true h2
    rw [if_neg (by omega)]; exact decide_eq_true (by omega)
theorem lexI_total : ∀ (a b : List Int), a.length = b.length → lexI a b = false → lexI b a = false → a = b
 | [], [], _, _, _ => rfl
 | [], _ :: _, h, _, _ => by simp at h
 | _ :: _, [], h, _, _ => by simp at h
 | x :: r, y :: s, h, h1, h2 => by
  unfold lexI at h1 h2
  have ih := lexI_total r s (by simpa using h)
  by_cases e : x = y
  ·subst e; simp at h1 h2; rw [ih h1 h2]
  ·rw [if_neg e] at h1; rw [if_neg (fun h => e h.symm)] at h2; simp at h1 h2; omega
def vtKey (v : VtR) : List Int := [un v.pa, v.sl, v.ro, v.k, v.si, v.ch, un v.va, v.su]
theorem vtKey_inj {a b : VtR} (h : vtKey a = vtKey b) : a = b := by
 obtain ⟨k, sl, ro, ch, si, su, pa, va⟩ := a
 obtain ⟨k', sl', ro', ch', si', su', pa', va'⟩ := b
 simp only [vtKey, List.cons.injEq, and_true] at h
 obtain ⟨h1, h2, h3, h4, h5, h6, h7, h8⟩ := h
 rw [un_inj h1, un_inj h7, h2, h3, h4, h5, h6, h8]
def ltVt (a b : VtR) : Bool := lexI (vtKey a) (vtKey b)
end Go.Proofs.YtbfepgjeecndiaaGreat

/- The reference's codec: Uint, Bytes. -/
namespace Go.Proofs.YtbfepgjeecndiaaGreat
set_option maxRecDepth 100000
set_option maxHeartbeats 2000000
open Go.RowKit
set_option linter.unusedVariables false
set_option linter.unusedSimpArgs false
attribute [local go_sem ↓] Go.wp_at_zero Go.wp_at_succ
theorem refUint_yes (A : Option Addr) (n c : Nat) (l : List UInt8) (at_ width : Nat) (w : World) (h : SlB w A n c l) (h1 : 1 ≤ width) (h8 : width ≤ 8) (hf : at_ + width ≤ n) (hn : n ≤ 140737488355328) :
  Calls Tryz.prog 54 #[.slice A n c, .int .i64 (at_ : Int), .int .i64 (width : Int)] w fun e w' => e = .returned (.tuple #[.int .u64 (numAt l at_ width : Int), .bool true]) ∧ w = w' := by
 have hle := h.le
 have hcap := h.cap
 have hlen := h.len
 have e1 : decide ((width : Int) < 1) = false := decide_eq_false (by omega)
 have e2 : decide ((8 : Int) < (width : Int)) = false := decide_eq_false (by omega)
 have e3 : decide ((at_ : Int) < 0) = false := decide_eq_false (by omega)
 have e4 : decide ((n : Int) - (width : Int) < (at_ : Int)) = false := decide_eq_false (by omega)
 have e5 : (0 : Int) ≤ (at_ : Int) := by omega
 obtain ⟨b, o, rfl, hra, hbl⟩ := h.at (by omega)
 go_enter Tryz.func54, Tryz.ntmps54
 go_wp2_with fail
 go_loop [8, 9] (fun v i => ∃ k : Nat, k ≤ width ∧ i = .int .i64 (k : Int) ∧ v = .int .u64 ((numAt l at_ k : Nat) : Int)) (fun _ i => width - (intOf i).toNat)
 case atStart => exact ⟨0, by omega, rfl, by simp [numAt, beNat]⟩
 case round =>
  obtain ⟨k, hk, rfl, rfl⟩ := hrel
  by_cases hlt : k < width
  ·have hcell := byte_at hra (at_ + k) (by omega)
   rw [← Nat.add_assoc] at hcell
   have hd : (l.drop at_)[k]'(by simp; omega) = l[at_ + k]'(by omega) := by simp
   have HS := Lib.hid (show numAt l at_ (k + 1) = numAt l at_ k * 256 + (l[at_ + k]'(by omega)).toNat by unfold numAt; rw [take_at _ _ (by simp; omega), beNat_snoc, hd])
   have hor := or_byte' (numAt l at_ k) (l[at_ + k]'(by omega)) (pow_le7 _ k (beNat_take_lt _ _ (by simp; omega)) (by omega))
   clear hd
   generalize numAt l at_ k = a at *
   generalize (l[at_ + k]'(by omega)) = x at *
   have hcell' : w.cell? ⟨b, o + (at_ + k), none⟩ = some (.int .u8 (x.toNat : Int)) := by rw [← Nat.add_assoc]; exact hcell
   have i1 : (at_ : Int) + (k : Int) < (n : Int) := by omega
   have i2 : (0 : Int) ≤ (at_ : Int) + (k : Int) := by omega
   go_wp2_with fail
   go_round
   case rel => exact ⟨k + 1, by omega, by go_num, by rw [HS.out]; go_num⟩
   case measure => simp [intOf]; omega
  ·obtain rfl : k = width := by omega
   go_wp2_with fail
   go_ret2
   exact ⟨rfl, rfl⟩
theorem refUint_no (A : Option Addr) (n c : Nat) (at_ width : Nat) (w : World) (hn : n ≤ 140737488355328) (h1 : 1 ≤ width) (h8 : width ≤ 8) (hk : at_ ≤ n) (hf : ¬ at_ + width ≤ n) :
  Calls Tryz.prog 54 #[.slice A n c, .int .i64 (at_ : Int), .int .i64 (width : Int)] w fun e w' => e = .returned (.tuple #[.int .u64 0, .bool false]) ∧ w = w' := by
 have e1 : decide ((width : Int) < 1) = false := decide_eq_false (by omega)
 have e2 : decide ((8 : Int) < (width : Int)) = false := decide_eq_false (by omega)
 have e3 : decide ((at_ : Int) < 0) = false := decide_eq_false (by omega)
 have e4 : decide ((n : Int) - (width : Int) < (at_ : Int)) = true := decide_eq_true (by omega)
 go_enter Tryz.func54, Tryz.ntmps54
 go_wp2_with fail
 go_ret2
 exact ⟨rfl, rfl⟩
theorem refBytes_no1 (A : Option Addr) (n c : Nat) (k : Nat) (w : World) (hn : n ≤ 140737488355328) (hk : k ≤ n) (hf : ¬ k + 2 ≤ n) :
  Calls Tryz.prog 56 #[.slice A n c, .int .i64 (k : Int)] w (BytesNo w) := by
 have HU := Lib.hid (refUint_no A n c k 2 w hn (by omega) (by omega) hk hf)
 go_enter Tryz.func56, Tryz.ntmps56
 go_wp2_with fail
 refine HU.out.mono ?_
 rintro e w1 ⟨rfl, rfl⟩
 go_wp2_with fail
 go_ret3
 exact ⟨rfl, rfl⟩
theorem refBytes_no2 (A : Option Addr) (n c : Nat) (l : List UInt8) (k : Nat) (w : World) (h : SlB w A n c l) (hn : n ≤ 140737488355328) (hf : k + 2 ≤ n) (hg : ¬ k + 2 + numAt l k 2 ≤ n) :
  Calls Tryz.prog 56 #[.slice A n c, .int .i64 (k : Int)] w (BytesNo w) := by
 have HU := Lib.hid (refUint_yes A n c l k 2 w h (by omega) (by omega) hf hn)
 have hv := numAt_small l k 2 (by omega)
 obtain ⟨v, hve⟩ : ∃ v, numAt l k 2 = v := ⟨_, rfl⟩
 rw [hve] at HU hg hv
 have e1 : decide ((n : Int) - (k : Int) - 2 < (v : Int)) = true := decide_eq_true (by omega)
 have hvw : IntKind.i64.wrap (v : Int) = (v : Int) := by rw [IntKind.wrap_i64]; omega
 clear hve h hg
 go_enter Tryz.func56, Tryz.ntmps56
 go_wp2_with fail
 refine HU.out.mono ?_
 rintro e w1 ⟨rfl, rfl⟩
 go_wp2_with fail
 go_ret3
 exact ⟨rfl, rfl⟩
end Go.Proofs.YtbfepgjeecndiaaGreat
/- The reference's codec: Bytes that succeeds. -/
namespace Go.Proofs.YtbfepgjeecndiaaGreat
open Go.RowKit
set_option linter.unusedVariables false
set_option linter.unusedSimpArgs false
attribute [local go_sem ↓] Go.wp_at_zero Go.wp_at_succ
theorem run_buildB0 (w : World) : (Instr.buildSlice 28 0 #[]).run Tryz.prog w = .ok (.slice (some ⟨w.heap.size, 0, none⟩) 0 0) (w.alloc (.cells #[] 5)) := by kernel_rfl
attribute [local go_sem] run_buildB0 in
theorem refBytes_yes (A : Option Addr) (n c : Nat) (l : List UInt8) (k : Nat) (w : World) (h : SlB w A n c l) (hn : n ≤ 140737488355328) (hf : k + 2 ≤ n) (hg : k + 2 + numAt l k 2 ≤ n) :
  Calls Tryz.prog 56 #[.slice A n c, .int .i64 (k : Int)] w (BytesYes w (numAt l k 2) (k + 2 + numAt l k 2) ((l.drop (k + 2)).take (numAt l k 2))) := by
 have HU := Lib.hid (refUint_yes A n c l k 2 w h (by omega) (by omega) hf hn)
 have hle := h.le
 have hcap := h.cap
 have hlen := h.len
 obtain ⟨v, hve⟩ : ∃ v, numAt l k 2 = v := ⟨_, rfl⟩
 obtain ⟨K, hK⟩ : ∃ K, k + 2 = K := ⟨_, rfl⟩
 rw [hve] at HU hg ⊢
 rw [hK] at hg ⊢
 obtain ⟨E, hE⟩ : ∃ E, K + v = E := ⟨_, rfl⟩
 rw [hE] at hg ⊢
 have hKi : (k : Int) + 2 = (K : Int) := by omega
 have hEi : (K : Int) + (v : Int) = (E : Int) := by omega
 have hvb : 0 + v ≤ 140737488355328 := by omega
 have hKE : (K : Int) ≤ (E : Int) := by omega
 have hEc : (E : Int) ≤ (c : Int) := by omega
 have hEK : (E : Int) - (K : Int) = (v : Int) := by omega
 have hEKn : E - K = v := by omega
 have e1 : decide ((n : Int) - (k : Int) - 2 < (v : Int)) = false := decide_eq_false (by omega)
 have hvw : IntKind.i64.wrap (v : Int) = (v : Int) := by rw [IntKind.wrap_i64]; omega
 obtain ⟨b, o, rfl, hra, hbl⟩ := h.at (by omega)
 have hn0 : OwnB (w.alloc (.cells #[] 5)) w.heap.size 5 (some ⟨w.heap.size, 0, none⟩) 0 0 [] := OwnB.made w w.heap.size #[] 0 w.heap.size rfl (Nat.le_refl _) (by omega) rfl
 have hB0 := (Ext.refl w).alloc' (.cells #[] 5)
 by_cases hc : c = K
 ·have hv0 : v = 0 := by omega
  subst hv0
  subst hc
  obtain rfl : E = c := by omega
  clear hve h hg hK hE hra hlen hEi hEK hEKn hKE hEc
  rw [show ((0 : Nat) : Int) = 0 from rfl] at HU e1
  clear hvw
  go_enter Tryz.func56, Tryz.ntmps56
  go_wp2_with fail
  refine HU.out.mono ?_
  rintro e w1 ⟨rfl, rfl⟩
  go_wp2_with (at_builtin; go_must (refine wpList_appB bytesE rfl (.tmp 33) (.tmp 38) rfl w.heap.size _ 0 0 [] rfl hn0 _ 0 0 [] rfl (SlB.empty _ _ 0 (by omega)) (by omega) (by simp) w hB0 ?_))
  intro A2 c2 w2 hO2 hE2 hs2
  have HO2 := Lib.hid hO2
  clear hO2
  go_wp2_with fail
  go_ret3
  exact ⟨A2, c2, by simp, by simpa using HO2.out, hE2⟩
 ·have hs0 := (h.cut (k := K) (by omega) (by omega)).upto (k := v) (by omega)
  simp only [Option.map_some, Addr.add_mid] at hs0
  have HS := Lib.hid (hs0.ext hB0)
  clear hve h hg hK hE hra hlen hs0
  go_enter Tryz.func56, Tryz.ntmps56
  go_wp2_with fail
  refine HU.out.mono ?_
  rintro e w1 ⟨rfl, rfl⟩
  go_wp2_with (at_builtin; go_must (refine wpList_appB bytesE rfl (.tmp 33) (.tmp 38) rfl w.heap.size _ 0 0 [] rfl hn0 (some ⟨b, o + K, none⟩) v (c - K) ((l.drop K).take v) rfl HS.out hvb (by simp) w hB0 ?_))
  intro A2 c2 w2 hO2 hE2 hs2
  have HO2 := Lib.hid hO2
  clear hO2
  go_wp2_with fail
  go_ret3
  exact ⟨A2, c2, by simp, by simpa using HO2.out, hE2⟩
end Go.Proofs.YtbfepgjeecndiaaGreat
/- The reference's cursor: num, str, done. -/
namespace Go.Proofs.YtbfepgjeecndiaaGreat
open Go.RowKit
set_option linter.unusedVariables false
set_option linter.unusedSimpArgs false
attribute [local go_sem ↓] Go.wp_at_zero Go.wp_at_succ
variable {D : Nat}
end Go.Proofs.YtbfepgjeecndiaaGreat
/- The reference's cursor: name. -/
namespace Go.Proofs.YtbfepgjeecndiaaGreat
open Go.RowKit
set_option linter.unusedVariables false
set_option linter.unusedSimpArgs false
attribute [local go_sem ↓] Go.wp_at_zero Go.wp_at_succ
variable {D : Nat}
end Go.Proofs.YtbfepgjeecndiaaGreat
/- The state of the reference's cursor.op. -/
namespace Go.Proofs.YtbfepgjeecndiaaGreat
open Go.RowKit
set_option linter.unusedVariables false
set_option linter.unusedSimpArgs false
attribute [local go_sem ↓] Go.wp_at_zero Go.wp_at_succ
end Go.Proofs.YtbfepgjeecndiaaGreat
