/- signed (the program's): a signature by a key of a tree, and the key's path. -/
import Derived.Test.YtengpfpeeihaoaaKy3
namespace Go.Proofs.Ytengpfpeeihaoaa
open Go.RowKit
set_option linter.unusedVariables false
set_option linter.unusedSimpArgs false
/-- below 'base' nothing has turned but block M -/
structure GM (base M : Nat) (w w' : World) : Prop where
  os : w'.os = w.os
  tape : w'.tape = w.tape
  output : w'.output = w.output
  size : w.heap.size ≤ w'.heap.size
  block : ∀ k, k < base → k ≠ M → w'.heap[k]? = w.heap[k]?
section
variable {base M : Nat} {w w1 w2 : World}
theorem GM.refl (base M : Nat) (w : World) : GM base M w w := ⟨rfl, rfl, rfl, Nat.le_refl _, fun _ _ _ => rfl⟩
theorem GM.trans (h : GM base M w w1) (k : GM base M w1 w2) : GM base M w w2 := ⟨k.os.trans h.os, k.tape.trans h.tape, k.output.trans h.output, Nat.le_trans h.size k.size, fun i hi hm => (k.block i hi hm).trans (h.block i hi hm)⟩
theorem GM.ext (h : Ext w w1) (hb : base ≤ w.heap.size) : GM base M w w1 := ⟨h.os, h.tape, h.output, h.size, fun i hi _ => h.block i (by omega)⟩
theorem GM.map (h : w.grownBy w1 (some M)) (hb : base ≤ w.heap.size) : GM base M w w1 := ⟨h.os, h.tape, h.output, h.size, fun i hi hm => h.block i (by omega) (fun e => hm (by injection e))⟩
theorem GM.row {row : Option Nat} (h : w.grownBy w1 row) (hr : ∀ r, row = some r → base ≤ r) (hb : base ≤ w.heap.size) : GM base M w w1 := ⟨h.os, h.tape, h.output, h.size, fun i hi hm => h.block i (by omega) (fun e => by have := hr i e.symm; omega)⟩
end
theorem own_two {w : World} {base base' : Nat} {e e' : TypeId} {size size' : Nat} {v v' : Value} {n n' : Nat} {xs xs' : List Value} (h : w.ownsRow base e size v n xs) (h' : w.ownsRow base' e' size' v' n' xs') (hne : e ≠ e') {w' : World} (hg : w.grownBy w' (Value.ownBlock v')) : w'.ownsRow base e size v n xs := by
  refine ⟨h.1, ?_⟩
  rcases h.2 with h2 | ⟨g, cap, cur, hv, hb, hh, r⟩
  · exact .inl h2
  · refine .inr ⟨g, cap, cur, hv, hb, ?_, r⟩
    rw [hg.block g (Array.getElem?_eq_some_iff.1 hh).1 (fun e1 => by
      obtain ⟨cur', p, hc⟩ := own_typed h' g e1.symm
      rw [hh] at hc
      simp at hc
      exact hne hc.2.1), hh]
/-- append of names to names that must grow, at a step of a region that draws its order -/
theorem step_growN {ops : Array Oper} {o : Oper} {a : Act} {w : World} {K : Act → World → Prop} {Q : Exit → Act → World → Prop} {X : Prop} (hgd : o.guard = none) (s x : Operand)
    (ho : o.op = .call { callee := .builtin .append, args := #[s, x], argTypes := #[84, 84] })
    (A : Option Addr) (n c : Nat) (ns : List UInt64) (hs : a.eval s = .slice A n c) (hra : SlN w A n c ns) (hn : 0 < n)
    (A2 : Option Addr) (m c2 : Nat) (ns2 : List UInt64) (hx : a.eval x = .slice A2 m c2) (hr : SlN w A2 m c2 ns2) (hm : 0 < m) (hg : c < n + m) (hb : n + m ≤ 1000000) (r : Nat) (hnr : n + m = r)
    (h : ∀ A' c' w', w'.ownsRow w.heap.size 61 8 (.slice A' r c') r (ncs (ns ++ ns2)) → Ext w w' → K (a.put o.dst (.slice A' r c')) w') : if Region.wanted o (yielded ops a.tmps) = true then Oper.wp Try.prog o a w K Q else X := by
  subst hnr
  have hw : Region.wanted o (yielded ops a.tmps) = true := by simp [Region.wanted, hgd]
  rw [if_pos hw]
  refine wp_grow namesE s x ho A n c (ncs ns) hs hra.rd (by rw [ncs_length, hra.len]) hn A2 m c2 (ncs ns2) hx hr.rd (by rw [ncs_length, hr.len]) hm (fun u hu => ?_) hg (by omega) (by omega) fun A' c' w' h2 h3 => h A' c' w' ?_ h3
  · simp only [ncs, List.mem_flatMap] at hu
    obtain ⟨q, _, hq⟩ := hu
    exact bcs_one _ u hq
  · rw [ncs_append]; exact h2
def partU (seed : UInt64) (a t : Int) (j : Nat) (m : UInt64) : List UInt64 := oneSig (keyU seed a t (j : Int)) m ++ pathU (leavesU seed a t) j
theorem partU_length (seed : UInt64) (a t : Int) (j : Nat) (m : UInt64) (h : j < 32) : (partU seed a t j m).length = 23 := by
  have h1 := dep32 j h
  simp only [partU, oneSig, List.length_append, List.length_map, List.length_range, pathU_length, leavesU_length, h1]
def SignedOut (base n : Nat) (l : List UInt8) (ns : List UInt64) (w : World) (B M : Nat) (seed : UInt64) (lv : Int) (e : Ending) (w' : World) : Prop :=
  ∃ A' c', e = .returned (.slice A' (n + 184) c') ∧ OwnB w' base 5 A' (n + 184) c' (l ++ ns.flatMap nmb) ∧ KeyAt w' B M seed lv ∧ GM base M w w'
set_option maxRecDepth 100000 in
set_option maxHeartbeats 2000000 in
theorem signed_any (seed m : UInt64) (B M : Nat) (lv a t : Int) (j : Nat) (ha : (Lit.int .i64 a).wf = true) (ht0 : 0 ≤ t) (ht1 : t ≤ 100000) (hj : j < 32) (base : Nat) (A : Option Addr) (n c : Nat) (l : List UInt8) (w : World) (hK : KeyAt w B M seed lv) (hO : OwnB w base 5 A n c l) (hn : n ≤ 1000000) (hb : base ≤ w.heap.size) :
    Calls Try.prog 68 #[.pointer (some ⟨B, 0, none⟩), .slice A n c, .int .i64 a, .int .i64 t, .int .i64 (j : Int), .agg (nmc m)] w (SignedOut base n l (partU seed a t j m) w B M seed lv) := by
  have hMw : M < w.heap.size := by obtain ⟨es, ck, hm, _⟩ := hK.map; exact (Array.getElem?_eq_some_iff.1 hm).1
  have HK := Lib.hid (hK.ext ((Ext.refl w).alloc' (.cells (nmc m) 61)))
  have HO := Lib.hid (hO.alloc (.cells (nmc m) 61))
  have HBM := Lib.hid (Blk.new w 61 (nmc m))
  have HG0 := Lib.hid (GM.ext (M := M) ((Ext.refl w).alloc' (.cells (nmc m) 61)) hb)
  have hb0 : base ≤ (w.alloc (.cells (nmc m) 61)).heap.size := by simp; omega
  clear hK hO
  go_enter Try.func68, Try.ntmps68
  go_wp2_with fail
  refine (tree_any seed B M lv a t ha ht0 ht1 _ HK.out).mono ?_
  rintro e w1 ⟨g1, rfl, hT1, hK1, hG1⟩
  have HO1 := Lib.hid (show OwnB w1 base 5 A n c l from by
    refine ⟨HO.out.1, ?_⟩
    rcases HO.out.2 with h2 | ⟨g, cap, cur, hv, hg, hh, r⟩
    · exact .inl h2
    · refine .inr ⟨g, cap, cur, hv, hg, ?_, r⟩
      rw [hG1.block g (Array.getElem?_eq_some_iff.1 hh).1 (fun e1 => by
        obtain ⟨es, ck, hm, _⟩ := HK.out.map
        injection e1 with e1; subst e1; rw [hm] at hh; cases hh), hh])
  have HBM1 := Lib.hid (HBM.out.grown hG1 (fun e => by injection e; omega))
  have HG1 := Lib.hid (HG0.out.trans (GM.map hG1 hb0))
  have HT1 := Lib.hid hT1
  have HK1 := Lib.hid hK1
  have hb1 : base ≤ w1.heap.size := Nat.le_trans hb HG1.out.size
  clear hT1 hK1 hG1 hb0
  go_wp2_with fail
  refine (path_any 32 j _ _ _ _ (by omega) hj HT1.out.sl).mono ?_
  rintro e w2 ⟨A2, c2, rfl, ho2, he2⟩
  rw [dep32 j hj] at ho2 ⊢
  have HP := Lib.hid (SlN.of_own ho2)
  have HK2 := Lib.hid (HK1.out.ext he2)
  have HO2 := Lib.hid (HO1.out.ext he2)
  have HBM2 := Lib.hid (HBM1.out.ext he2)
  have HG2 := Lib.hid (HG1.out.trans (GM.ext he2 hb1))
  have hb2 : base ≤ w2.heap.size := Nat.le_trans hb HG2.out.size
  clear ho2 he2 HO1 HK1 HT1
  go_wp2_with fail
  have HS2 := Lib.hid (fun (w' : World) (hx : Ext w2 w') => (cells8 (HBM2.out.ext hx) : ∀ i, i < 8 → w'.cell? ⟨w.heap.size, i, none⟩ = some (.int .u8 (nb8 m i))))
  have HSD := Lib.hid (fun (w' : World) (hx : Ext w2 w') => (HK2.out.ext hx).seed)
  have HPP := Lib.hid (fun (w' : World) (hx : Ext w2 w') => HP.out.ext hx)
  have HZ := Lib.hid (show (0 : Int) ≤ t ∧ t ≤ 100000 from ⟨ht0, ht1⟩)
  have hX := (Ext.refl w2).drew'
  go_region_held3 (fun w' => (∀ i, i < 8 → w'.cell? ⟨w.heap.size, i, none⟩ = some (.int .u8 (nb8 m i)))) (first | (with_reducible exact HS2.out _ hX) | fail "CELLS") (first | (go_at_call 92; (with_reducible refine (seedOf_any seed B a t _ HZ.out.1 HZ.out.2 _ (HSD.out _ hX)).mono ?_); rintro e w3 ⟨rfl, he3⟩; have hX := hX.trans he3) | (go_at_call 95; (with_reducible refine (oneSign_any _ m _).mono ?_); rintro e w4 ⟨g4, rfl, hb4, hge4, he4⟩; have hN4 := SlN.of_blk (n := 18) hb4 (by simp [oneSig]) (by omega); have hX := hX.trans he4; have hP4 := HPP.out _ hX) | (refine step_growN rfl (.tmp 32) (.tmp 33) rfl (some ⟨g4, 0, none⟩) 18 18 _ (by rfl) hN4 (by omega) A2 5 c2 _ (by rfl) hP4 (by omega) (by omega) (by omega) 23 rfl ?_; intro A5 c5 w5 ho5 he5; have hX := hX.trans he5) | fail "ARM")
  go_wp2_with fail
  have ho5' : w5.ownsRow w4.heap.size 61 8 (.slice A5 23 c5) 23 (ncs (partU seed a t j m)) := ho5
  have HN5 := Lib.hid ho5'
  have HK5 := Lib.hid (HK2.out.ext hX)
  have HO5 := Lib.hid (HO2.out.ext hX)
  have HG5 := Lib.hid (HG2.out.trans (GM.ext hX hb2))
  have HLN := Lib.hid (partU_length seed a t j m hj)
  generalize w4.heap.size = h4 at *
  clear hb4 hge4 he3 he4 hN4 hP4 ho5 ho5' he5 hX
  clear HS2 HSD HPP HZ HP HK2 HO2 HG2 HBM2
  generalize partU seed a t j m = ns at *
  go_loopw [1, 36] (fun v i wr => ∃ (k : Nat) (A1 : Option Addr) (c1 : Nat), k ≤ 23 ∧ i = .int .i64 (k : Int) ∧ v = .slice A1 (n + k * 8) c1 ∧ OwnB wr base 5 A1 (n + k * 8) c1 (l ++ (ns.take k).flatMap nmb) ∧ wr.ownsRow h4 61 8 (.slice A5 23 c5) 23 (ncs ns) ∧ KeyAt wr B M seed lv ∧ GM base M w wr) (fun _ i _ => 23 - (intOf i).toNat)
  case atStart => exact ⟨0, A, c, by omega, rfl, by simp, by simpa using HO5.out, HN5.out, HK5.out, HG5.out⟩
  case round =>
    obtain ⟨k, A1, c1, hk, rfl, rfl, hO, hN, hK, hG⟩ := hrel
    have HOk := Lib.hid hO
    have HNk := Lib.hid hN
    have HKk := Lib.hid hK
    have HGk := Lib.hid hG
    clear hO hN hK hG
    by_cases hlt : k < 23
    · obtain ⟨g5, rfl, _, hra⟩ := own_at HNk.out (by omega)
      have hkl : k < ns.length := by have := HLN.out; omega
      have hrk := name_nth hra hkl
      have HF := Lib.hid (show l ++ (ns.take (k + 1)).flatMap nmb = l ++ ((ns.take k).flatMap nmb ++ nmb (nthN ns k)) from by rw [flat_take ns k hkl]; rfl)
      have j0 : (0 : Int) ≤ (k : Int) := by omega
      have j1 : (k : Int) < 23 := by omega
      have hsn := run_storeNewN wr wr.heap.size rfl (nthN ns k)
      have hbk : base ≤ wr.heap.size := Nat.le_trans hb HGk.out.size
      rw [Nat.zero_add] at hrk
      clear hra hkl
      go_wp2_with (first | (with_reducible refine wpList_loadN rfl (.tmp 38) rfl g5 (k * 8) rfl (nthN ns k) hrk ?_) | (at_builtin; go_must (refine wpList_appBL bytesE rfl (.tmp 40) (.tmp 41) rfl base A1 (n + k * 8) c1 (l ++ (ns.take k).flatMap nmb) rfl (HOk.out.alloc _) _ 8 8 (nmb (nthN ns k)) rfl (SlB.blkN (Blk.new _ _ _)) (by omega) (by omega) (by simp; omega) ?_)))
      intro A6 c6 w6 hO6 hG6 hL6
      have HO6 := Lib.hid (show OwnB w6 base 5 A6 (n + (k + 1) * 8) c6 (l ++ (ns.take (k + 1)).flatMap nmb) from by rw [HF.out, show n + (k + 1) * 8 = n + k * 8 + 8 from by omega]; simpa using hO6)
      have HN6 := Lib.hid (own_two (HNk.out.alloc _) (HOk.out.alloc _) (by decide) hG6)
      have HK6 := Lib.hid ((HKk.out.ext ((Ext.refl wr).alloc' _)).row hG6 (own_typed (HOk.out.alloc _)))
      have HG6 := Lib.hid (HGk.out.trans ((GM.ext ((Ext.refl wr).alloc' _) hbk).trans (GM.row hG6 (fun r hr => (World.ownsRow.lt HOk.out r hr).1) (by simp; omega))))
      have HE6 := Lib.hid (show n + k * 8 + 8 = n + (k + 1) * 8 by omega)
      clear hO6 hG6 hL6 hsn hrk
      go_wp2_with fail
      go_roundw
      case rel => exact ⟨k + 1, A6, c6, by omega, by go_num, by rw [HE6.out], HO6.out, HN6.out, HK6.out, HG6.out⟩
      case measure => simp [intOf]; omega
    · obtain rfl : k = 23 := by omega
      have HT := Lib.hid (show ns.take 23 = ns from List.take_of_length_le (by have := HLN.out; omega))
      go_wp2_with fail
      go_ret
      exact ⟨A1, c1, rfl, by have := HOk.out; rwa [HT.out] at this, HKk.out, HGk.out⟩
end Go.Proofs.Ytengpfpeeihaoaa
