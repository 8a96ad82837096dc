/- bytes.Clone, slices.Clone of operations, Clone of a transaction. -/
import Derived.Test.YtcfmlgbocdjabaaGreatPlB
import Derived.Lib.LazyBuf
namespace Go.Proofs.YtcfmlgbocdjabaaGreat
open Go.RowKit
set_option linter.unusedVariables false
set_option linter.unusedSimpArgs false
attribute [local go_sem ↓] Go.wp_at_zero Go.wp_at_succ

set_option maxRecDepth 100000 in
set_option maxHeartbeats 1000000 in
theorem byClone_any (A : Option Addr) (n c : Nat) (l : List UInt8) (w : World) (h : SlB w A n c l) (hn : n ≤ 140737488355328) :
    Calls Tryz.prog 63 #[.slice A n c] w fun e w' => ∃ A' c', e = .returned (.slice A' n c') ∧ OwnB w' w.heap.size 5 A' n c' l ∧ Ext w w' := by
  rcases A with _ | ad
  · have hl : l = [] := by
      rcases h.rd with h | ⟨b, o, h, _⟩
      · have := congrArg List.length h; rw [bcs_length] at this; exact List.length_eq_zero_iff.1 this
      · cases h
    subst hl
    obtain rfl : n = 0 := by have := h.len; simpa using this.symm
    have hq := run_eql_slice_nil (P := Tryz.prog) w 29 5 none 0 c Tryz.underlying29
    go_enter Tryz.func63, Tryz.ntmps63
    go_wp2_with fail
    go_ret
    exact ⟨_, _, rfl, OwnB.nil _ _ _, Ext.refl _⟩
  · have hq := run_eql_slice_nil (P := Tryz.prog) w 29 5 (some ad) n c Tryz.underlying29
    go_enter Tryz.func63, Tryz.ntmps63
    go_wp2_with (at_builtin; go_must (refine wpList_appB bytesE rfl (.tmp 5) (.tmp 6) rfl w.heap.size _ _ _ [] rfl ?r0 _ _ _ l rfl ?r1 (by omega) ?b1 w ?w1 ?_))
    case r0 => exact OwnB.made w w.heap.size _ 0 w.heap.size rfl (Nat.le_refl _) (by omega) rfl
    case r1 => exact h.ext ((Ext.refl w).alloc' _)
    case b1 => exact ((Ext.refl w).alloc' _).size
    case w1 => exact (Ext.refl w).alloc' _
    intro A' c' w' hO hB hs
    go_wp2_with fail
    go_ret
    exact ⟨_, _, rfl, hO, hB⟩
set_option maxRecDepth 100000 in
set_option maxHeartbeats 1000000 in
theorem opClone_any (A : Option Addr) (n c : Nat) (L : List OpR) (w : World) (h : SlO w A n c L) (hn : n ≤ 1000) :
    Calls Tryz.prog 62 #[.slice A n c] w fun e w' => ∃ A' c', e = .returned (.slice A' n c') ∧ w'.ownsRow w.heap.size 50 23 (.slice A' n c') n (ocs L) ∧ Ext w w' := by
  rcases A with _ | ad
  · have hl : L = [] := by
      rcases h.rd with h | ⟨b, o, h, _⟩
      · have := congrArg List.length h; rw [ocs_length] at this; exact List.length_eq_zero_iff.1 (by simp at this; omega)
      · cases h
    subst hl
    obtain rfl : n = 0 := by have := h.len; simpa using this.symm
    have hq := run_eql_slice_nil (P := Tryz.prog) w 24 50 none 0 c Tryz.underlying24
    go_enter Tryz.func62, Tryz.ntmps62
    go_wp2_with fail
    go_ret
    exact ⟨_, _, rfl, World.ownsRow_nil _ _ _ _, Ext.refl _⟩
  · have hq := run_eql_slice_nil (P := Tryz.prog) w 24 50 (some ad) n c Tryz.underlying24
    have HO0 := Lib.hid (show (w.alloc (.cells #[] 50)).ownsRow w.heap.size 50 23 (.slice (some ⟨w.heap.size, 0, none⟩) 0 0) 0 [] from World.ownsRow_made w #[] 0 (Nat.le_refl _) (Nat.zero_le _) rfl)
    have HS := Lib.hid (h.ext ((Ext.refl w).alloc' (.cells #[] 50)))
    have HX := Lib.hid ((Ext.refl w).alloc' (.cells #[] 50))
    have HL := Lib.hid (show (ocs L).length = n * 23 by rw [ocs_length, h.len])
    clear h
    go_enter Tryz.func62, Tryz.ntmps62
    go_wp2_with (at_builtin; go_must (refine wpList_appGG opE rfl (.tmp 5) (.tmp 6) rfl w.heap.size _ _ _ [] rfl HO0.out _ n c (ocs L) rfl HS.out.rd HL.out (ocs_one L) (by omega) (by omega) HX.out.size ?_; intro A' c' w' hO hg))
    go_ret
    exact ⟨_, _, rfl, by simpa using hO, Below.grown HX.out hg HX.out.size (fun k hk => (World.ownsRow.lt HO0.out k hk).1)⟩
/-! a slice of an operation in a row is replaced -/
def putPre (R : OpR) (P : Option Addr) (d : Nat) : OpR := { R with A1 := P, c1 := d }
def putPrf (R : OpR) (P : Option Addr) (d : Nat) : OpR := { R with A2 := P, c2 := d }
theorem putPre_cells (R : OpR) (P : Option Addr) (d : Nat) : (opL R).set 21 (.slice P R.n1 d) = opL (putPre R P d) := rfl
theorem putPrf_cells (R : OpR) (P : Option Addr) (d : Nat) : (opL R).set 22 (.slice P R.n2 d) = opL (putPrf R P d) := rfl
theorem ocs_put (i : Nat) (hi : i < 23) (v : Value) (R' : OpR) : ∀ (M : List OpR) (k : Nat), k < M.length → (opL (nthO M k)).set i v = opL R' → (ocs M).set (k * 23 + i) v = ocs (M.set k R')
  | [], k, hk, _ => by simp at hk
  | x :: r, 0, _, h => by
    have e : nthO (x :: r) 0 = x := rfl
    rw [e] at h
    rw [ocs_cons, List.set_cons_zero, ocs_cons, ← h, List.set_append_left _ _ (by rw [opL_length]; omega)]
    congr 2; omega
  | x :: r, k + 1, hk, h => by
    have e : nthO (x :: r) (k + 1) = nthO r k := rfl
    rw [e] at h
    rw [ocs_cons, List.set_cons_succ, ocs_cons, List.set_append_right _ _ (by rw [opL_length]; omega), opL_length]
    have := ocs_put i hi v R' r k (by simpa using hk) h
    rw [show (k + 1) * 23 + i - 23 = k * 23 + i by omega, this]
/-- bytes that were there before, or in a row of the call's own -/
def Fr (w0 w : World) (A : Option Addr) (n c : Nat) (l : List UInt8) : Prop := SlB w0 A n c l ∨ OwnB w w0.heap.size 5 A n c l
theorem Fr.sl {w0 w : World} {A : Option Addr} {n c : Nat} {l : List UInt8} (h : Fr w0 w A n c l) (he : Ext w0 w) : SlB w A n c l := by
  rcases h with h | h
  · exact h.ext he
  · exact h.sl
theorem Fr.ext {w0 w w' : World} {A : Option Addr} {n c : Nat} {l : List UInt8} (h : Fr w0 w A n c l) (he : Ext w w') : Fr w0 w' A n c l := by
  rcases h with h | h
  · exact .inl h
  · exact .inr (OwnB.ext h he)
theorem Fr.kept {w0 w w' : World} {A : Option Addr} {n c X : Nat} {l : List UInt8} {t : TypeId} {cs : Array Value} (h : Fr w0 w A n c l) (hg : w.grownBy w' (some X)) (hb : Blk w X t cs) (hne : t ≠ 5) : Fr w0 w' A n c l := by
  rcases h with h | h
  · exact .inl h
  · exact .inr (World.ownsRow.kept h hg (.inr (Ne.symm (own_other h hb hne))))
def FrO (w0 w : World) (R : OpR) : Prop := Fr w0 w R.A1 R.n1 R.c1 R.pre ∧ Fr w0 w R.A2 R.n2 R.c2 R.prf
theorem FrO.ok {w0 w : World} {R : OpR} (h : FrO w0 w R) (he : Ext w0 w) : R.ok w := ⟨h.1.sl he, h.2.sl he⟩
theorem FrO.ext {w0 w w' : World} {R : OpR} (h : FrO w0 w R) (he : Ext w w') : FrO w0 w' R := ⟨h.1.ext he, h.2.ext he⟩
theorem FrO.kept {w0 w w' : World} {R : OpR} {X : Nat} {t : TypeId} {cs : Array Value} (h : FrO w0 w R) (hg : w.grownBy w' (some X)) (hb : Blk w X t cs) (hne : t ≠ 5) : FrO w0 w' R := ⟨h.1.kept hg hb hne, h.2.kept hg hb hne⟩
abbrev zero3 : Array Value := #[.int .i64 0, .int .i64 0, .slice none 0 0]
/-- the state of Clone: the transaction in G, the result's variable in H, the operations in a row of its own -/
structure ClS (w0 w : World) (G H : Nat) (ac sq : Int) (A : Option Addr) (n c : Nat) (L M : List OpR) : Prop where
  box : Blk w G 26 (txA ac sq A n c)
  res : Blk w H 26 zero3
  own : w.ownsRow w0.heap.size 50 23 (.slice A n c) n (ocs M)
  ok : ∀ R, R ∈ M → FrO w0 w R
  val : M.map OpR.v = L.map OpR.v
  low : Ext w0 w
  hH : w0.heap.size ≤ H
section
variable {w0 w w' w1 : World} {G H : Nat} {ac sq : Int} {A P : Option Addr} {n c d b : Nat} {L M : List OpR}
theorem ClS.ext (h : ClS w0 w G H ac sq A n c L M) (he : Ext w w') : ClS w0 w' G H ac sq A n c L M :=
  ⟨h.box.ext he, h.res.ext he, own_ext h.own he, fun R hR => (h.ok R hR).ext he, h.val, h.low.trans he, h.hH⟩
theorem ClS.len (h : ClS w0 w G H ac sq A n c L M) : M.length = n := by have := h.own.1; rw [ocs_length] at this; omega
theorem ClS.at (h : ClS w0 w G H ac sq A n c L M) (hn : 0 < n) : ∃ b, A = some ⟨b, 0, none⟩ ∧ w0.heap.size ≤ b ∧ Blk w G 26 (txA ac sq (some ⟨b, 0, none⟩) n c) ∧ (∀ k, k < n → w.rangeAt b (k * 23) (opL (nthO M k))) ∧ (∀ k, w.frozen? ⟨b, k, none⟩ = false) := by
  have hl := h.len
  obtain ⟨b, o, e, hr, hb⟩ : ∃ b o, A = some ⟨b, o, none⟩ ∧ w.rangeAt b o (ocs M) ∧ b < w.heap.size := Rd.at (Rd.of_own h.own) (by intro e; have := congrArg List.length e; rw [ocs_length] at this; simp at this; omega)
  have h' := h.own
  rcases h'.2 with ⟨hv, h0⟩ | ⟨g, cap, cur, hv, hbb, hh, _⟩
  · omega
  · injection hv with hA _ hc
    rw [e] at hA
    injection hA with hA
    injection hA with h1 h2
    subst h1; subst h2; subst e
    refine ⟨b, rfl, hbb, h.box, fun k hk => ?_, fun k => World.ownsRow.frozenAt h.own k⟩
    have := op_at hr (k := k) (by rw [hl]; exact hk)
    rwa [Nat.zero_add] at this
theorem ClS.row {b : Nat} (h : ClS w0 w G H ac sq (some ⟨b, 0, none⟩) n c L M) {k : Nat} (hk : k < n) : w.rangeAt b (k * 23) (opL (nthO M k)) := by
  obtain ⟨b', e, _, _, hr, _⟩ := h.at (by omega)
  injection e with e
  injection e with e1
  subst e1
  exact hr k hk
theorem ClS.apart {b : Nat} (h : ClS w0 w G H ac sq (some ⟨b, 0, none⟩) n c L M) : G ≠ b ∧ H ≠ b :=
  ⟨fun e => own_other h.own h.box (by decide) (congrArg some e), fun e => own_other h.own h.res (by decide) (congrArg some e)⟩
theorem nthO_set {M : List OpR} {k : Nat} (R : OpR) (hk : k < M.length) : nthO (M.set k R) k = R := by
  simp [nthO, List.getElem?_set, hk]
theorem mem_set_of {M : List OpR} {k : Nat} {R Q : OpR} (h : Q ∈ M.set k R) : Q = R ∨ Q ∈ M := by
  rcases List.mem_or_eq_of_mem_set h with h | h
  · exact .inr h
  · exact .inl h
theorem map_set_v {M : List OpR} {k : Nat} {R : OpR} (hk : k < M.length) (hv : R.v = (nthO M k).v) : (M.set k R).map OpR.v = M.map OpR.v := by
  rw [List.map_set, hv]
  apply List.ext_getElem?
  intro i
  rw [List.getElem?_set]
  split
  · rename_i e; subst e
    simp [nthO, hk]
  · rfl
/-- a slice of operation k is replaced by one of one's own -/
theorem ClS.put (h : ClS w0 w G H ac sq (some ⟨b, 0, none⟩) n c L M) {k : Nat} (hk : k < n) (i : Nat) (hi : i < 23) (v : Value) (R' : OpR) (hc : (opL (nthO M k)).set i v = opL R') (hv : R'.v = (nthO M k).v) (he : Ext w w1) (hf : FrO w0 w1 R') (hG : G ≠ b) (hHb : H ≠ b) :
    ClS w0 (w1.setCell ⟨b, k * 23 + i, none⟩ v) G H ac sq (some ⟨b, 0, none⟩) n c L (M.set k R') := by
  have h1 := h.ext he
  have hl := h.len
  have hs := World.ownsRow.stored h1.own (k * 23 + i) v
  rw [ocs_put i hi v R' M k (by omega) hc] at hs
  obtain ⟨hs1, hs2⟩ := hs
  have hbb : ∃ cs, Blk w1 b 50 cs := by
    rcases h1.own.2 with ⟨hv, h0⟩ | ⟨g, cap, cur, hv, hbb, hh, _⟩
    · cases hv
    · injection hv with hA _ hc
      injection hA with hA
      injection hA with e1 e2
      subst e1
      exact ⟨cur, hh⟩
  obtain ⟨cs, hbl⟩ := hbb
  have hlow : w0.heap.size ≤ b := (World.ownsRow.lt h1.own b rfl).1
  refine ⟨h1.box.grown hs2 (fun e => hG (by injection e)), h1.res.grown hs2 (fun e => hHb (by injection e)), hs1, fun Q hQ => ?_, by rw [map_set_v (by omega) hv]; exact h.val, h1.low.setCell (p := ⟨b, k * 23 + i, none⟩) hlow _, h.hH⟩
  rcases mem_set_of hQ with rfl | hQ
  · exact hf.kept hs2 hbl (by decide)
  · exact (h1.ok Q hQ).kept hs2 hbl (by decide)
/-- a store into a row of operations leaves bytes of one's own as they are -/
theorem ClS.bytes {b base : Nat} (h : ClS w0 w G H ac sq (some ⟨b, 0, none⟩) n c L M) (he : Ext w w1) (j : Nat) (v : Value) {A2 : Option Addr} {m d2 : Nat} {l : List UInt8} (hq : OwnB w1 base 5 A2 m d2 l) : OwnB (w1.setCell ⟨b, j, none⟩ v) base 5 A2 m d2 l := by
  have h1 := h.ext he
  rcases h1.own.2 with ⟨hv, h0⟩ | ⟨g, cap, cur, hv, hbb, hh, _⟩
  · cases hv
  · injection hv with hA _ hc
    injection hA with hA
    injection hA with e1 e2
    subst e1
    have hbl : Blk w1 b 50 cur := hh
    exact World.ownsRow.kept hq (grown_set w1 b j v) (.inr (Ne.symm (own_other hq hbl (by decide))))
end
/-- a transaction out of its parts -/
def ClOut (w : World) (ac sq : Int) (n : Nat) (L : List OpR) (e : Ending) (w' : World) : Prop :=
  ∃ A' c' M, e = .returned (.agg (txA ac sq A' n c')) ∧ w'.ownsRow w.heap.size 50 23 (.slice A' n c') n (ocs M) ∧ (∀ R, R ∈ M → OwnOp w' w.heap.size R) ∧ M.map OpR.v = L.map OpR.v ∧ Ext w w'
theorem opL_frozen {w : World} {b o : Nat} {R : OpR} (h : w.rangeAt b o (opL R)) : w.cell? ⟨b, o + 21, none⟩ = some (.slice R.A1 R.n1 R.c1) ∧ w.cell? ⟨b, o + 22, none⟩ = some (.slice R.A2 R.n2 R.c2) := opL_cells h
section
variable {o : Oper} {a : Act} {w : World} {ops : Array Oper} {rest : List Oper} {Q : Exit → Act → World → Prop}
theorem wpList_storeTx (hgd : o.guard = none) (x y : Operand) (ho : o.op = .store 26 x y) (g : Nat) (cs : Array Value) (hx : a.eval x = .pointer (some ⟨g, 0, none⟩)) (hy : a.eval y = .agg cs) (ht : w.there g 0 3) (hs : cs.size = 3) (h1 : cs.all (·.oneCell') = true)
    (h : wpList Tryz.prog ops Q rest (a.put o.dst undef) (w.setCells g 0 cs.toList)) : wpList Tryz.prog ops Q (o :: rest) a w :=
  wpList_store_mid hgd 26 x y ho g 0 cs hx hy (by rw [hs]; exact ht) (by rw [hs]; kernel_rfl) h1 h
end
theorem txA_all (ac sq : Int) (A : Option Addr) (n c : Nat) : (txA ac sq A n c).all (·.oneCell') = true := by simp [txA, Value.oneCell']
theorem zero3_lit : zero3 = txA 0 0 none 0 0 := rfl
set_option maxRecDepth 100000 in
set_option maxHeartbeats 4000000 in
theorem txClone_any (ac sq : Int) (A : Option Addr) (n c : Nat) (L : List OpR) (w : World) (hS : SlO w A n c L) (hn : n ≤ 1000) (hb : ∀ R, R ∈ L → R.n1 ≤ 100000 ∧ R.n2 ≤ 100000) :
    Calls Tryz.prog 26 #[.agg (txA ac sq A n c)] w (ClOut w ac sq n L) := by
  have hE := ((Ext.refl w).alloc' (.cells (txA ac sq A n c) 26)).alloc' (.cells zero3 26)
  have HB1 := Lib.hid ((Blk.new w 26 (txA ac sq A n c)).alloc (.cells zero3 26))
  have HB2 := Lib.hid (show Blk ((w.alloc (.cells (txA ac sq A n c) 26)).alloc (.cells zero3 26)) (w.heap.size + 1) 26 zero3 from Blk.newAt _ _ _ _ (by simp))
  have HE := Lib.hid hE
  have HS := Lib.hid (hS.ext hE)
  have HS0 := Lib.hid hS
  have HOC := Lib.hid (opClone_any A n c L _ HS.out hn)
  have HBD := Lib.hid hb
  have HLEN := Lib.hid hS.len
  clear hE hS hb
  go_enter Tryz.func26, Tryz.ntmps26
  go_wp2_with fail
  refine HOC.out.mono ?_
  rintro e w1 ⟨A1, c1, rfl, hO1, he1⟩
  have hq := (HB1.out.ext he1).cell 2
  have hf := (HB1.out.ext he1).frozen 2
  have hlow := own_mono hO1 HE.out.size
  obtain ⟨w2, hw2⟩ : ∃ w2, w1.setCell ⟨w.heap.size, 2, none⟩ (.slice A1 n c1) = w2 := ⟨_, rfl⟩
  have HST := Lib.hid (show ClS w w2 w.heap.size (w.heap.size + 1) ac sq A1 n c1 L L from by
    have g := grown_set w1 w.heap.size 2 (.slice A1 n c1)
    have b1 := (HB1.out.ext he1).set 2 (.slice A1 n c1)
    rw [← hw2]
    refine ⟨b1, (HB2.out.ext he1).grown g (fun e => by injection e; omega), hlow.kept g (.inr (Ne.symm (own_other hlow (HB1.out.ext he1) (by decide)))), fun R hR => ⟨.inl (HS0.out.ok R hR).pre, .inl (HS0.out.ok R hR).prf⟩, rfl, (HE.out.trans he1).setCell (p := ⟨w.heap.size, 2, none⟩) (Nat.le_refl _) _, by omega⟩)
  clear hO1 he1 HOC HB1 HB2 hlow
  have hq0 : w2.cell? ⟨w.heap.size, 2, none⟩ = some (.slice A1 n c1) := HST.out.box.cell 2
  go_wp2_with fail
  clear hq hf hw2
  go_loopw [11] (fun i wr => ∃ (k : Nat) (M : List OpR), k ≤ n ∧ i = .int .i64 (k : Int) ∧ (∀ j, j < n → (nthO M j).n1 ≤ 100000 ∧ (nthO M j).n2 ≤ 100000) ∧ (∀ j, j < k → OwnOp wr w.heap.size (nthO M j)) ∧ Hid (ClS w wr w.heap.size (w.heap.size + 1) ac sq A1 n c1 L M)) (fun i _ => n - (intOf i).toNat)
  case atStart => exact ⟨0, L, Nat.zero_le _, rfl, fun j hj => HBD.out _ (nthO_mem (by rw [HLEN.out]; exact hj)), fun j hj => absurd hj (Nat.not_lt_zero _), HST⟩
  case round =>
    obtain ⟨k, M, hk, rfl, hbd, how, HD⟩ := hrel
    clear HST hq0
    have HBD := Lib.hid hbd
    have HOW := Lib.hid how
    clear hbd how
    by_cases hlt : k < n
    · obtain ⟨b, rfl, hb0, hbx, hrow, hfrz⟩ := HD.out.at (by omega)
      have i0 : (0 : Int) ≤ (k : Int) := by omega
      have i1 : (k : Int) < (n : Int) := by omega
      obtain ⟨R, hR⟩ : ∃ R, nthO M k = R := ⟨_, rfl⟩
      have hrt := hrow k hlt
      rw [hR] at hrt
      obtain ⟨r1, r2⟩ := opL_cells hrt
      have hbk := HBD.out k hlt
      rw [hR] at hbk
      obtain ⟨hm1, hm2⟩ := hbk
      have HFR := Lib.hid (show FrO w wr R by rw [← hR]; exact HD.out.ok _ (nthO_mem (by rw [HD.out.len]; exact hlt)))
      have hq0 : wr.cell? ⟨w.heap.size, 2, none⟩ = some (.slice (some ⟨b, 0, none⟩) n c1) := HD.out.box.cell 2
      have f1 := hfrz (k * 23 + 21)
      have HLOW := Lib.hid HD.out.low
      have HSL := Lib.hid (fun (W : World) (h : Ext wr W) => (HFR.out.1.sl HD.out.low).ext h)
      have hX := Ext.refl wr
      have hbl : b < wr.heap.size := (World.ownsRow.lt HD.out.own b rfl).2
      have HQ := Lib.hid (fun (W : World) (h : Ext wr W) => (⟨(HD.out.ext h).box.cell 2, rangeAt_keep hrt (h.block b hbl)⟩ : W.cell? ⟨w.heap.size, 2, none⟩ = some (.slice (some ⟨b, 0, none⟩) n c1) ∧ W.rangeAt b (k * 23) (opL R)))
      have HF := Lib.hid (fun (W : World) (h : Ext wr W) => World.ownsRow.frozenAt (HD.out.ext h).own (k * 23 + 21))
      clear hbx hrow hfrz hrt hbl
      go_wp2_with fail
      go_region_law (first | (go_simp; go_at_call 63; refine (byClone_any R.A1 R.n1 R.c1 R.pre _ (HSL.out _ hX.drew') (by omega)).mono ?_; rintro e w5 ⟨P, d, rfl, hO5, he5⟩; have hX5 := hX.drew'.trans he5; obtain ⟨g0, g1⟩ := HQ.out _ hX5; obtain ⟨g1, g2⟩ := opL_cells g1; have g3 := HF.out _ hX5) | fail "ARM")
      all_goals (
        obtain ⟨R6, hR6⟩ : ∃ R6, putPre R P d = R6 := ⟨_, rfl⟩
        have HD6 := Lib.hid (HD.out.put hlt 21 (by omega) (.slice P R.n1 d) (putPre R P d) (by rw [hR]; rfl) (by rw [hR]; rfl) hX5 ⟨.inr (own_mono hO5 HLOW.out.size), HFR.out.2.ext hX5⟩ HD.out.apart.1 HD.out.apart.2)
        rw [hR6] at HD6
        have HOW6 := Lib.hid (show ∀ j, j < k → OwnOp (w5.setCell ⟨b, k * 23 + 21, none⟩ (.slice P R.n1 d)) w.heap.size (nthO (M.set k R6) j) from fun j hj => by
          have e : nthO (M.set k R6) j = nthO M j := by simp [nthO, List.getElem?_set, show k ≠ j by omega]
          rw [e]
          exact ⟨HD.out.bytes hX5 _ _ ((HOW.out j hj).ext hX5).1, HD.out.bytes hX5 _ _ ((HOW.out j hj).ext hX5).2⟩)
        have HP6 := Lib.hid (show OwnB (w5.setCell ⟨b, k * 23 + 21, none⟩ (.slice P R.n1 d)) w.heap.size 5 R6.A1 R6.n1 R6.c1 R6.pre from by rw [← hR6]; exact HD.out.bytes hX5 _ _ (own_mono hO5 HLOW.out.size))
        have hb6 : R6.n1 ≤ 100000 ∧ R6.n2 ≤ 100000 := by rw [← hR6]; exact ⟨hm1, hm2⟩
        clear g0 g1 g2 g3
        obtain ⟨w6, hw6⟩ : ∃ w6, w5.setCell ⟨b, k * 23 + 21, none⟩ (.slice P R.n1 d) = w6 := ⟨_, rfl⟩
        rw [hw6] at HD6 HOW6 HP6 ⊢
        have HB6 := Lib.hid (show ∀ j, j < n → (nthO (M.set k R6) j).n1 ≤ 100000 ∧ (nthO (M.set k R6) j).n2 ≤ 100000 from fun j hj => by
          by_cases e : j = k
          · subst e; rw [nthO_set _ (by rw [HD.out.len]; exact hj)]; exact hb6
          · have : nthO (M.set k R6) j = nthO M j := by simp [nthO, List.getElem?_set, Ne.symm e]
            rw [this]; exact HBD.out j hj)
        obtain ⟨M6, hM6⟩ : ∃ M6, M.set k R6 = M6 := ⟨_, rfl⟩
        have hn6 : nthO M6 k = R6 := by rw [← hM6]; exact nthO_set _ (by rw [HD.out.len]; exact hlt)
        rw [hM6] at HD6 HB6 HOW6
        clear hw6 hM6 hR6 hO5 he5 hX5 HQ HF HSL HFR HLOW HD HBD HOW hR hq0 f1 r1 r2
        have hrt := HD6.out.row hlt
        rw [hn6] at hrt
        have HFR := Lib.hid (show FrO w w6 R6 by rw [← hn6]; exact HD6.out.ok _ (nthO_mem (by rw [HD6.out.len]; exact hlt)))
        have hq0 : w6.cell? ⟨w.heap.size, 2, none⟩ = some (.slice (some ⟨b, 0, none⟩) n c1) := HD6.out.box.cell 2
        have HLOW := Lib.hid HD6.out.low
        have HSL := Lib.hid (fun (W : World) (h : Ext w6 W) => (HFR.out.2.sl HD6.out.low).ext h)
        have hX := Ext.refl w6
        have hbl : b < w6.heap.size := (World.ownsRow.lt HD6.out.own b rfl).2
        have HQ := Lib.hid (fun (W : World) (h : Ext w6 W) => (⟨(HD6.out.ext h).box.cell 2, rangeAt_keep hrt (h.block b hbl)⟩ : W.cell? ⟨w.heap.size, 2, none⟩ = some (.slice (some ⟨b, 0, none⟩) n c1) ∧ W.rangeAt b (k * 23) (opL R6)))
        have HF := Lib.hid (fun (W : World) (h : Ext w6 W) => World.ownsRow.frozenAt (HD6.out.ext h).own (k * 23 + 22))
        obtain ⟨r1, r2⟩ := opL_cells hrt
        obtain ⟨hm3, hm4⟩ := hb6
        clear hrt hbl hm1 hm2
        go_wp2_with fail
        go_region_law (first | (go_simp; go_at_call 63; refine (byClone_any R6.A2 R6.n2 R6.c2 R6.prf _ (HSL.out _ hX.drew') (by omega)).mono ?_; rintro e w7 ⟨P7, d7, rfl, hO7, he7⟩; have hX7 := hX.drew'.trans he7; obtain ⟨g0, g1⟩ := HQ.out _ hX7; obtain ⟨g1, g2⟩ := opL_cells g1; have g3 := HF.out _ hX7) | fail "ARM")
        all_goals (
          have HD8 := Lib.hid (HD6.out.put hlt 22 (by omega) (.slice P7 R6.n2 d7) (putPrf R6 P7 d7) (by rw [hn6]; rfl) (by rw [hn6]; rfl) hX7 ⟨HFR.out.1.ext hX7, .inr (own_mono hO7 HLOW.out.size)⟩ HD6.out.apart.1 HD6.out.apart.2)
          have HB8 := Lib.hid (show ∀ j, j < n → (nthO (M6.set k (putPrf R6 P7 d7)) j).n1 ≤ 100000 ∧ (nthO (M6.set k (putPrf R6 P7 d7)) j).n2 ≤ 100000 from fun j hj => by
            by_cases e : j = k
            · subst e; rw [nthO_set _ (by rw [HD6.out.len]; exact hj)]; exact ⟨hm3, hm4⟩
            · have : nthO (M6.set k (putPrf R6 P7 d7)) j = nthO M6 j := by simp [nthO, List.getElem?_set, Ne.symm e]
              rw [this]; exact HB6.out j hj)
          have HOW8 := Lib.hid (show ∀ j, j < k + 1 → OwnOp (w7.setCell ⟨b, k * 23 + 22, none⟩ (.slice P7 R6.n2 d7)) w.heap.size (nthO (M6.set k (putPrf R6 P7 d7)) j) from fun j hj => by
            by_cases e : j = k
            · subst e
              rw [nthO_set _ (by rw [HD6.out.len]; exact hlt)]
              exact ⟨HD6.out.bytes hX7 _ _ (OwnB.ext HP6.out hX7), HD6.out.bytes hX7 _ _ (own_mono hO7 HLOW.out.size)⟩
            · have e2 : nthO (M6.set k (putPrf R6 P7 d7)) j = nthO M6 j := by simp [nthO, List.getElem?_set, Ne.symm e]
              rw [e2]
              have := HOW6.out j (by omega)
              exact ⟨HD6.out.bytes hX7 _ _ (this.ext hX7).1, HD6.out.bytes hX7 _ _ (this.ext hX7).2⟩)
          clear g0 g1 g2 g3 HSL HQ HF hq0 r1 r2
          go_wp2_with fail
          go_roundw
          case rel => exact ⟨k + 1, _, by omega, by go_num, HB8.out, HOW8.out, HD8⟩
          case measure => simp [intOf]; omega))
    · obtain rfl : k = n := by omega
      have q0 : wr.cell? ⟨w.heap.size, 0, none⟩ = some (.int .i64 ac) := HD.out.box.cell 0
      have q1 : wr.cell? ⟨w.heap.size, 1, none⟩ = some (.int .i64 sq) := HD.out.box.cell 1
      have q2 : wr.cell? ⟨w.heap.size, 2, none⟩ = some (.slice A1 k c1) := HD.out.box.cell 2
      have ht : wr.there (w.heap.size + 1) 0 3 := there_of_blk HD.out.res
      have hst := blk_whole (ds := txA ac sq A1 k c1) HD.out.res rfl
      have HE2 := Lib.hid (show Ext w (wr.setCells (w.heap.size + 1) 0 (txA ac sq A1 k c1).toList) from Below.setCells' HD.out.low (Nat.le_succ _) _ _)
      have HRES := Lib.hid (show (wr.setCells (w.heap.size + 1) 0 (txA ac sq A1 k c1).toList).ownsRow w.heap.size 50 23 (.slice A1 k c1) k (ocs M) ∧ ∀ R, R ∈ M → OwnOp (wr.setCells (w.heap.size + 1) 0 (txA ac sq A1 k c1).toList) w.heap.size R from by
        have g := grown_setCells' wr (w.heap.size + 1) (txA ac sq A1 k c1).toList 0
        refine ⟨HD.out.own.kept g (.inr (Ne.symm (own_other HD.out.own HD.out.res (by decide)))), fun R hR => ?_⟩
        obtain ⟨j, hj, rfl⟩ := mem_nthO hR
        exact (HOW.out j (by rw [← HD.out.len]; exact hj)).kept g HD.out.res (by decide))
      go_wp2_with (first | (with_reducible refine wpList_storeTx rfl (.tmp 2) (.tmp 39) rfl (w.heap.size + 1) (txA ac sq A1 k c1) rfl rfl ht rfl (txA_all _ _ _ _ _) ?_))
      exact bodyPost_ret (retC rfl _ _ (w.heap.size + 1) _ rfl (run_loadVar_row _ _ _ _ _ (0, 0) _ hst Tryz.underlying26 rfl (by kernel_rfl))) rfl ⟨A1, c1, M, rfl, HRES.out.1, HRES.out.2, HD.out.val, HE2.out⟩
end Go.Proofs.YtcfmlgbocdjabaaGreat
