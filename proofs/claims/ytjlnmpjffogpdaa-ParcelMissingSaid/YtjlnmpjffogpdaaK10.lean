/- AppendBytes, appendOp (the program's): the encoding of an operation. -/
import Derived.Test.YtjlnmpjffogpdaaK08
import Derived.Test.YtjlnmpjffogpdaaK09
import Derived.Maps.OwnSet
import Derived.DeepKeys4
namespace Go.Proofs.Ytjlnmpjffogpdaa
open Go.RowKit
set_option linter.unusedVariables false
set_option linter.unusedSimpArgs false
attribute [local go_sem ↓] Go.wp_at_zero Go.wp_at_succ

/-- bytes with their length ahead -/
def blob (p : List UInt8) : List UInt8 := beI 2 (p.length : Int) ++ p
theorem appendUI_any (A : Option Addr) (n c : Nat) (l : List UInt8) (z : Int) (wd : Nat) (hwd : wd ≤ 8) (w : World) (h : SlB w A n c l) (hn : n ≤ 140737488351232) :
    Calls Try.prog 51 #[.slice A n c, .int .u64 (un (uI z)), .int .i64 (wd : Int)] w fun e w' => ∃ A' c', e = .returned (.slice A' (n + wd) c') ∧ OwnB w' w.heap.size 5 A' (n + wd) c' (l ++ beI wd z) ∧ Ext w w' := by
  have := appendUint_any A n c l (uI z) wd hwd w h hn
  rw [uI_nat] at this; exact this
section
variable {P : Program} {t e : TypeId}
/-- append to bytes of one's own: what became of the world, whole -/
theorem wpList_appBG {ops : Array Oper} {rest : List Oper} {o : Oper} {a : Act} {w : World} {Q : Exit → Act → World → Prop} (E : Elem P t e (.int .u8 0) 1 1) (hgd : o.guard = none) (s x : Operand)
    (ho : o.op = .call { callee := .builtin .append, args := #[s, x], argTypes := #[t, t] })
    (base : Nat) (A : Option Addr) (n c : Nat) (l : List UInt8) (hs : a.eval s = .slice A n c) (hown : OwnB w base e A n c l)
    (A2 : Option Addr) (m c2 : Nat) (l2 : List UInt8) (hx : a.eval x = .slice A2 m c2) (hr : SlB w A2 m c2 l2)
    (hb : n + m ≤ 140737488355328) (hbase : base ≤ w.heap.size)
    (h : ∀ A' c' w', OwnB w' base e A' (n + m) c' (l ++ l2) → w.grownBy w' (Value.ownBlock (.slice A n c)) → wpList P ops Q rest (a.put o.dst (.slice A' (n + m) c')) w') : wpList P ops Q (o :: rest) a w := by
  refine wpList_plain hgd fun K hK => wp_app E s x ho base A n c (bcs l) hs hown A2 m c2 (bcs l2) hx hr.rd (by rw [bcs_length, hr.len, Nat.mul_one]) (bcs_one l2) (by omega) (by omega) hbase fun A' c' w' h2 h3 => hK _ _ (h A' c' w' ?_ h3)
  unfold OwnB; rw [bcs_append]; exact h2
end
set_option maxRecDepth 100000 in
set_option maxHeartbeats 1000000 in
theorem appendBytes_any (A : Option Addr) (n c : Nat) (l : List UInt8) (P : Option Addr) (m d : Nat) (p : List UInt8) (w : World) (h : SlB w A n c l) (hp : SlB w P m d p) (hm : m ≤ 65535) (hn : n ≤ 1000000000) :
    Calls Try.prog 80 #[.slice A n c, .slice P m d] w fun e w' => ∃ A' n' c', e = .returned (.tuple #[.slice A' n' c', .bool true]) ∧ OwnB w' w.heap.size 5 A' n' c' (l ++ blob p) ∧ Ext w w' := by
  have hu := uI_un (m : Int)
  have hlen := hp.len
  have HA := Lib.hid (appendUI_any A n c l (m : Int) 2 (by omega) w h (by omega))
  have HP := Lib.hid hp
  have HB := Lib.hid (show blob p = beI 2 (m : Int) ++ p by unfold blob; rw [hlen])
  have d1 : decide (65535 < (m : Int)) = false := decide_eq_false (by omega)
  clear h hp hlen
  generalize uI (m : Int) = u at *
  go_enter Try.func80, Try.ntmps80
  go_wp2_with fail
  refine HA.out.mono ?_
  rintro e w1 ⟨A1, c1, rfl, hO1, he1⟩
  have HO1 := Lib.hid hO1
  have HE1 := Lib.hid he1
  clear hO1 he1
  go_wp2_with (at_builtin; go_must (refine wpList_appB bytesE rfl (.tmp 13) (.tmp 14) rfl w.heap.size A1 _ c1 _ rfl HO1.out P m d p rfl (HP.out.ext HE1.out) (by omega) HE1.out.size w HE1.out ?_))
  intro A2 c2 w2 hO2 hE2 hs2
  have HO2 := Lib.hid hO2
  clear hO2
  go_wp2_with fail
  go_ret2
  exact ⟨A2, _, c2, rfl, by rw [HB.out]; simpa using HO2.out, hE2⟩
end Go.Proofs.Ytjlnmpjffogpdaa

/- encode, Encode (the program's). -/
namespace Go.Proofs.Ytjlnmpjffogpdaa
open Go.RowKit
set_option linter.unusedVariables false
set_option linter.unusedSimpArgs false
attribute [local go_sem ↓] Go.wp_at_zero Go.wp_at_succ

theorem OwnB.len {w : World} {base : Nat} {e : TypeId} {A : Option Addr} {n c : Nat} {l : List UInt8} (h : OwnB w base e A n c l) : l.length = n := h.sl.len
end Go.Proofs.Ytjlnmpjffogpdaa

/- Signed votes and texts compared; lists of them. -/
namespace Go.Proofs.Ytjlnmpjffogpdaa
open Go.RowKit
set_option linter.unusedVariables false
set_option linter.unusedSimpArgs false
attribute [local go_sem ↓] Go.wp_at_zero Go.wp_at_succ

theorem strV_eq' (p q : List UInt8) : ((strV p).toList == (strV q).toList) = decide (p = q) := by
  rw [Bool.eq_iff_iff]
  simp only [beq_iff_eq, decide_eq_true_eq]
  exact ⟨fun h => strV_list h, fun h => by rw [h]⟩
theorem bEqual_any (A : Option Addr) (n c : Nat) (p : List UInt8) (A' : Option Addr) (n' c' : Nat) (q : List UInt8) (w : World) (h : SlB w A n c p) (h' : SlB w A' n' c' q) :
    Calls Try.prog 18 #[.slice A n c, .slice A' n' c'] w fun e w' => e = .returned (.bool (decide (p = q))) ∧ w = w' := by
  have r1 := run_strV h
  have r2 := run_strV h'
  have HV := Lib.hid (strV_eq' p q)
  clear h h'
  go_enter Try.func18, Try.ntmps18
  go_wp2_with fail
  go_ret
  exact ⟨by rw [← HV.out]; rfl, rfl⟩
set_option maxRecDepth 100000 in
set_option maxHeartbeats 4000000 in
theorem equalVotes_any (R Q : SgR) (w : World) (hR : R.ok w) (hQ : Q.ok w) :
    Calls Try.prog 48 #[.agg (sgA R), .agg (sgA Q)] w fun e w' => e = .returned (.bool (eqSg R Q)) ∧ Ext w w' := by
  have hE := ((Ext.refl w).alloc' (.cells (sgA R) 45)).alloc' (.cells (sgA Q) 45)
  have HB1 := Lib.hid ((Blk.new w 45 (sgA R)).alloc (.cells (sgA Q) 45))
  have HB2 := Lib.hid (show Blk ((w.alloc (.cells (sgA R) 45)).alloc (.cells (sgA Q) 45)) (w.heap.size + 1) 45 (sgA Q) from Blk.newAt _ _ _ _ (by simp))
  have HE := Lib.hid hE
  have HX := Lib.hid (fun (W : World) (h : Ext w W) => bEqual_any R.A R.n R.c R.sig Q.A Q.n Q.c Q.sig W (hR.sig.ext h) (hQ.sig.ext h))
  have hq := fun W => run_eqVt R.v Q.v hR.v hQ.v W
  have hqi := fun W => eqIn_Vt R.v Q.v hR.v hQ.v W
  have HV := Lib.hid (show eqSg R Q = (decide (R.v = Q.v) && decide (R.sig = Q.sig)) from rfl)
  obtain ⟨w0, hw0⟩ : ∃ w0, (w.alloc (.cells (sgA R) 45)).alloc (.cells (sgA Q) 45) = w0 := ⟨_, rfl⟩
  rw [hw0] at HB1 HB2 HE
  have r1 : w0.rangeAt w.heap.size 0 (vtL R.v) := rangeAt_take (k := 22) (rangeAt_of_blk HB1.out)
  have r2 : w0.rangeAt (w.heap.size + 1) 0 (vtL Q.v) := rangeAt_take (k := 22) (rangeAt_of_blk HB2.out)
  have p1 : w0.cell? ⟨w.heap.size, 22, none⟩ = some (.slice R.A R.n R.c) := HB1.out.cell 22
  have p2 : w0.cell? ⟨w.heap.size + 1, 22, none⟩ = some (.slice Q.A Q.n Q.c) := HB2.out.cell 22
  clear hR hQ hE
  by_cases hv : R.v = Q.v
  · have HV' := Lib.hid (show eqSg R Q = decide (R.sig = Q.sig) by rw [HV.out]; simp [hv])
    rw [decide_eq_true hv] at hq hqi
    clear hv HV
    go_enter Try.func48, Try.ntmps48
    go_wp2_with (first | (with_reducible refine wpList_loadVt rfl (.tmp 5) rfl w.heap.size 0 rfl R.v r1 ?_) | (with_reducible refine wpList_loadVt rfl (.tmp 7) rfl (w.heap.size + 1) 0 rfl Q.v r2 ?_) | (go_at_call 18; refine (HX.out _ HE.out).mono ?_; rintro e w1 ⟨rfl, rfl⟩))
    go_ret
    exact ⟨by rw [HV'.out]; rfl, HE.out⟩
  · have HV' := Lib.hid (show eqSg R Q = false by rw [HV.out]; simp [hv])
    rw [decide_eq_false hv] at hq hqi
    clear hv HV
    go_enter Try.func48, Try.ntmps48
    go_wp2_with (first | (with_reducible refine wpList_loadVt rfl (.tmp 5) rfl w.heap.size 0 rfl R.v r1 ?_) | (with_reducible refine wpList_loadVt rfl (.tmp 7) rfl (w.heap.size + 1) 0 rfl Q.v r2 ?_))
    go_ret
    exact ⟨by rw [HV'.out]; rfl, HE.out⟩
end Go.Proofs.Ytjlnmpjffogpdaa

/- Sets of votes and sets of texts: maps to bool that a call makes. -/
namespace Go.Proofs.Ytjlnmpjffogpdaa
open Go.RowKit
set_option linter.unusedVariables false
set_option linter.unusedSimpArgs false
/-- the bool true, as a datum -/
def yesD : DataW Unit := .lit (.bool true)
theorem at_fold (kl : Lit) (z : DataW Unit) (hk : WideAt.IsKeyLit kl) : ∀ (acc : List Lit) (m : DataW Unit), Maps.IsMap m → (acc.foldl (fun m x => m.put x yesD) m).atKey kl z = if acc.any (fun x => x.sameKey kl) then yesD else m.atKey kl z
  | [], m, _ => rfl
  | x :: r, m, hm => by
    rw [List.foldl_cons, at_fold kl z hk r _ (hm.put x yesD), List.any_cons]
    by_cases hx : x = kl
    · subst hx
      rw [Maps.atKey_put_same hm hk, WideAt.sameKey_self hk, Bool.true_or, if_pos rfl]
      split <;> rfl
    · rw [Maps.atKey_put_other (fun e => hx e.symm), Maps.sameKey_ne hx, Bool.false_or]
theorem at_setOf (kl : Lit) (z : DataW Unit) (acc : List Lit) (hk : WideAt.IsKeyLit kl) : (Maps.setOf yesD acc).atKey kl z = if acc.any (fun x => x.sameKey kl) then yesD else z := by
  unfold Maps.setOf
  rw [at_fold kl z hk acc _ Maps.isMap_empty]
  rfl
section
variable {P : Program} {t k e : TypeId} {w : World} {M n : Nat} {acc : List Lit} {key : Value} {kl : Lit}
theorem look_set (K : Maps.Keyed P k) (ht : P.underlying t = some (.map k e)) (he : P.underlying e = some .bool) (hz : (zeroValue e).run P w = .ok (.bool false) w) (h : w.ownsMap P k (plainElem P e) M n (Maps.setOf yesD acc)) (hkey : keyOf P k key = some kl) :
    (Instr.lookup t (.map (some M)) key false).run P w = .ok (.bool (acc.any (fun x => x.sameKey kl))) w := by
  obtain ⟨v, ps, hrun, hv⟩ := h.lookup K ht hz (plainElem_bool he false) hkey
  rw [at_setOf kl _ acc (K.key hkey)] at hv
  rw [hrun]
  have hb : ∀ b : Bool, plainElem (H := Unit) P e v = some (.lit (.bool b), ps) → v = .bool b := fun b hh => by
    unfold plainElem at hh
    rw [he] at hh
    split at hh
    · injection hh with hh; injection hh with h1 _; injection h1 with h1; injection h1 with h1; subst h1; rfl
    · rename_i hq; exact absurd hq (by simp)
    · rename_i hq; exact absurd hq (by simp)
    · cases hh
  split at hv
  · rename_i hc; rw [hb true hv, hc]
  · rename_i hc; rw [hb false hv]; simp only [Bool.not_eq_true] at hc; rw [hc]
end
/-! votes as keys -/
section
variable (m : Nat)
theorem keyByteN (c : UInt8) : Try.prog.keyLits (m + 1) 5 [.int .u8 (c.toNat : Int)] = some [litB c] := by
  unfold Program.keyLits
  rw [Try.underlying5]
  simp only
  rw [if_pos ⟨trivial, litB_wf c⟩]; rfl
theorem keyNameN (n : UInt64) : Try.prog.keyLits (m + 2) 26 (bcs (nmb n)) = some ((nmb n).map litB) := by
  unfold Program.keyLits
  rw [Try.underlying26]
  simp only
  rw [if_pos (by rw [bcs_length, nmb_length, cellsN]), cellsU8']
  rw [nmb_list n]
  generalize (nmb n).getD 0 0 = x0
  generalize (nmb n).getD 1 0 = x1
  generalize (nmb n).getD 2 0 = x2
  generalize (nmb n).getD 3 0 = x3
  generalize (nmb n).getD 4 0 = x4
  generalize (nmb n).getD 5 0 = x5
  generalize (nmb n).getD 6 0 = x6
  generalize (nmb n).getD 7 0 = x7
  rw [show List.range 8 = [0, 1, 2, 3, 4, 5, 6, 7] from rfl]
  simp only [bcs, bv, List.map_cons, List.map_nil, List.mapM_cons, List.mapM_nil, Nat.zero_mul, Nat.one_mul, Nat.mul_one, List.drop_zero, List.drop_succ_cons, List.take_succ_cons, List.take_zero, keyByteN]
  rfl
theorem wfI_keyN (x : Int) (hx : wfI x) : Try.prog.keyLits (m + 1) 3 [.int .i64 x] = some [.int .i64 x] := by
  unfold Program.keyLits
  rw [Try.underlying3]
  simp only
  rw [if_pos ⟨trivial, hx⟩]
theorem wfI_maskN (x : Int) (hx : wfI x) : Try.prog.keyLits (m + 1) 24 [.int .i64 x] = some [.int .i64 x] := by
  unfold Program.keyLits
  rw [Try.underlying24]
  simp only
  rw [if_pos ⟨trivial, hx⟩]
theorem keyVtN (v : VtR) (h : v.wf) : Try.prog.keyLits (m + 3) 28 (vtC v) = some (vtK v) := by
  obtain ⟨h1, h2, h3, h4, h5, h6⟩ := h
  have c1 : Try.prog.cellsOf 3 = 1 := by kernel_rfl
  have cm : Try.prog.cellsOf 24 = 1 := by kernel_rfl
  have c22 : Try.prog.cellsOf 28 = 22 := by kernel_rfl
  have hp : (bcs (nmb v.pa)).length = 8 := by rw [bcs_length, nmb_length]
  have hv : (bcs (nmb v.va)).length = 8 := by rw [bcs_length, nmb_length]
  have t8 : (bcs (nmb v.pa) ++ bcs (nmb v.va)).take 8 = bcs (nmb v.pa) := by rw [← hp]; exact List.take_left
  have d8 : (bcs (nmb v.pa) ++ bcs (nmb v.va)).drop 8 = bcs (nmb v.va) := by rw [← hp]; exact List.drop_left
  have t8' : (bcs (nmb v.va)).take 8 = bcs (nmb v.va) := List.take_of_length_le (by omega)
  have hl : (vtC v).length = 22 := by unfold vtC; rw [List.length_append, List.length_append, hp, hv]; rfl
  unfold Program.keyLits
  rw [Try.underlying28]
  simp only
  rw [if_pos ⟨by rw [hl, c22], by kernel_rfl⟩]
  simp only [List.mapM_cons, List.mapM_nil, c1, cm, cellsN, vtC, List.cons_append, List.nil_append, List.drop_zero, List.drop_succ_cons, List.take_succ_cons, List.take_zero, wfI_keyN (m + 1) _ h1, wfI_keyN (m + 1) _ h2, wfI_keyN (m + 1) _ h3, wfI_keyN (m + 1) _ h4, wfI_keyN (m + 1) _ h5, wfI_maskN (m + 1) _ h6, t8, d8, t8', keyNameN]
  simp [vtK]
end
theorem laidMp : laidOutB Try.prog = true := by kernel_rfl
theorem rowVt : (28 : TypeId) < Try.prog.types.size := of_decide_eq_true (by kernel_rfl)
theorem wideVt : (match Try.prog.underlying 28 with | some (.array _ _) | some (.struct _) => true | _ => false) = true := by rw [Try.underlying28]
set_option maxRecDepth 100000 in
theorem lawVt : Maps.Keyed Try.prog 28 := Maps.Keyed.of_law (deep_law_laid laidMp (m := 3) (by omega) rowVt (by kernel_rfl) wideVt)
/-- a vote as a key -/
def vtKl (v : VtR) : Lit := .string (keyBytes (vtK v))
theorem keyOf_vt (v : VtR) (h : v.wf) : keyOf Try.prog 28 (.agg (vtA v)) = some (vtKl v) := by
  have c22 : Try.prog.cellsOf 28 = 22 := by kernel_rfl
  have hf : (Value.agg (vtA v)).formed Try.prog 28 = true := by simp [Value.formed, Try.underlying28, c22]
  have hk : Try.prog.keyType 28 = true := by kernel_rfl
  unfold keyOf
  rw [Try.underlying28]
  simp only [hk, hf, Bool.and_self, if_true]
  obtain ⟨m, hm⟩ : ∃ m, Try.prog.types.size + 1 = m + 3 := ⟨Try.prog.types.size - 2, by
    have h : 2 ≤ Try.prog.types.size := of_decide_eq_true (by kernel_rfl)
    generalize Try.prog.types.size = s at *
    omega⟩
  rw [hm, show (Value.agg (vtA v)).cells.toList = vtC v from vtL_C v, keyVtN m v h]
  rfl
set_option maxRecDepth 10000 in
theorem vtKl_inj {a b : VtR} (ha : a.wf) (hb : b.wf) (h : vtKl a = vtKl b) : a = b := by
  have h1 := keyOf_vt a ha
  rw [h] at h1
  have := lawVt.inj h1 (keyOf_vt b hb)
  refine vtK_inj ?_
  have h2 : vtA a = vtA b := Value.agg.inj this
  have hc : vtC a = vtC b := by
    rw [← vtL_C a, ← vtL_C b]; exact congrArg Array.toList h2
  have ka := keyVtN 0 a ha
  rw [hc, keyVtN 0 b hb] at ka
  injection ka with ka
  exact ka.symm
set_option maxRecDepth 10000 in
theorem vtKl_key (v : VtR) (h : v.wf) : WideAt.IsKeyLit (vtKl v) := lawVt.key (keyOf_vt v h)
theorem any_vt {S : List VtR} {v : VtR} (hS : ∀ x ∈ S, x.wf) (hv : v.wf) : (S.map vtKl).any (fun x => x.sameKey (vtKl v)) = decide (v ∈ S) := by
  rw [Bool.eq_iff_iff]
  simp only [List.any_map, List.any_eq_true, Function.comp, decide_eq_true_eq]
  constructor
  · rintro ⟨x, hx, h⟩
    have := vtKl_inj (hS x hx) hv (WideAt.sameKey_eq h)
    subst this; exact hx
  · intro h
    exact ⟨v, h, WideAt.sameKey_self (vtKl_key v hv)⟩
/-! texts as keys -/
theorem lawStr : Maps.Keyed Try.prog 9 := Maps.string_keyed Try.underlying9
def teKl (l : List UInt8) : Lit := .string l
theorem keyOf_te (l : List UInt8) (h : l.length ≤ maxLen) : keyOf Try.prog 9 (.string ⟨l.toArray⟩) = some (teKl l) := by
  have := WideMaps.keyOf_string_mk (P := Try.prog) Try.underlying9 (s := ⟨l.toArray⟩) (by simpa [ByteArray.size] using h)
  simpa [teKl] using this
theorem teKl_key (l : List UInt8) : WideAt.IsKeyLit (teKl l) := trivial
theorem any_te {S : List (List UInt8)} {l : List UInt8} : (S.map teKl).any (fun x => x.sameKey (teKl l)) = decide (l ∈ S) := by
  rw [Bool.eq_iff_iff]
  simp only [List.any_map, List.any_eq_true, Function.comp, decide_eq_true_eq]
  constructor
  · rintro ⟨x, hx, h⟩
    have := WideAt.sameKey_eq h
    unfold teKl at this
    injection this with this
    subst this; exact hx
  · intro h
    exact ⟨l, h, WideAt.sameKey_self (teKl_key l)⟩
end Go.Proofs.Ytjlnmpjffogpdaa
