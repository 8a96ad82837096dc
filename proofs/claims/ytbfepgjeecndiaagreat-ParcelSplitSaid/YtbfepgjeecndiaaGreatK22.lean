/- Sets of votes and sets of texts: maps to bool that a call makes. -/
import Derived.Maps.OwnSet
import Derived.DeepKeys4
import Derived.Test.YtbfepgjeecndiaaGreatK17
namespace Go.Proofs.YtbfepgjeecndiaaGreat
set_option maxRecDepth 100000
open Go.RowKit
set_option linter.unusedVariables false
set_option linter.unusedSimpArgs false
def yesD : DataW Unit := .lit (.bool true)
theorem at_fold (kl : Lit) (z : DataW Unit) (hk : WideAt.IsKeyLit kl) : ∀ (acc : List Lit) (m : DataW Unit), Maps.IsMap m → (acc.foldl (fun m x => m.put x yesD) m).atKey kl z = if acc.any (fun x => x.sameKey kl) then yesD else m.atKey kl z
 | [], m, _ => rfl
 | x :: r, m, hm => by
  rw [List.foldl_cons, at_fold kl z hk r _ (hm.put x yesD), List.any_cons]
  by_cases hx : x = kl
  ·subst hx
   rw [Maps.atKey_put_same hm hk, WideAt.sameKey_self hk, Bool.true_or, if_pos rfl]
   split <;> rfl
  ·rw [Maps.atKey_put_other (fun e => hx e.symm), Maps.sameKey_ne hx, Bool.false_or]
theorem at_setOf (kl : Lit) (z : DataW Unit) (acc : List Lit) (hk : WideAt.IsKeyLit kl) : (Maps.setOf yesD acc).atKey kl z = if acc.any (fun x => x.sameKey kl) then yesD else z := by
 unfold Maps.setOf
 rw [at_fold kl z hk acc _ Maps.isMap_empty]
 rfl
section
variable {P : Program} {t k e : TypeId} {w : World} {M n : Nat} {acc : List Lit} {key : Value} {kl : Lit}
theorem look_set (K : Maps.Keyed P k) (ht : P.underlying t = some (.map k e)) (he : P.underlying e = some .bool) (hz : (zeroValue e).run P w = .ok (.bool false) w) (h : w.ownsMap P k (plainElem P e) M n (Maps.setOf yesD acc)) (hkey : keyOf P k key = some kl) :
  (Instr.lookup t (.map (some M)) key false).run P w = .ok (.bool (acc.any (fun x => x.sameKey kl))) w := by
 obtain ⟨v, ps, hrun, hv⟩ := h.lookup K ht hz (plainElem_bool he false) hkey
 rw [at_setOf kl _ acc (K.key hkey)] at hv
 rw [hrun]
 have hb : ∀ b : Bool, plainElem (H := Unit) P e v = some (.lit (.bool b), ps) → v = .bool b := fun b hh => by
  unfold plainElem at hh
  rw [he] at hh
  split at hh
  ·injection hh with hh; injection hh with h1 _; injection h1 with h1; injection h1 with h1; subst h1; rfl
  ·rename_i hq; exact absurd hq (by simp)
  ·rename_i hq; exact absurd hq (by simp)
  ·cases hh
 split at hv
 ·rename_i hc; rw [hb true hv, hc]
 ·rename_i hc; rw [hb false hv]; simp only [Bool.not_eq_true] at hc; rw [hc]
end
/-! votes as keys -/
section
variable (m : Nat)
theorem keyByteN (c : UInt8) : Tryz.prog.keyLits (m + 1) 5 [.int .u8 (c.toNat : Int)] = some [litB c] := by
 unfold Program.keyLits
 rw [Tryz.underlying5]
 simp only
 rw [if_pos ⟨trivial, litB_wf c⟩]; rfl
theorem keyNameN (n : UInt64) : Tryz.prog.keyLits (m + 2) 44 (bcs (nmb n)) = some ((nmb n).map litB) := by
 unfold Program.keyLits
 rw [Tryz.underlying44]
 simp only
 rw [if_pos (by rw [bcs_length, nmb_length, cellsN]), cellsU8']
 rw [nmb_list n]
 generalize (nmb n).getD 0 0 = x0
 generalize (nmb n).getD 1 0 = x1
 generalize (nmb n).getD 2 0 = x2
 generalize (nmb n).getD 3 0 = x3
 generalize (nmb n).getD 4 0 = x4
 generalize (nmb n).getD 5 0 = x5
 generalize (nmb n).getD 6 0 = x6
 generalize (nmb n).getD 7 0 = x7
 rw [show List.range 8 = [0, 1, 2, 3, 4, 5, 6, 7] from rfl]
 simp only [bcs, bv, List.map_cons, List.map_nil, List.mapM_cons, List.mapM_nil, Nat.zero_mul, Nat.one_mul, Nat.mul_one, List.drop_zero, List.drop_succ_cons, List.take_succ_cons, List.take_zero, keyByteN]
 rfl
theorem wfI_keyN (x : Int) (hx : wfI x) : Tryz.prog.keyLits (m + 1) 3 [.int .i64 x] = some [.int .i64 x] := by
 unfold Program.keyLits
 rw [Tryz.underlying3]
 simp only
 rw [if_pos ⟨trivial, hx⟩]
theorem wfI_maskN (x : Int) (hx : wfI x) : Tryz.prog.keyLits (m + 1) 42 [.int .i64 x] = some [.int .i64 x] := by
 unfold Program.keyLits
 rw [Tryz.underlying42]
 simp only
 rw [if_pos ⟨trivial, hx⟩]
theorem keyVtN (v : VtR) (h : v.wf) : Tryz.prog.keyLits (m + 3) 46 (vtC v) = some (vtK v) := by
 obtain ⟨h1, h2, h3, h4, h5, h6⟩ := h
 have c1 : Tryz.prog.cellsOf 3 = 1 := by kernel_rfl
 have cm : Tryz.prog.cellsOf 42 = 1 := by kernel_rfl
 have c22 : Tryz.prog.cellsOf 46 = 22 := by kernel_rfl
 have hp : (bcs (nmb v.pa)).length = 8 := by rw [bcs_length, nmb_length]
 have hv : (bcs (nmb v.va)).length = 8 := by rw [bcs_length, nmb_length]
 have t8 : (bcs (nmb v.pa) ++ bcs (nmb v.va)).take 8 = bcs (nmb v.pa) := by rw [← hp]; exact List.take_left
 have d8 : (bcs (nmb v.pa) ++ bcs (nmb v.va)).drop 8 = bcs (nmb v.va) := by rw [← hp]; exact List.drop_left
 have t8' : (bcs (nmb v.va)).take 8 = bcs (nmb v.va) := List.take_of_length_le (by omega)
 have hl : (vtC v).length = 22 := by unfold vtC; rw [List.length_append, List.length_append, hp, hv]; rfl
 unfold Program.keyLits
 rw [Tryz.underlying46]
 simp only
 rw [if_pos ⟨by rw [hl, c22], by kernel_rfl⟩]
 simp only [List.mapM_cons, List.mapM_nil, c1, cm, cellsN, vtC, List.cons_append, List.nil_append, List.drop_zero, List.drop_succ_cons, List.take_succ_cons, List.take_zero, wfI_keyN (m + 1) _ h1, wfI_keyN (m + 1) _ h2, wfI_keyN (m + 1) _ h3, wfI_keyN (m + 1) _ h4, wfI_keyN (m + 1) _ h5, wfI_maskN (m + 1) _ h6, t8, d8, t8', keyNameN]
 simp [vtK]
end
theorem laidMp : laidOutB Tryz.prog = true := by kernel_rfl
theorem rowVt : (46 : TypeId) < Tryz.prog.types.size := of_decide_eq_true (by kernel_rfl)
theorem wideVt : (match Tryz.prog.underlying 46 with | some (.array _ _) | some (.struct _) => true | _ => false) = true := by rw [Tryz.underlying46]
theorem lawVt : Maps.Keyed Tryz.prog 46 := Maps.Keyed.of_law (deep_law_laid laidMp (m := 3) (by omega) rowVt (by kernel_rfl) wideVt)
def vtKl (v : VtR) : Lit := .string (keyBytes (vtK v))
theorem keyOf_vt (v : VtR) (h : v.wf) : keyOf Tryz.prog 46 (.agg (vtA v)) = some (vtKl v) := by
 have c22 : Tryz.prog.cellsOf 46 = 22 := by kernel_rfl
 have hf : (Value.agg (vtA v)).formed Tryz.prog 46 = true := by simp [Value.formed, Tryz.underlying46, c22]
 have hk : Tryz.prog.keyType 46 = true := by kernel_rfl
 unfold keyOf
 rw [Tryz.underlying46]
 simp only [hk, hf, Bool.and_self, if_true]
 obtain ⟨m, hm⟩ : ∃ m, Tryz.prog.types.size + 1 = m + 3 := ⟨Tryz.prog.types.size - 2, by
  have h : 2 ≤ Tryz.prog.types.size := of_decide_eq_true (by kernel_rfl)
  generalize Tryz.prog.types.size = s at *
  omega⟩
 rw [hm, show (Value.agg (vtA v)).cells.toList = vtC v from vtL_C v, keyVtN m v h]
 rfl
set_option maxRecDepth 10000 in
theorem vtKl_inj {a b : VtR} (ha : a.wf) (hb : b.wf) (h : vtKl a = vtKl b) : a = b := by
 have h1 := keyOf_vt a ha
 rw [h] at h1
 have := lawVt.inj h1 (keyOf_vt b hb)
 refine vtK_inj ?_
 have h2 : vtA a = vtA b := Value.agg.inj this
 have hc : vtC a = vtC b := by
  rw [← vtL_C a, ← vtL_C b]; exact congrArg Array.toList h2
 have ka := keyVtN 0 a ha
 rw [hc, keyVtN 0 b hb] at ka
 injection ka with ka
 exact ka.symm
set_option maxRecDepth 10000 in
theorem vtKl_key (v : VtR) (h : v.wf) : WideAt.IsKeyLit (vtKl v) := lawVt.key (keyOf_vt v h)
theorem any_vt {S : List VtR} {v : VtR} (hS : ∀ x ∈ S, x.wf) (hv : v.wf) : (S.map vtKl).any (fun x => x.sameKey (vtKl v)) = decide (v ∈ S) := by
 rw [Bool.eq_iff_iff]
 simp only [List.any_map, List.any_eq_true, Function.comp, decide_eq_true_eq]
 constructor
 ·rintro ⟨x, hx, h⟩
  have := vtKl_inj (hS x hx) hv (WideAt.sameKey_eq h)
  subst this; exact hx
 ·intro h
  exact ⟨v, h, WideAt.sameKey_self (vtKl_key v hv)⟩
/-! texts as keys -/
theorem lawStr : Maps.Keyed Tryz.prog 9 := Maps.string_keyed Tryz.underlying9
def teKl (l : List UInt8) : Lit := .string l
theorem keyOf_te (l : List UInt8) (h : l.length ≤ maxLen) : keyOf Tryz.prog 9 (.string ⟨l.toArray⟩) = some (teKl l) := by
 have := WideMaps.keyOf_string_mk (P := Tryz.prog) Tryz.underlying9 (s := ⟨l.toArray⟩) (by simpa [ByteArray.size] using h)
 simpa [teKl] using this
theorem teKl_key (l : List UInt8) : WideAt.IsKeyLit (teKl l) := trivial
theorem any_te {S : List (List UInt8)} {l : List UInt8} : (S.map teKl).any (fun x => x.sameKey (teKl l)) = decide (l ∈ S) := by
 rw [Bool.eq_iff_iff]
 simp only [List.any_map, List.any_eq_true, Function.comp, decide_eq_true_eq]
 constructor
 ·rintro ⟨x, hx, h⟩
  have := WideAt.sameKey_eq h
  unfold teKl at this
  injection this with this
  subst this; exact hx
 ·intro h
  exact ⟨l, h, WideAt.sameKey_self (teKl_key l)⟩
end Go.Proofs.YtbfepgjeecndiaaGreat

/- EncodeBlock. -/
namespace Go.Proofs.YtbfepgjeecndiaaGreat
open Go.RowKit
set_option linter.unusedVariables false
set_option linter.unusedSimpArgs false
attribute [local go_sem ↓] Go.wp_at_zero Go.wp_at_succ
theorem step_appBG {P : Program} {t e : TypeId} {ops : Array Oper} {o : Oper} {a : Act} {w : World} {K : Act → World → Prop} {Q : Exit → Act → World → Prop} {X : Prop} (E : Elem P t e (.int .u8 0) 1 1) (hgd : o.guard = none) (s x : Operand)
  (ho : o.op = .call { callee := .builtin .append, args := #[s, x], argTypes := #[t, t] })
  (base : Nat) (A : Option Addr) (n c : Nat) (l : List UInt8) (hs : a.eval s = .slice A n c) (hown : OwnB w base e A n c l)
  (A2 : Option Addr) (m c2 : Nat) (l2 : List UInt8) (hx : a.eval x = .slice A2 m c2) (hr : SlB w A2 m c2 l2)
  (hb : n + m ≤ 140737488355328) (hbase : base ≤ w.heap.size)
  (h : ∀ A' c' w', OwnB w' base e A' (n + m) c' (l ++ l2) → w.grownBy w' (Value.ownBlock (.slice A n c)) → K (a.put o.dst (.slice A' (n + m) c')) w') : if Region.wanted o (yielded ops a.tmps) = true then Oper.wp P o a w K Q else X := by
 have hw : Region.wanted o (yielded ops a.tmps) = true := by simp [Region.wanted, hgd]
 rw [if_pos hw]
 refine wp_app E s x ho base A n c (bcs l) hs hown A2 m c2 (bcs l2) hx hr.rd (by rw [bcs_length, hr.len, Nat.mul_one]) (bcs_one l2) (by omega) (by omega) hbase fun A' c' w' h2 h3 => h A' c' w' ?_ h3
 unfold OwnB; rw [bcs_append]; exact h2
theorem own_lt {w : World} {base : Nat} {e : TypeId} {A : Option Addr} {n c : Nat} {l : List UInt8} (h : OwnB w base e A n c l) : ∀ k, Value.ownBlock (.slice A n c) = some k → base ≤ k ∧ k < w.heap.size := fun k hk => World.ownsRow.lt h k hk
end Go.Proofs.YtbfepgjeecndiaaGreat
/- The empty payload, genesis and record; awake. -/
namespace Go.Proofs.YtbfepgjeecndiaaGreat
open Go.RowKit
set_option linter.unusedVariables false
set_option linter.unusedSimpArgs false
attribute [local go_sem ↓] Go.wp_at_zero Go.wp_at_succ
end Go.Proofs.YtbfepgjeecndiaaGreat

/- A sorted row without its repetitions is the ascending row (plain). -/
namespace Go.Proofs.YtbfepgjeecndiaaGreat
open Go.RowKit
set_option linter.unusedVariables false
set_option linter.unusedSimpArgs false
set_option linter.unusedSectionVars false
section
variable {α β : Type} [RowT α] [DecidableEq β] {V : α → β} {lt0 : α → α → Bool} {lt : β → β → Bool} {d d' : Array α} {n : Nat}
theorem wsc_of (hlt : ∀ x y, lt0 x y = lt (V x) (V y)) (hn : d'.size = n) (hs : Sort.SortedIn lt0 0 n d') : Wsc lt (d'.toList.map V) := by
 unfold Wsc
 rw [List.pairwise_iff_getElem]
 intro i j hi hj hij
 simp only [List.length_map, Array.length_toList] at hi hj
 have := hs i j (Nat.zero_le _) hij (by omega)
 rw [hlt, getElem!_pos d' i hi, getElem!_pos d' j hj] at this
 simpa using this
theorem mem_of_perm (hd : d.size = n) (hp : Sort.PermIn 0 n d d') (y : β) : y ∈ d'.toList.map V ↔ y ∈ d.toList.map V := by
 obtain ⟨h1, h2, h3⟩ := hp
 have e1 : d'.extract 0 n = d' := by rw [← hd, ← h1]; exact Array.extract_size
 have e2 : d.extract 0 n = d := by rw [← hd]; exact Array.extract_size
 rw [e1, e2] at h3
 exact (h3.map V).mem_iff
theorem canon_of_sorted (hS : STO lt) (hlt : ∀ x y, lt0 x y = lt (V x) (V y)) (hd : d.size = n) (hp : Sort.PermIn 0 n d d') (hs : Sort.SortedIn lt0 0 n d') : compO (d'.toList.map V) = canonO lt (d.toList.map V) :=
 compO_canon hS (wsc_of hlt (by rw [hp.1, hd]) hs) (mem_of_perm hd hp)
end
end Go.Proofs.YtbfepgjeecndiaaGreat

/- The reference's order of signed votes. -/
namespace Go.Proofs.YtbfepgjeecndiaaGreat
set_option maxRecDepth 100000
set_option maxHeartbeats 8000000
open Go.RowKit
set_option linter.unusedVariables false
set_option linter.unusedSimpArgs false
attribute [local go_sem ↓] Go.wp_at_zero Go.wp_at_succ
theorem strV_lt (p q : List UInt8) : Op.bytesLess (strV p).toList (strV q).toList = lexB p q := by
 rw [bytesLess_lex, ByteArray.toList_eq, ByteArray.toList_eq]; rfl
theorem rSgLess_any (S T : SgR) (w : World) (hS : S.ok w) (hT : T.ok w) : Calls Tryz.prog 45 #[.agg (sgA S), .agg (sgA T)] w fun e w' => e = .returned (.bool (ltSg S T)) ∧ Ext w w' := by
 have hE := ((Ext.refl w).alloc' (.cells (sgA S) 48)).alloc' (.cells (sgA T) 48)
 have HB1 := Lib.hid ((Blk.new w 48 (sgA S)).alloc (.cells (sgA T) 48))
 have HB2 := Lib.hid (show Blk ((w.alloc (.cells (sgA S) 48)).alloc (.cells (sgA T) 48)) (w.heap.size + 1) 48 (sgA T) from Blk.newAt _ _ _ _ (by simp))
 have HE := Lib.hid hE
 have HS := Lib.hid (hS.ext hE)
 have HT := Lib.hid (hT.ext hE)
 obtain ⟨W0, hW0⟩ : ∃ W0, (w.alloc (.cells (sgA S) 48)).alloc (.cells (sgA T) 48) = W0 := ⟨_, rfl⟩
 rw [hW0] at HB1 HB2 HE HS HT
 have r1 := sg_vote HB1.out
 have r2 := sg_vote HB2.out
 have hq : ∀ W, (binOp .neq 46 (.agg (vtA S.v)) (.agg (vtA T.v))).run Tryz.prog W = .ok (.bool (!decide (S.v = T.v))) W := fun W => by
  rw [run_neq_struct, eqIn_Vt S.v T.v HS.out.v HT.out.v W]; rfl
 have hqi := fun W => eqIn_Vt S.v T.v HS.out.v HT.out.v W
 have HL := Lib.hid (fun (W : World) => rVtLess_any S.v T.v W)
 clear hE hS hT
 by_cases hv : S.v = T.v
 ·have HV := Lib.hid (show ltSg S T = Op.bytesLess (strV S.sig).toList (strV T.sig).toList from by rw [strV_lt]; unfold ltSg ltSv SgR.V; rw [if_pos hv])
  have s1 := run_strV HS.out.sig
  have s2 := run_strV HT.out.sig
  rw [decide_eq_true hv] at hq hqi
  rw [Bool.not_true] at hq
  have c1 : W0.cell? ⟨w.heap.size, 22, none⟩ = some (.slice S.A S.n S.c) := HB1.out.cell 22
  have c2 : W0.cell? ⟨w.heap.size + 1, 22, none⟩ = some (.slice T.A T.n T.c) := HB2.out.cell 22
  clear hv
  go_enter Tryz.func45, Tryz.ntmps45
  go_wp2_with (first | (with_reducible refine wpList_loadVt rfl (.tmp 5) rfl w.heap.size 0 rfl S.v r1 ?_) | (with_reducible refine wpList_loadVt rfl (.tmp 7) rfl (w.heap.size + 1) 0 rfl T.v r2 ?_))
  go_ret
  exact ⟨by rw [HV.out]; rfl, HE.out⟩
 ·have HV := Lib.hid (ltSg_v hv)
  rw [decide_eq_false hv] at hq hqi
  rw [Bool.not_false] at hq
  clear hv
  go_enter Tryz.func45, Tryz.ntmps45
  go_wp2_with (first | (with_reducible refine wpList_loadVt rfl (.tmp 5) rfl w.heap.size 0 rfl S.v r1 ?_) | (with_reducible refine wpList_loadVt rfl (.tmp 7) rfl (w.heap.size + 1) 0 rfl T.v r2 ?_) | (with_reducible refine wpList_loadVt rfl (.tmp 10) rfl w.heap.size 0 rfl S.v r1 ?_) | (with_reducible refine wpList_loadVt rfl (.tmp 12) rfl (w.heap.size + 1) 0 rfl T.v r2 ?_))
  refine (HL.out W0).mono ?_
  rintro e w1 ⟨rfl, he1⟩
  have HX1 := Lib.hid (HE.out.trans he1)
  clear he1
  go_wp2_with fail
  go_ret
  exact ⟨by rw [HV.out]; rfl, HX1.out⟩
end Go.Proofs.YtbfepgjeecndiaaGreat
