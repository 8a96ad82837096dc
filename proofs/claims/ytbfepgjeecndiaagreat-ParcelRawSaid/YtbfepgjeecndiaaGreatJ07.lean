/- AppendBytes, appendOp (the program's): the encoding of an operation. -/
import Derived.ProofKit
import Derived.OpenShut
import Derived.ShutString
import Derived.ChangeOld
import Derived.Below
import Derived.SizedLaws
import Derived.Deep.Slices
import Derived.Test.YtbfepgjeecndiaaGreatJ06
namespace Go.Proofs.YtbfepgjeecndiaaGreat
set_option maxRecDepth 100000
set_option maxHeartbeats 1000000
open Go.RowKit
set_option linter.unusedVariables false
set_option linter.unusedSimpArgs false
attribute [local go_sem ↓] Go.wp_at_zero Go.wp_at_succ
def blob (p : List UInt8) : List UInt8 := beI 2 (p.length : Int) ++ p
theorem blob_length (p : List UInt8) : (blob p).length = 2 + p.length := by simp [blob, beI_length]
theorem appendUI_any (A : Option Addr) (n c : Nat) (l : List UInt8) (z : Int) (wd : Nat) (hwd : wd ≤ 8) (w : World) (h : SlB w A n c l) (hn : n ≤ 140737488351232) :
  Calls Tryz.prog 37 #[.slice A n c, .int .u64 (un (uI z)), .int .i64 (wd : Int)] w fun e w' => ∃ A' c', e = .returned (.slice A' (n + wd) c') ∧ OwnB w' w.heap.size 5 A' (n + wd) c' (l ++ beI wd z) ∧ Ext w w' := by
 have := appendUint_any A n c l (uI z) wd hwd w h hn
 rw [uI_nat] at this; exact this
section
variable {P : Program} {t e : TypeId}
theorem wpList_appBG {ops : Array Oper} {rest : List Oper} {o : Oper} {a : Act} {w : World} {Q : Exit → Act → World → Prop} (E : Elem P t e (.int .u8 0) 1 1) (hgd : o.guard = none) (s x : Operand)
  (ho : o.op = .call { callee := .builtin .append, args := #[s, x], argTypes := #[t, t] })
  (base : Nat) (A : Option Addr) (n c : Nat) (l : List UInt8) (hs : a.eval s = .slice A n c) (hown : OwnB w base e A n c l)
  (A2 : Option Addr) (m c2 : Nat) (l2 : List UInt8) (hx : a.eval x = .slice A2 m c2) (hr : SlB w A2 m c2 l2)
  (hb : n + m ≤ 140737488355328) (hbase : base ≤ w.heap.size)
  (h : ∀ A' c' w', OwnB w' base e A' (n + m) c' (l ++ l2) → w.grownBy w' (Value.ownBlock (.slice A n c)) → wpList P ops Q rest (a.put o.dst (.slice A' (n + m) c')) w') : wpList P ops Q (o :: rest) a w := by
 refine wpList_plain hgd fun K hK => wp_app E s x ho base A n c (bcs l) hs hown A2 m c2 (bcs l2) hx hr.rd (by rw [bcs_length, hr.len, Nat.mul_one]) (bcs_one l2) (by omega) (by omega) hbase fun A' c' w' h2 h3 => hK _ _ (h A' c' w' ?_ h3)
 unfold OwnB; rw [bcs_append]; exact h2
end
theorem appendBytes_any (A : Option Addr) (n c : Nat) (l : List UInt8) (P : Option Addr) (m d : Nat) (p : List UInt8) (w : World) (h : SlB w A n c l) (hp : SlB w P m d p) (hm : m ≤ 65535) (hn : n ≤ 1000000000) :
  Calls Tryz.prog 39 #[.slice A n c, .slice P m d] w fun e w' => ∃ A' n' c', e = .returned (.tuple #[.slice A' n' c', .bool true]) ∧ OwnB w' w.heap.size 5 A' n' c' (l ++ blob p) ∧ Ext w w' := by
 have hu := uI_un (m : Int)
 have hlen := hp.len
 have HA := Lib.hid (appendUI_any A n c l (m : Int) 2 (by omega) w h (by omega))
 have HP := Lib.hid hp
 have HB := Lib.hid (show blob p = beI 2 (m : Int) ++ p by unfold blob; rw [hlen])
 have d1 : decide (65535 < (m : Int)) = false := decide_eq_false (by omega)
 clear h hp hlen
 generalize uI (m : Int) = u at *
 go_enter Tryz.func39, Tryz.ntmps39
 go_wp2_with fail
 refine HA.out.mono ?_
 rintro e w1 ⟨A1, c1, rfl, hO1, he1⟩
 have HO1 := Lib.hid hO1
 have HE1 := Lib.hid he1
 clear hO1 he1
 go_wp2_with (at_builtin; go_must (refine wpList_appB bytesE rfl (.tmp 13) (.tmp 14) rfl w.heap.size A1 _ c1 _ rfl HO1.out P m d p rfl (HP.out.ext HE1.out) (by omega) HE1.out.size w HE1.out ?_))
 intro A2 c2 w2 hO2 hE2 hs2
 have HO2 := Lib.hid hO2
 clear hO2
 go_wp2_with fail
 go_ret2
 exact ⟨A2, _, c2, rfl, by rw [HB.out]; simpa using HO2.out, hE2⟩
end Go.Proofs.YtbfepgjeecndiaaGreat

/- EncodeBlock. -/
namespace Go.Proofs.YtbfepgjeecndiaaGreat
open Go.RowKit
set_option linter.unusedVariables false
set_option linter.unusedSimpArgs false
attribute [local go_sem ↓] Go.wp_at_zero Go.wp_at_succ
theorem step_appBG {P : Program} {t e : TypeId} {ops : Array Oper} {o : Oper} {a : Act} {w : World} {K : Act → World → Prop} {Q : Exit → Act → World → Prop} {X : Prop} (E : Elem P t e (.int .u8 0) 1 1) (hgd : o.guard = none) (s x : Operand)
  (ho : o.op = .call { callee := .builtin .append, args := #[s, x], argTypes := #[t, t] })
  (base : Nat) (A : Option Addr) (n c : Nat) (l : List UInt8) (hs : a.eval s = .slice A n c) (hown : OwnB w base e A n c l)
  (A2 : Option Addr) (m c2 : Nat) (l2 : List UInt8) (hx : a.eval x = .slice A2 m c2) (hr : SlB w A2 m c2 l2)
  (hb : n + m ≤ 140737488355328) (hbase : base ≤ w.heap.size)
  (h : ∀ A' c' w', OwnB w' base e A' (n + m) c' (l ++ l2) → w.grownBy w' (Value.ownBlock (.slice A n c)) → K (a.put o.dst (.slice A' (n + m) c')) w') : if Region.wanted o (yielded ops a.tmps) = true then Oper.wp P o a w K Q else X := by
 have hw : Region.wanted o (yielded ops a.tmps) = true := by simp [Region.wanted, hgd]
 rw [if_pos hw]
 refine wp_app E s x ho base A n c (bcs l) hs hown A2 m c2 (bcs l2) hx hr.rd (by rw [bcs_length, hr.len, Nat.mul_one]) (bcs_one l2) (by omega) (by omega) hbase fun A' c' w' h2 h3 => h A' c' w' ?_ h3
 unfold OwnB; rw [bcs_append]; exact h2
theorem own_lt {w : World} {base : Nat} {e : TypeId} {A : Option Addr} {n c : Nat} {l : List UInt8} (h : OwnB w base e A n c l) : ∀ k, Value.ownBlock (.slice A n c) = some k → base ≤ k ∧ k < w.heap.size := fun k hk => World.ownsRow.lt h k hk
end Go.Proofs.YtbfepgjeecndiaaGreat
/- The empty payload, genesis and record; awake. -/
namespace Go.Proofs.YtbfepgjeecndiaaGreat
open Go.RowKit
set_option linter.unusedVariables false
set_option linter.unusedSimpArgs false
attribute [local go_sem ↓] Go.wp_at_zero Go.wp_at_succ
end Go.Proofs.YtbfepgjeecndiaaGreat

/- What a law is told of its arguments: names and bytes that came in. -/
namespace Go.Proofs.YtbfepgjeecndiaaGreat
set_option maxRecDepth 100000
open Go.ChangeShapes Go.WideShapes Go.ChangeAt Go.RowKit
set_option linter.unusedVariables false
set_option linter.unusedSimpArgs false
theorem cellsB1 : Tryz.prog.cellsOf 5 = 1 := by kernel_rfl
end Go.Proofs.YtbfepgjeecndiaaGreat
/- What a law is told of an argument of the type api.Block. -/
namespace Go.Proofs.YtbfepgjeecndiaaGreat
open Go.ChangeShapes Go.WideShapes Go.ChangeAt Go.RowKit Go.Deep
set_option linter.unusedVariables false
set_option linter.unusedSimpArgs false
end Go.Proofs.YtbfepgjeecndiaaGreat
/- What a law is told of arguments of the types api.Tx, api.SignedTx, api.Payload. -/
namespace Go.Proofs.YtbfepgjeecndiaaGreat
open Go.ChangeShapes Go.WideShapes Go.ChangeAt Go.RowKit Go.Deep
set_option linter.unusedVariables false
set_option linter.unusedSimpArgs false
theorem cellsSB : Tryz.prog.cellsOf 28 = 1 := by kernel_rfl
section
variable {H : Type} {enc : TypeId × Value → H} {w : World} {base fuel : Nat} {held : Bool} {cs : List Value} {x : DataW H × List MemPlace}
theorem open_rowB (h : DataW.trod enc Tryz.prog w base (fun _ => true) held fuel 28 cs = some x) : ∃ a n c l, cs = [.slice a n c] ∧ SlB w a n c l := by
 rcases open_ints Tryz.underlying28 Tryz.underlying5 cellsB1 h with ⟨hcs, _⟩ | ⟨x, l, c, zs, hcs, _, hl, hm, hz, _, hcell, hwz⟩
 ·exact ⟨_, _, _, [], hcs, SlB.nil w⟩
 ·obtain ⟨l', hs⟩ := slb_of_row (.inr ⟨_, rfl, hl, hm, by simpa using hz, hcell, hwz⟩)
  exact ⟨_, _, _, l', hcs, hs⟩
end
end Go.Proofs.YtbfepgjeecndiaaGreat

/- block.open: a cursor behind the kind of a text, or one that has failed. DecodePayload at a text of another kind. -/
namespace Go.Proofs.YtbfepgjeecndiaaGreat
open Go.RowKit
set_option linter.unusedVariables false
set_option linter.unusedSimpArgs false
attribute [local go_sem ↓] Go.wp_at_zero Go.wp_at_succ
variable {D : Nat}
theorem ext_grown {w w1 w2 : World} {B : Nat} (h : Ext w w1) (hg : w1.grownBy w2 (some B)) (hB : w.heap.size ≤ B) : Ext w w2 :=
 Below.grown h hg h.size (fun k hk => by injection hk with hk; omega)
theorem retCV {fn : Func} {p q : Tmp} {ty : TypeId} (hres : fn.results = #[.cell p ty, .tmp q]) (tmps : Array Value) (w1 : World) (g : Nat) (cs : Array Value) (v : Value) (hp : tmps.getD p undef = .pointer (some ⟨g, 0, none⟩)) (hq : tmps.getD q undef = v) (hl : (loadVar ty ⟨g, 0, none⟩).run Tryz.prog w1 = .ok (.agg cs) w1) :
  (results fn tmps).run Tryz.prog w1 = .ok (.tuple #[.agg cs, v]) w1 := by
 have hp' : tmps[p]?.getD undef = .pointer (some ⟨g, 0, none⟩) := by simpa using hp
 have hq' : tmps[q]?.getD undef = v := by simpa using hq
 simp [results, hres, hp', hq', asAddr, hl]
end Go.Proofs.YtbfepgjeecndiaaGreat
/- ids in strictly ascending order: block.validators over a function value; validBlock and its reference. -/
namespace Go.Proofs.YtbfepgjeecndiaaGreat
open Go.RowKit
set_option linter.unusedVariables false
set_option linter.unusedSimpArgs false
attribute [local go_sem ↓] Go.wp_at_zero Go.wp_at_succ
end Go.Proofs.YtbfepgjeecndiaaGreat
/- A block as a value; validBlock. -/
namespace Go.Proofs.YtbfepgjeecndiaaGreat
open Go.RowKit
set_option linter.unusedVariables false
set_option linter.unusedSimpArgs false
attribute [local go_sem ↓] Go.wp_at_zero Go.wp_at_succ
/-! a list of pairs of an id and a name (slots of a block, heads of a record): nine cells each -/
theorem bcs_nb8 (n : UInt64) : bcs (nmb n) = [.int .u8 (nb8 n 0), .int .u8 (nb8 n 1), .int .u8 (nb8 n 2), .int .u8 (nb8 n 3), .int .u8 (nb8 n 4), .int .u8 (nb8 n 5), .int .u8 (nb8 n 6), .int .u8 (nb8 n 7)] := by
 rw [← nmc_toList, ← nmc_nb8]
end Go.Proofs.YtbfepgjeecndiaaGreat

/- Decode (the program's): what is read, and the state of the walk. -/
namespace Go.Proofs.YtbfepgjeecndiaaGreat
open Go.RowKit
set_option linter.unusedVariables false
set_option linter.unusedSimpArgs false
attribute [local go_sem ↓] Go.wp_at_zero Go.wp_at_succ
/-! what is read: operations, one behind the other -/
theorem own_ne {w : World} {base base' : Nat} {e e' : TypeId} {size size' : Nat} {A A' : Option Addr} {n n' c c' : Nat} {xs xs' : List Value} (h : w.ownsRow base e size (.slice A n c) n xs) (h' : w.ownsRow base' e' size' (.slice A' n' c') n' xs') (hne : e ≠ e') : (Value.slice A n c).ownBlock = none ∨ (Value.slice A n c).ownBlock ≠ (Value.slice A' n' c').ownBlock := by
 rcases h.2 with ⟨hv, _⟩ | ⟨g, cap, cur, hv, _, hh, _⟩
 ·exact .inl (by rw [hv]; simp [Value.ownBlock])
 ·refine .inr ?_
  have := own_other (t := e) (cs := cur) h' hh hne
  rw [hv]; exact this
section
variable {P : Program} {t e : TypeId} {z : Value} {size bytes : Nat}
theorem wpList_appGG {ops : Array Oper} {rest : List Oper} {o : Oper} {a : Act} {w : World} {Q : Exit → Act → World → Prop} (E : Elem P t e z size bytes) (hgd : o.guard = none) (s x : Operand)
  (ho : o.op = .call { callee := .builtin .append, args := #[s, x], argTypes := #[t, t] })
  (base : Nat) (A : Option Addr) (n c : Nat) (xs : List Value) (hs : a.eval s = .slice A n c) (hown : w.ownsRow base e size (.slice A n c) n xs)
  (A2 : Option Addr) (m c2 : Nat) (ys : List Value) (hx : a.eval x = .slice A2 m c2) (hr : Rd w A2 ys) (hl : ys.length = m * size) (h1 : ∀ u ∈ ys, u.oneCell' = true)
  (hb : (n + m) * bytes ≤ 140737488355328) (h63 : n + m ≤ 4611686018427387904) (hbase : base ≤ w.heap.size)
  (h : ∀ A' c' w', w'.ownsRow base e size (.slice A' (n + m) c') (n + m) (xs ++ ys) → w.grownBy w' (Value.ownBlock (.slice A n c)) → wpList P ops Q rest (a.put o.dst (.slice A' (n + m) c')) w') : wpList P ops Q (o :: rest) a w :=
 wpList_plain hgd fun K hK => wp_app E s x ho base A n c xs hs hown A2 m c2 ys hx hr hl h1 hb h63 hbase fun A' c' w' h2 h3 => hK _ _ (h A' c' w' h2 h3)
end
end Go.Proofs.YtbfepgjeecndiaaGreat

/- Votes, signed votes, texts and views as values; two votes held against each other. -/
namespace Go.Proofs.YtbfepgjeecndiaaGreat
open Go.RowKit
set_option linter.unusedVariables false
set_option linter.unusedSimpArgs false
attribute [local go_sem ↓] Go.wp_at_zero Go.wp_at_succ
structure VtR where
 k : Int
 sl : Int
 ro : Int
 ch : Int
 si : Int
 su : Int
 pa : UInt64
 va : UInt64
deriving DecidableEq
def wfI (z : Int) : Prop := (Lit.int .i64 z).wf = true
structure VtR.wf (v : VtR) : Prop where
 k : wfI v.k
 sl : wfI v.sl
 ro : wfI v.ro
 ch : wfI v.ch
 si : wfI v.si
 su : wfI v.su
abbrev vtA (v : VtR) : Array Value := #[.int .i64 v.k, .int .i64 v.sl, .int .i64 v.ro, .int .i64 v.ch, .int .i64 v.si, .int .i64 v.su, .int .u8 (nb8 v.pa 0), .int .u8 (nb8 v.pa 1), .int .u8 (nb8 v.pa 2), .int .u8 (nb8 v.pa 3), .int .u8 (nb8 v.pa 4), .int .u8 (nb8 v.pa 5), .int .u8 (nb8 v.pa 6), .int .u8 (nb8 v.pa 7), .int .u8 (nb8 v.va 0), .int .u8 (nb8 v.va 1), .int .u8 (nb8 v.va 2), .int .u8 (nb8 v.va 3), .int .u8 (nb8 v.va 4), .int .u8 (nb8 v.va 5), .int .u8 (nb8 v.va 6), .int .u8 (nb8 v.va 7)]
def vtL (v : VtR) : List Value := (vtA v).toList
theorem vtL_length (v : VtR) : (vtL v).length = 22 := rfl
theorem vtL_arr (v : VtR) : (vtL v).toArray = vtA v := rfl
theorem vtL_one (v : VtR) : ∀ u ∈ vtL v, u.oneCell' = true := by
 intro u hu
 simp only [vtL, List.mem_cons, List.not_mem_nil, or_false] at hu
 rcases hu with rfl | rfl | rfl | rfl | rfl | rfl | rfl | rfl | rfl | rfl | rfl | rfl | rfl | rfl | rfl | rfl | rfl | rfl | rfl | rfl | rfl | rfl <;> rfl
theorem vtA_all (v : VtR) : (vtA v).all (·.oneCell') = true := all_oneCell_toArray (vtL_one v)
instance : RowT VtR where
 sz := 22
 z := ⟨0, 0, 0, 0, 0, 0, 0, 0⟩
 enc := vtL
 ok v w := v.wf
 pos := by decide
 len := vtL_length
 one := vtL_one
 ext _ _ _ h _ := h
structure SgR where
 v : VtR
 A : Option Addr
 n : Nat
 c : Nat
 sig : List UInt8
abbrev sgA (S : SgR) : Array Value := #[.int .i64 S.v.k, .int .i64 S.v.sl, .int .i64 S.v.ro, .int .i64 S.v.ch, .int .i64 S.v.si, .int .i64 S.v.su, .int .u8 (nb8 S.v.pa 0), .int .u8 (nb8 S.v.pa 1), .int .u8 (nb8 S.v.pa 2), .int .u8 (nb8 S.v.pa 3), .int .u8 (nb8 S.v.pa 4), .int .u8 (nb8 S.v.pa 5), .int .u8 (nb8 S.v.pa 6), .int .u8 (nb8 S.v.pa 7), .int .u8 (nb8 S.v.va 0), .int .u8 (nb8 S.v.va 1), .int .u8 (nb8 S.v.va 2), .int .u8 (nb8 S.v.va 3), .int .u8 (nb8 S.v.va 4), .int .u8 (nb8 S.v.va 5), .int .u8 (nb8 S.v.va 6), .int .u8 (nb8 S.v.va 7), .slice S.A S.n S.c]
def sgL (S : SgR) : List Value := (sgA S).toList
theorem sgL_length (S : SgR) : (sgL S).length = 23 := rfl
theorem sgL_arr (S : SgR) : (sgL S).toArray = sgA S := rfl
theorem sgL_one (v : SgR) : ∀ u ∈ sgL v, u.oneCell' = true := by
 intro u hu
 simp only [sgL, List.mem_cons, List.not_mem_nil, or_false] at hu
 rcases hu with rfl | rfl | rfl | rfl | rfl | rfl | rfl | rfl | rfl | rfl | rfl | rfl | rfl | rfl | rfl | rfl | rfl | rfl | rfl | rfl | rfl | rfl | rfl <;> rfl
theorem sgA_all (v : SgR) : (sgA v).all (·.oneCell') = true := all_oneCell_toArray (sgL_one v)
structure SgR.ok (S : SgR) (w : World) : Prop where
 v : S.v.wf
 sig : SlB w S.A S.n S.c S.sig
theorem SgR.ok.ext {S : SgR} {w w' : World} (h : S.ok w) (e : Ext w w') : S.ok w' := ⟨h.v, h.sig.ext e⟩
instance : RowT SgR where
 sz := 23
 z := ⟨⟨0, 0, 0, 0, 0, 0, 0, 0⟩, none, 0, 0, []⟩
 enc := sgL
 ok S w := S.ok w
 pos := by decide
 len := sgL_length
 one := sgL_one
 ext _ _ _ h e := h.ext e
structure TeR where
 A : Option Addr
 n : Nat
 c : Nat
 l : List UInt8
def teL (T : TeR) : List Value := [.slice T.A T.n T.c]
def TeR.ok (T : TeR) (w : World) : Prop := SlB w T.A T.n T.c T.l
instance : RowT TeR where
 sz := 1
 z := ⟨none, 0, 0, []⟩
 enc := teL
 ok T w := T.ok w
 pos := by decide
 len _ := rfl
 one x u hu := by rw [List.mem_singleton.1 hu]; rfl
 ext _ _ _ h e := SlB.ext h e
abbrev vwA (A : Option Addr) (n c : Nat) (B : Option Addr) (m d : Nat) : Array Value := #[.slice A n c, .slice B m d]
section
variable {o : Oper} {a : Act} {w : World} {ops : Array Oper} {rest : List Oper} {Q : Exit → Act → World → Prop}
theorem wpList_loadVt (hgd : o.guard = none) (x : Operand) (ho : o.op = .load 46 x) (b of : Nat) (hx : a.eval x = .pointer (some ⟨b, of, none⟩)) (R : VtR) (hc : w.rangeAt b of (vtL R))
  (h : wpList Tryz.prog ops Q rest (a.put o.dst (.agg (vtA R))) w) : wpList Tryz.prog ops Q (o :: rest) a w := by
 have := wpList_load_mid (P := Tryz.prog) (Q := Q) (ops := ops) (rest := rest) hgd 46 x ho b of hx (vtL R) _ hc Tryz.underlying46 rfl (by rw [vtL_length]; kernel_rfl)
 rw [vtL_arr] at this
 exact this h
theorem wpList_newVt (hgd : o.guard = none) (x y : Operand) (ho : o.op = .store 46 x y) (cs : Array Value) (hcs : cs.size = 22) (R : VtR) (hx : a.eval x = .pointer (some ⟨w.heap.size, 0, none⟩)) (hy : a.eval y = .agg (vtA R))
  (h : wpList Tryz.prog ops Q rest (a.put o.dst undef) (w.alloc (.cells (vtA R) 46))) : wpList Tryz.prog ops Q (o :: rest) a (w.alloc (.cells cs 46)) := by
 have ht := there_of_blk (Blk.new w 46 cs)
 rw [hcs] at ht
 refine wpList_store_mid hgd 46 x y ho w.heap.size 0 (vtA R) hx hy ht (by kernel_rfl) (vtA_all R) ?_
 rw [setCells_whole w 46 cs (vtA R) (by rw [hcs]; rfl)]
 exact h
theorem wpList_loadSg (hgd : o.guard = none) (x : Operand) (ho : o.op = .load 48 x) (b of : Nat) (hx : a.eval x = .pointer (some ⟨b, of, none⟩)) (R : SgR) (hc : w.rangeAt b of (sgL R))
  (h : wpList Tryz.prog ops Q rest (a.put o.dst (.agg (sgA R))) w) : wpList Tryz.prog ops Q (o :: rest) a w := by
 have := wpList_load_mid (P := Tryz.prog) (Q := Q) (ops := ops) (rest := rest) hgd 48 x ho b of hx (sgL R) _ hc Tryz.underlying48 rfl (by rw [sgL_length]; kernel_rfl)
 rw [sgL_arr] at this
 exact this h
theorem wpList_newSg (hgd : o.guard = none) (x y : Operand) (ho : o.op = .store 48 x y) (cs : Array Value) (hcs : cs.size = 23) (R : SgR) (hx : a.eval x = .pointer (some ⟨w.heap.size, 0, none⟩)) (hy : a.eval y = .agg (sgA R))
  (h : wpList Tryz.prog ops Q rest (a.put o.dst undef) (w.alloc (.cells (sgA R) 48))) : wpList Tryz.prog ops Q (o :: rest) a (w.alloc (.cells cs 48)) := by
 have ht := there_of_blk (Blk.new w 48 cs)
 rw [hcs] at ht
 refine wpList_store_mid hgd 48 x y ho w.heap.size 0 (sgA R) hx hy ht (by kernel_rfl) (sgA_all R) ?_
 rw [setCells_whole w 48 cs (sgA R) (by rw [hcs]; rfl)]
 exact h
end
/-! two votes held against each other -/
theorem wfI_key (x : Int) (hx : wfI x) : Tryz.prog.keyLits 2 3 [.int .i64 x] = some [.int .i64 x] := by
 unfold Program.keyLits
 rw [Tryz.underlying3]
 simp only
 rw [if_pos ⟨trivial, hx⟩]
theorem wfI_mask (x : Int) (hx : wfI x) : Tryz.prog.keyLits 2 42 [.int .i64 x] = some [.int .i64 x] := by
 unfold Program.keyLits
 rw [Tryz.underlying42]
 simp only
 rw [if_pos ⟨trivial, hx⟩]
def vtK (v : VtR) : List Lit := [.int .i64 v.k, .int .i64 v.sl, .int .i64 v.ro, .int .i64 v.ch, .int .i64 v.si, .int .i64 v.su] ++ ((nmb v.pa).map litB ++ (nmb v.va).map litB)
def vtC (v : VtR) : List Value := [.int .i64 v.k, .int .i64 v.sl, .int .i64 v.ro, .int .i64 v.ch, .int .i64 v.si, .int .i64 v.su] ++ (bcs (nmb v.pa) ++ bcs (nmb v.va))
theorem vtL_C (v : VtR) : vtL v = vtC v := by unfold vtC; rw [bcs_nb8, bcs_nb8]; rfl
theorem vtK_inj {a b : VtR} (h : vtK a = vtK b) : a = b := by
 unfold vtK at h
 simp only [List.cons_append, List.nil_append, List.cons.injEq, Lit.int.injEq, true_and] at h
 obtain ⟨h1, h2, h3, h4, h5, h6, h7⟩ := h
 have h8 := List.append_inj h7 (by simp [nmb_length])
 have h9 := litB_inj h8.1
 have h10 := litB_inj h8.2
 cases a; cases b
 simp only at *
 subst h1; subst h2; subst h3; subst h4; subst h5; subst h6; subst h9; subst h10
 rfl
theorem keyVt (v : VtR) (h : v.wf) : Tryz.prog.keyLits 3 46 (vtC v) = some (vtK v) := by
 obtain ⟨h1, h2, h3, h4, h5, h6⟩ := h
 have c1 : Tryz.prog.cellsOf 3 = 1 := by kernel_rfl
 have cm : Tryz.prog.cellsOf 42 = 1 := by kernel_rfl
 have c22 : Tryz.prog.cellsOf 46 = 22 := by kernel_rfl
 have hp : (bcs (nmb v.pa)).length = 8 := by rw [bcs_length, nmb_length]
 have hv : (bcs (nmb v.va)).length = 8 := by rw [bcs_length, nmb_length]
 have t8 : (bcs (nmb v.pa) ++ bcs (nmb v.va)).take 8 = bcs (nmb v.pa) := by rw [← hp]; exact List.take_left
 have d8 : (bcs (nmb v.pa) ++ bcs (nmb v.va)).drop 8 = bcs (nmb v.va) := by rw [← hp]; exact List.drop_left
 have t8' : (bcs (nmb v.va)).take 8 = bcs (nmb v.va) := List.take_of_length_le (by omega)
 have hl : (vtC v).length = 22 := by unfold vtC; rw [List.length_append, List.length_append, hp, hv]; rfl
 unfold Program.keyLits
 rw [Tryz.underlying46]
 simp only
 rw [if_pos ⟨by rw [hl, c22], by kernel_rfl⟩]
 simp only [List.mapM_cons, List.mapM_nil, c1, cm, cellsN, vtC, List.cons_append, List.nil_append, List.drop_zero, List.drop_succ_cons, List.take_succ_cons, List.take_zero, wfI_key _ h1, wfI_key _ h2, wfI_key _ h3, wfI_key _ h4, wfI_key _ h5, wfI_mask _ h6, t8, d8, t8', keyName]
 simp [vtK]
theorem eqIn_Vt (a b : VtR) (ha : a.wf) (hb : b.wf) (w : World) : (Op.equalIn 10000 46 (.agg (vtA a)) (.agg (vtA b))).run Tryz.prog w = .ok (decide (a = b)) w := by
 have hE := run_equalIn_deep (P := Tryz.prog) 9997 3 46 (by kernel_rfl)
 have hfm : ∀ v : VtR, (Value.agg (vtA v)).formed Tryz.prog 46 = true := fun v => by
  have c22 : Tryz.prog.cellsOf 46 = 22 := by kernel_rfl
  simp [Value.formed, Tryz.underlying46, c22]
 have hk : ∀ v : VtR, v.wf → Tryz.prog.keyLits 3 46 (Value.agg (vtA v)).cells.toList = some (vtK v) := fun v h => by
  show Tryz.prog.keyLits 3 _ (vtL v) = _
  rw [vtL_C]; exact keyVt v h
 obtain ⟨r, hr, hiff⟩ := hE w 3 3 _ _ _ _ (hfm a) (hfm b) (hk a ha) (hk b hb)
 have hr' : (Op.equalIn 10000 46 (.agg (vtA a)) (.agg (vtA b))).run Tryz.prog w = .ok r w := hr
 rw [hr']
 have : r = decide (a = b) := by
  by_cases h : a = b
  ·subst h; simp [hiff.2 rfl]
  ·have : r ≠ true := fun e => h (vtK_inj (hiff.1 e))
   simp [h, this]
 rw [this]
theorem run_eqVt (a b : VtR) (ha : a.wf) (hb : b.wf) (w : World) : (binOp .eql 46 (.agg (vtA a)) (.agg (vtA b))).run Tryz.prog w = .ok (.bool (decide (a = b))) w := by
 rw [run_eql_struct, eqIn_Vt a b ha hb w]
 rfl
def eqSg (a b : SgR) : Bool := decide (a.v = b.v) && decide (a.sig = b.sig)
def eqTe (a b : TeR) : Bool := decide (a.l = b.l)
end Go.Proofs.YtbfepgjeecndiaaGreat
