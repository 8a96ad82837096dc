/- Rows of elements of whatever type: one text for all. -/
import Derived.Sort.Grow
import Derived.ProofKit
import Derived.OpenShut
import Derived.ShutString
import Derived.ChangeOld
import Derived.Below
import Derived.SizedLaws
import Derived.Deep.Slices
import Derived.Test.YtbfepgjeecndiaaGreatK04
namespace Go.Proofs.YtbfepgjeecndiaaGreat
open Go.RowKit
set_option linter.unusedVariables false
set_option linter.unusedSimpArgs false
class RowT (α : Type) where
 sz : Nat
 z : α
 enc : α → List Value
 ok : α → World → Prop
 pos : 0 < sz
 len : ∀ x, (enc x).length = sz
 one : ∀ x, ∀ u ∈ enc x, u.oneCell' = true
 ext : ∀ x w w', ok x w → Ext w w' → ok x w'
section
variable {α : Type} [RowT α]
def gcs (L : List α) : List Value := L.flatMap RowT.enc
theorem gcs_cons (x : α) (r : List α) : gcs (x :: r) = RowT.enc x ++ gcs r := by simp [gcs]
theorem gcs_one (x : α) : gcs [x] = RowT.enc x := by simp [gcs]
theorem gcs_append (a b : List α) : gcs (a ++ b) = gcs a ++ gcs b := by simp [gcs]
theorem gcs_length (L : List α) : (gcs L).length = L.length * RowT.sz α := by
 induction L with
 | nil => simp [gcs]
 | cons x r ih => rw [gcs_cons, List.length_append, RowT.len, ih, List.length_cons, Nat.add_mul, Nat.one_mul, Nat.add_comm]
theorem gcs_cell (L : List α) : ∀ u ∈ gcs L, u.oneCell' = true := by
 intro u hu
 simp only [gcs, List.mem_flatMap] at hu
 obtain ⟨x, _, h⟩ := hu
 exact RowT.one x u h
theorem gcs_drop (L : List α) (k : Nat) : (gcs L).drop (k * RowT.sz α) = gcs (L.drop k) := by
 induction k generalizing L with
 | zero => simp
 | succ k ih =>
  cases L with
  | nil => simp [gcs]
  | cons n r =>
   rw [gcs_cons, List.drop_succ_cons, ← ih r, show (k + 1) * RowT.sz α = (RowT.enc n).length + k * RowT.sz α from by rw [RowT.len, Nat.add_mul, Nat.one_mul, Nat.add_comm], List.drop_append, List.drop_of_length_le (by omega)]
   simp
theorem gcs_take (L : List α) (k : Nat) : (gcs L).take (k * RowT.sz α) = gcs (L.take k) := by
 induction k generalizing L with
 | zero => simp [gcs]
 | succ k ih =>
  cases L with
  | nil => simp [gcs]
  | cons n r =>
   rw [gcs_cons, List.take_succ_cons, gcs_cons, ← ih r, show (k + 1) * RowT.sz α = (RowT.enc n).length + k * RowT.sz α from by rw [RowT.len, Nat.add_mul, Nat.one_mul, Nat.add_comm], List.take_append, List.take_of_length_le (by omega)]
   simp
def nthG (L : List α) (k : Nat) : α := L.getD k (RowT.z)
theorem nthG_eq {L : List α} {k : Nat} (h : k < L.length) : L[k] = nthG L k := by simp [nthG, h]
theorem nthG_get {L : List α} {k : Nat} (h : k < L.length) : L[k]? = some (nthG L k) := by simp [nthG, h]
theorem gcs_at {L : List α} {k : Nat} (h : k < L.length) : ((gcs L).drop (k * RowT.sz α)).take (RowT.sz α) = RowT.enc (nthG L k) := by
 rw [gcs_drop, List.drop_eq_getElem_cons h, gcs_cons, List.take_append_of_le_length (by rw [RowT.len]; omega), List.take_of_length_le (by rw [RowT.len]; omega), nthG_eq h]
theorem take_nthG {L : List α} {k : Nat} (h : k < L.length) : L.take (k + 1) = L.take k ++ [nthG L k] := by
 rw [List.take_succ_eq_append_getElem h, nthG_eq h]
theorem nthG_mem {L : List α} {k : Nat} (h : k < L.length) : nthG L k ∈ L := by
 rw [← nthG_eq h]; exact List.getElem_mem _
structure SlG (w : World) (A : Option Addr) (n c : Nat) (L : List α) : Prop where
 len : L.length = n
 le : n ≤ c
 cap : c ≤ 9223372036854775807
 rd : Rd w A (gcs L)
 ok : ∀ R, R ∈ L → RowT.ok R w
variable {w w' : World} {A : Option Addr} {n c : Nat} {L : List α}
theorem SlG.ext (h : SlG w A n c L) (e : Ext w w') : SlG w' A n c L := ⟨h.len, h.le, h.cap, h.rd.ext e, fun R hR => RowT.ext _ _ _ (h.ok R hR) e⟩
theorem SlG.at (h : SlG w A n c L) (hn : 0 < n) : ∃ b o, A = some ⟨b, o, none⟩ ∧ w.rangeAt b o (gcs L) ∧ b < w.heap.size :=
 h.rd.at (by
  intro e
  have := congrArg List.length e
  rw [gcs_length, h.len] at this
  have := Nat.mul_pos hn (RowT.pos (α := α))
  simp at *; omega)
theorem SlG.nil (w : World) : SlG w none 0 0 ([] : List α) := ⟨rfl, Nat.le_refl _, Nat.zero_le _, .nil, fun R hR => by cases hR⟩
theorem SlG.empty (w : World) (A : Option Addr) (c : Nat) (hc : c ≤ 9223372036854775807) : SlG w A 0 c ([] : List α) := ⟨rfl, Nat.zero_le _, hc, .nil, fun R hR => by cases hR⟩
theorem SlG.nth (h : SlG w A n c L) {k : Nat} (hk : k < n) : RowT.ok (nthG L k) w := h.ok _ (nthG_mem (by rw [h.len]; exact hk))
theorem el_at {b o k : Nat} (h : w.rangeAt b o (gcs L)) (hk : k < L.length) : w.rangeAt b (o + k * RowT.sz α) (RowT.enc (nthG L k)) := by
 have h1 := rangeAt_take (k := RowT.sz α) (rangeAt_drop (k := k * RowT.sz α) h)
 rwa [gcs_at hk] at h1
theorem SlG.upto (h : SlG w A n c L) {k c' : Nat} (hk : k ≤ n) (hc : k ≤ c') (hc' : c' ≤ 9223372036854775807) : SlG w A k c' (L.take k) := by
 refine ⟨by rw [List.length_take, h.len]; omega, hc, hc', ?_, fun R hR => h.ok R (List.mem_of_mem_take hR)⟩
 rw [← gcs_take]; exact h.rd.take _
theorem SlG.cut (h : SlG w A n c L) {k : Nat} (hk : k ≤ n) (hkc : k < c) : SlG w (A.map (·.add (k * RowT.sz α))) (n - k) (c - k) (L.drop k) := by
 refine ⟨by rw [List.length_drop, h.len], by have := h.le; omega, by have := h.cap; omega, ?_, fun R hR => h.ok R (List.mem_of_mem_drop hR)⟩
 have := h.rd.cut (n := n) (k := k) (c := c) (size := RowT.sz α) (by rw [gcs_length, h.len]) hk h.le
 rwa [if_neg (by omega), gcs_drop] at this
def OwnG (w : World) (base : Nat) (e : TypeId) (A : Option Addr) (n c : Nat) (L : List α) : Prop := w.ownsRow base e (RowT.sz α) (.slice A n c) n (gcs L)
section
variable {base : Nat} {e : TypeId}
theorem OwnG.len (h : OwnG w base e A n c L) : L.length = n := by
 have := h.1; rw [gcs_length] at this; exact Nat.eq_of_mul_eq_mul_right RowT.pos this
theorem OwnG.sl (h : OwnG w base e A n c L) (ok : ∀ R, R ∈ L → RowT.ok R w) : SlG w A n c L := by
 obtain ⟨h1, h2⟩ := own_cap h
 exact ⟨h.len, h1, h2, Rd.of_own h, ok⟩
theorem OwnG.nil (w : World) (base : Nat) (e : TypeId) : OwnG w base e none 0 0 ([] : List α) := World.ownsRow_nil w base e _
theorem OwnG.ext (h : OwnG w base e A n c L) (he : Ext w w') : OwnG w' base e A n c L := own_ext h he
theorem OwnG.mono {base' : Nat} (h : OwnG w base e A n c L) (hb : base' ≤ base) : OwnG w base' e A n c L := own_mono h hb
end
theorem rows_G {sz : Nat} (hsz : RowT.sz α = sz) {b o : Nat} : ∀ (n : Nat), (∀ j, j < n → ∃ y : α, w.rangeAt b (o + j * sz) (RowT.enc y) ∧ RowT.ok y w) → ∃ L : List α, L.length = n ∧ w.rangeAt b o (gcs L) ∧ ∀ R, R ∈ L → RowT.ok R w := by
 intro n
 subst hsz
 induction n with
 | zero => intro _; exact ⟨[], rfl, fun j v hv => by simp [gcs] at hv, fun R hR => by cases hR⟩
 | succ n ih =>
  intro h
  obtain ⟨L, hL, hr, hok⟩ := ih (fun j hj => h j (by omega))
  obtain ⟨y, hy, hyo⟩ := h n (by omega)
  refine ⟨L ++ [y], by simp [hL], ?_, ?_⟩
  ·rw [gcs_append, gcs_one]
   refine rangeAt_append hr ?_
   rw [gcs_length, hL]; exact hy
  ·intro R hR
   rcases List.mem_append.1 hR with hR | hR
   ·exact hok R hR
   ·rw [List.mem_singleton.1 hR]; exact hyo
def eqG (f : α → α → Bool) (L M : List α) : Bool := decide (L.length = M.length ∧ ∀ k, k < L.length → f (nthG L k) (nthG M k) = true)
theorem eqG_len {f : α → α → Bool} {L M : List α} (h : L.length ≠ M.length) : eqG f L M = false := decide_eq_false (fun hh => h hh.1)
theorem eqG_at {f : α → α → Bool} {L M : List α} {k : Nat} (hk : k < L.length) (h : f (nthG L k) (nthG M k) = false) : eqG f L M = false := decide_eq_false (fun hh => by rw [hh.2 k hk] at h; cases h)
theorem eqG_yes {f : α → α → Bool} {L M : List α} (h1 : L.length = M.length) (h2 : ∀ k, k < L.length → f (nthG L k) (nthG M k) = true) : eqG f L M = true := decide_eq_true ⟨h1, h2⟩
end
/-! worlds that only grow, by draws and new blocks -/
end Go.Proofs.YtbfepgjeecndiaaGreat

/- block.open: a cursor behind the kind of a text, or one that has failed. DecodePayload at a text of another kind. -/
namespace Go.Proofs.YtbfepgjeecndiaaGreat
open Go.RowKit
set_option linter.unusedVariables false
set_option linter.unusedSimpArgs false
attribute [local go_sem ↓] Go.wp_at_zero Go.wp_at_succ
variable {D : Nat}
theorem ext_grown {w w1 w2 : World} {B : Nat} (h : Ext w w1) (hg : w1.grownBy w2 (some B)) (hB : w.heap.size ≤ B) : Ext w w2 :=
 Below.grown h hg h.size (fun k hk => by injection hk with hk; omega)
theorem retCV {fn : Func} {p q : Tmp} {ty : TypeId} (hres : fn.results = #[.cell p ty, .tmp q]) (tmps : Array Value) (w1 : World) (g : Nat) (cs : Array Value) (v : Value) (hp : tmps.getD p undef = .pointer (some ⟨g, 0, none⟩)) (hq : tmps.getD q undef = v) (hl : (loadVar ty ⟨g, 0, none⟩).run Tryz.prog w1 = .ok (.agg cs) w1) :
  (results fn tmps).run Tryz.prog w1 = .ok (.tuple #[.agg cs, v]) w1 := by
 have hp' : tmps[p]?.getD undef = .pointer (some ⟨g, 0, none⟩) := by simpa using hp
 have hq' : tmps[q]?.getD undef = v := by simpa using hq
 simp [results, hres, hp', hq', asAddr, hl]
end Go.Proofs.YtbfepgjeecndiaaGreat
/- ids in strictly ascending order: block.validators over a function value; validBlock and its reference. -/
namespace Go.Proofs.YtbfepgjeecndiaaGreat
open Go.RowKit
set_option linter.unusedVariables false
set_option linter.unusedSimpArgs false
attribute [local go_sem ↓] Go.wp_at_zero Go.wp_at_succ
end Go.Proofs.YtbfepgjeecndiaaGreat
/- A block as a value; validBlock. -/
namespace Go.Proofs.YtbfepgjeecndiaaGreat
open Go.RowKit
set_option linter.unusedVariables false
set_option linter.unusedSimpArgs false
attribute [local go_sem ↓] Go.wp_at_zero Go.wp_at_succ
/-! a list of pairs of an id and a name (slots of a block, heads of a record): nine cells each -/
theorem bcs_nb8 (n : UInt64) : bcs (nmb n) = [.int .u8 (nb8 n 0), .int .u8 (nb8 n 1), .int .u8 (nb8 n 2), .int .u8 (nb8 n 3), .int .u8 (nb8 n 4), .int .u8 (nb8 n 5), .int .u8 (nb8 n 6), .int .u8 (nb8 n 7)] := by
 rw [← nmc_toList, ← nmc_nb8]
end Go.Proofs.YtbfepgjeecndiaaGreat

/- Decode (the program's): what is read, and the state of the walk. -/
namespace Go.Proofs.YtbfepgjeecndiaaGreat
open Go.RowKit
set_option linter.unusedVariables false
set_option linter.unusedSimpArgs false
attribute [local go_sem ↓] Go.wp_at_zero Go.wp_at_succ
/-! what is read: operations, one behind the other -/
theorem own_ne {w : World} {base base' : Nat} {e e' : TypeId} {size size' : Nat} {A A' : Option Addr} {n n' c c' : Nat} {xs xs' : List Value} (h : w.ownsRow base e size (.slice A n c) n xs) (h' : w.ownsRow base' e' size' (.slice A' n' c') n' xs') (hne : e ≠ e') : (Value.slice A n c).ownBlock = none ∨ (Value.slice A n c).ownBlock ≠ (Value.slice A' n' c').ownBlock := by
 rcases h.2 with ⟨hv, _⟩ | ⟨g, cap, cur, hv, _, hh, _⟩
 ·exact .inl (by rw [hv]; simp [Value.ownBlock])
 ·refine .inr ?_
  have := own_other (t := e) (cs := cur) h' hh hne
  rw [hv]; exact this
section
variable {P : Program} {t e : TypeId} {z : Value} {size bytes : Nat}
theorem wpList_appGG {ops : Array Oper} {rest : List Oper} {o : Oper} {a : Act} {w : World} {Q : Exit → Act → World → Prop} (E : Elem P t e z size bytes) (hgd : o.guard = none) (s x : Operand)
  (ho : o.op = .call { callee := .builtin .append, args := #[s, x], argTypes := #[t, t] })
  (base : Nat) (A : Option Addr) (n c : Nat) (xs : List Value) (hs : a.eval s = .slice A n c) (hown : w.ownsRow base e size (.slice A n c) n xs)
  (A2 : Option Addr) (m c2 : Nat) (ys : List Value) (hx : a.eval x = .slice A2 m c2) (hr : Rd w A2 ys) (hl : ys.length = m * size) (h1 : ∀ u ∈ ys, u.oneCell' = true)
  (hb : (n + m) * bytes ≤ 140737488355328) (h63 : n + m ≤ 4611686018427387904) (hbase : base ≤ w.heap.size)
  (h : ∀ A' c' w', w'.ownsRow base e size (.slice A' (n + m) c') (n + m) (xs ++ ys) → w.grownBy w' (Value.ownBlock (.slice A n c)) → wpList P ops Q rest (a.put o.dst (.slice A' (n + m) c')) w') : wpList P ops Q (o :: rest) a w :=
 wpList_plain hgd fun K hK => wp_app E s x ho base A n c xs hs hown A2 m c2 ys hx hr hl h1 hb h63 hbase fun A' c' w' h2 h3 => hK _ _ (h A' c' w' h2 h3)
end
end Go.Proofs.YtbfepgjeecndiaaGreat

/- What a law is told of its arguments: names and bytes that came in. -/
namespace Go.Proofs.YtbfepgjeecndiaaGreat
set_option maxRecDepth 100000
open Go.ChangeShapes Go.WideShapes Go.ChangeAt Go.RowKit
set_option linter.unusedVariables false
set_option linter.unusedSimpArgs false
theorem cellsNm : Tryz.prog.cellsOf 44 = 8 := by kernel_rfl
theorem cellsB1 : Tryz.prog.cellsOf 5 = 1 := by kernel_rfl
theorem open_nmc {H : Type} {enc : TypeId × Value → H} {W : World} {base fuel : Nat} {held : Bool} {cs : List Value} {x : DataW H × List MemPlace}
  (h : DataW.trod enc Tryz.prog W base (fun _ => true) held fuel 44 cs = some x) : ∃ n : UInt64, cs = (nmc n).toList := by
 obtain ⟨xs, m, _, _, hl, hxl, hf⟩ := DataW.trod_array Tryz.underlying44 h
 rw [cellsNm] at hl
 rw [cellsB1] at hf
 have hb : ∀ i, i < 8 → ∃ b : UInt8, cs[i]? = some (.int .u8 (b.toNat : Int)) := by
  intro i hi
  have h1 := hf i hi
  rw [List.getElem?_eq_getElem (by omega)] at h1
  obtain ⟨z, e, _, wz⟩ := DataW.trod_int Tryz.underlying5 h1
  have h2 := wf_u8 wz
  refine ⟨toB z, ?_⟩
  rw [← toB_eq, Int.emod_eq_of_lt h2.1 h2.2]
  have h3 : ((cs.drop (i * 1)).take 1)[0]? = some (.int .u8 z) := by rw [e]; rfl
  rw [List.getElem?_take_of_lt (by omega), List.getElem?_drop] at h3
  simpa using h3
 have hc : ∃ l : List UInt8, l.length = 8 ∧ cs = bcs l := by
  match cs, hl, hb with
  | [c0, c1, c2, c3, c4, c5, c6, c7], _, hb =>
   obtain ⟨b0, e0⟩ := hb 0 (by omega)
   have e0 : c0 = .int .u8 (b0.toNat : Int) := Option.some.inj e0
   obtain ⟨b1, e1⟩ := hb 1 (by omega)
   have e1 : c1 = .int .u8 (b1.toNat : Int) := Option.some.inj e1
   obtain ⟨b2, e2⟩ := hb 2 (by omega)
   have e2 : c2 = .int .u8 (b2.toNat : Int) := Option.some.inj e2
   obtain ⟨b3, e3⟩ := hb 3 (by omega)
   have e3 : c3 = .int .u8 (b3.toNat : Int) := Option.some.inj e3
   obtain ⟨b4, e4⟩ := hb 4 (by omega)
   have e4 : c4 = .int .u8 (b4.toNat : Int) := Option.some.inj e4
   obtain ⟨b5, e5⟩ := hb 5 (by omega)
   have e5 : c5 = .int .u8 (b5.toNat : Int) := Option.some.inj e5
   obtain ⟨b6, e6⟩ := hb 6 (by omega)
   have e6 : c6 = .int .u8 (b6.toNat : Int) := Option.some.inj e6
   obtain ⟨b7, e7⟩ := hb 7 (by omega)
   have e7 : c7 = .int .u8 (b7.toNat : Int) := Option.some.inj e7
   exact ⟨[b0, b1, b2, b3, b4, b5, b6, b7], rfl, by rw [e0, e1, e2, e3, e4, e5, e6, e7]; rfl⟩
 obtain ⟨l, hl8, rfl⟩ := hc
 exact ⟨ofNm l, by rw [nmc_toList, nmb_ofNm l hl8]⟩
theorem open_bs {H : Type} {enc : TypeId × Value → H} {W : World} {base : Nat} {held : Bool} {a : Option Addr} {n c : Nat} {d : DataW H} {p : List MemPlace}
  (h : DataW.Trod enc Tryz.prog W base (fun _ => true) held 28 (.slice a n c) d p) : ∃ l, SlB W a n c l ∧ ((n = 0 ∧ c = 0) ∨ ∃ e s, d = .slice e s ∧ e.length + s.length = c) := by
 obtain ⟨fuel, hf⟩ := h
 rcases open_ints Tryz.underlying28 Tryz.underlying5 (by kernel_rfl) hf with ⟨hcs, _⟩ | ⟨x, l, c', zs, hcs, _, hl, hm, hz, hx, hcell, hwz⟩
 ·simp [Value.cells] at hcs
  obtain ⟨rfl, rfl, rfl⟩ := hcs
  exact ⟨[], SlB.nil _, .inl ⟨rfl, rfl⟩⟩
 ·simp [Value.cells] at hcs
  obtain ⟨rfl, rfl, rfl⟩ := hcs
  have hz' : zs.length = c := by simpa using hz
  simp only [Prod.mk.injEq] at hx
  obtain ⟨l, hs⟩ := slb_of_row (.inr ⟨_, rfl, hl, hm, hz', hcell, hwz⟩)
  refine ⟨l, hs, .inr ⟨_, _, hx.1, ?_⟩⟩
  simp [lits, hz']; omega
theorem bytesB1 : Tryz.prog.bytesOf 5 = 1 := by kernel_rfl
end Go.Proofs.YtbfepgjeecndiaaGreat
/- What a law is told of an argument of the type api.Block. -/
namespace Go.Proofs.YtbfepgjeecndiaaGreat
open Go.ChangeShapes Go.WideShapes Go.ChangeAt Go.RowKit Go.Deep
set_option linter.unusedVariables false
set_option linter.unusedSimpArgs false
theorem cellsI1 : Tryz.prog.cellsOf 3 = 1 := by kernel_rfl
theorem spot_none' {w : World} {x : Addr} {k : IntKind} {n : Int} (h : w.cell? x = some (.int k n)) : x.spot = none := by
 unfold World.cell? at h
 cases hs : x.spot with
 | none => rfl
 | some p => rw [hs] at h; split at h <;> simp at h
end Go.Proofs.YtbfepgjeecndiaaGreat
/- What a law is told of arguments of the types api.Tx, api.SignedTx, api.Payload. -/
namespace Go.Proofs.YtbfepgjeecndiaaGreat
open Go.ChangeShapes Go.WideShapes Go.ChangeAt Go.RowKit Go.Deep
set_option linter.unusedVariables false
set_option linter.unusedSimpArgs false
theorem cellsSB : Tryz.prog.cellsOf 28 = 1 := by kernel_rfl
section
variable {H : Type} {enc : TypeId × Value → H} {w : World} {base fuel : Nat} {held : Bool} {cs : List Value} {x : DataW H × List MemPlace}
theorem open_rowB (h : DataW.trod enc Tryz.prog w base (fun _ => true) held fuel 28 cs = some x) : ∃ a n c l, cs = [.slice a n c] ∧ SlB w a n c l := by
 rcases open_ints Tryz.underlying28 Tryz.underlying5 cellsB1 h with ⟨hcs, _⟩ | ⟨x, l, c, zs, hcs, _, hl, hm, hz, _, hcell, hwz⟩
 ·exact ⟨_, _, _, [], hcs, SlB.nil w⟩
 ·obtain ⟨l', hs⟩ := slb_of_row (.inr ⟨_, rfl, hl, hm, by simpa using hz, hcell, hwz⟩)
  exact ⟨_, _, _, l', hcs, hs⟩
theorem cut_at {α : Type} (cs : List α) (a n : Nat) : cs.drop a = (cs.drop a).take n ++ cs.drop (a + n) := by
 rw [← List.drop_drop, List.take_append_drop]
theorem list2 {α : Type} {l : List α} (h : l.length = 2) : ∃ a b, l = [a, b] := by
 match l, h with
 | [a, b], _ => exact ⟨a, b, rfl⟩
end
end Go.Proofs.YtbfepgjeecndiaaGreat
