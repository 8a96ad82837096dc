/- DecodeBlock. -/
import Derived.DeepKeys
import Derived.Sort.Grow
import Derived.Test.YtbfepgjeecndiaaGreatJ04
namespace Go.Proofs.YtbfepgjeecndiaaGreat
open Go.RowKit
set_option linter.unusedVariables false
set_option linter.unusedSimpArgs false
attribute [local go_sem ↓] Go.wp_at_zero Go.wp_at_succ
@[go_sem] theorem fold_nmc9 (n : UInt64) : Array.foldl (fun (cs : Array Value) (x : Value × Nat) => cs.setIfInBounds x.snd x.fst) #[.int .u8 0, .int .u8 0, .int .u8 0, .int .u8 0, .int .u8 0, .int .u8 0, .int .u8 0, .int .u8 0, .slice none 0 0] (nmc n).zipIdx 0 8 = #[.int .u8 (nb8 n 0), .int .u8 (nb8 n 1), .int .u8 (nb8 n 2), .int .u8 (nb8 n 3), .int .u8 (nb8 n 4), .int .u8 (nb8 n 5), .int .u8 (nb8 n 6), .int .u8 (nb8 n 7), .slice none 0 0] := by
 rw [← nmc_nb8 n]
 kernel_rfl
@[go_sem] theorem fold_pair (i : Int) (n : UInt64) : Array.foldl (fun (cs : Array Value) (x : Value × Nat) => cs.setIfInBounds (1 + x.snd) x.fst) #[.int .i64 i, .int .u8 0, .int .u8 0, .int .u8 0, .int .u8 0, .int .u8 0, .int .u8 0, .int .u8 0, .int .u8 0] (nmc n).zipIdx 0 8 = #[.int .i64 i, .int .u8 (nb8 n 0), .int .u8 (nb8 n 1), .int .u8 (nb8 n 2), .int .u8 (nb8 n 3), .int .u8 (nb8 n 4), .int .u8 (nb8 n 5), .int .u8 (nb8 n 6), .int .u8 (nb8 n 7)] := by
 rw [← nmc_nb8 n]
 kernel_rfl
/-! what is read: pairs, one behind the other -/
theorem step_appG' {P : Program} {t e : TypeId} {z : Value} {size bytes : Nat} {ops : Array Oper} {o : Oper} {a : Act} {w : World} {K : Act → World → Prop} {Q : Exit → Act → World → Prop} {X : Prop} (E : Elem P t e z size bytes) (hgd : o.guard = none) (s x : Operand)
  (ho : o.op = .call { callee := .builtin .append, args := #[s, x], argTypes := #[t, t] })
  (base : Nat) (A : Option Addr) (n c : Nat) (xs : List Value) (hs : a.eval s = .slice A n c) (hown : w.ownsRow base e size (.slice A n c) n xs)
  (A2 : Option Addr) (m c2 : Nat) (ys : List Value) (hx : a.eval x = .slice A2 m c2) (hr : Rd w A2 ys) (hl : ys.length = m * size) (h1 : ∀ u ∈ ys, u.oneCell' = true)
  (hb : (n + m) * bytes ≤ 140737488355328) (h63 : n + m ≤ 4611686018427387904) (hbase : base ≤ w.heap.size)
  (h : ∀ A' c' w', w'.ownsRow base e size (.slice A' (n + m) c') (n + m) (xs ++ ys) → w.grownBy w' (Value.ownBlock (.slice A n c)) → K (a.put o.dst (.slice A' (n + m) c')) w') : if Region.wanted o (yielded ops a.tmps) = true then Oper.wp P o a w K Q else X := by
 have hw : Region.wanted o (yielded ops a.tmps) = true := by simp [Region.wanted, hgd]
 rw [if_pos hw]
 exact wp_app E s x ho base A n c xs hs hown A2 m c2 ys hx hr hl h1 hb h63 hbase fun A' c' w' h2 h3 => h A' c' w' h2 h3
theorem own_other {w : World} {base : Nat} {e : TypeId} {size : Nat} {A : Option Addr} {n c : Nat} {xs : List Value} {X : Nat} {t : TypeId} {cs : Array Value} (h : w.ownsRow base e size (.slice A n c) n xs) (hb : Blk w X t cs) (hne : t ≠ e) : some X ≠ Value.ownBlock (.slice A n c) := by
 rcases h.2 with ⟨hv, _⟩ | ⟨g, cap, cur, hv, _, hh, _⟩
 ·rw [hv]; simp [Value.ownBlock]
 ·rw [hv]
  simp only [Value.ownBlock]
  intro e1
  injection e1 with e1
  subst e1
  unfold Blk at hb
  rw [hh] at hb
  injection hb with hb
  injection hb with _ hb
  exact hne hb.symm
theorem cur_blk {t : TypeId} {D : Nat} {w : World} {B : Nat} {s : Option (List UInt8)} (h : CurAt t D w B s) : ∃ cs, Blk w B t cs := by
 obtain ⟨A, n, c, l, k, hB, _⟩ := h; exact ⟨_, hB⟩
theorem blk_ne {w : World} {X B : Nat} {t t' : TypeId} {cs cs' : Array Value} (h : Blk w X t cs) (h' : Blk w B t' cs') (hne : t ≠ t') : X ≠ B := by
 intro e; subst e
 unfold Blk at h h'
 rw [h] at h'
 injection h' with h'
 injection h' with _ h'
 exact hne h'
end Go.Proofs.YtbfepgjeecndiaaGreat

/- Operations of a transaction as values: what they are in memory, when they are valid. -/
namespace Go.Proofs.YtbfepgjeecndiaaGreat
open Go.RowKit
set_option linter.unusedVariables false
set_option linter.unusedSimpArgs false
attribute [local go_sem ↓] Go.wp_at_zero Go.wp_at_succ
/-! a region of more than 64 operations stands as two lists, one appended to the other: to be laid straight behind go_enter -/
/-! validity -/
@[go_sem] theorem band_5_1 : bits .and .i64 5 1 = 1 := by decide
@[go_sem] theorem band_5_2 : bits .and .i64 5 2 = 0 := by decide
@[go_sem] theorem band_5_4 : bits .and .i64 5 4 = 4 := by decide
@[go_sem] theorem band_5_8 : bits .and .i64 5 8 = 0 := by decide
@[go_sem] theorem band_5_16 : bits .and .i64 5 16 = 0 := by decide
@[go_sem] theorem band_5_32 : bits .and .i64 5 32 = 0 := by decide
@[go_sem] theorem band_5_64 : bits .and .i64 5 64 = 0 := by decide
@[go_sem] theorem band_5_128 : bits .and .i64 5 128 = 0 := by decide
@[go_sem] theorem band_29_1 : bits .and .i64 29 1 = 1 := by decide
@[go_sem] theorem band_29_2 : bits .and .i64 29 2 = 0 := by decide
@[go_sem] theorem band_29_4 : bits .and .i64 29 4 = 4 := by decide
@[go_sem] theorem band_29_8 : bits .and .i64 29 8 = 8 := by decide
@[go_sem] theorem band_29_16 : bits .and .i64 29 16 = 16 := by decide
@[go_sem] theorem band_29_32 : bits .and .i64 29 32 = 0 := by decide
@[go_sem] theorem band_29_64 : bits .and .i64 29 64 = 0 := by decide
@[go_sem] theorem band_29_128 : bits .and .i64 29 128 = 0 := by decide
@[go_sem] theorem band_101_1 : bits .and .i64 101 1 = 1 := by decide
@[go_sem] theorem band_101_2 : bits .and .i64 101 2 = 0 := by decide
@[go_sem] theorem band_101_4 : bits .and .i64 101 4 = 4 := by decide
@[go_sem] theorem band_101_8 : bits .and .i64 101 8 = 0 := by decide
@[go_sem] theorem band_101_16 : bits .and .i64 101 16 = 0 := by decide
@[go_sem] theorem band_101_32 : bits .and .i64 101 32 = 32 := by decide
@[go_sem] theorem band_101_64 : bits .and .i64 101 64 = 64 := by decide
@[go_sem] theorem band_101_128 : bits .and .i64 101 128 = 0 := by decide
@[go_sem] theorem band_37_1 : bits .and .i64 37 1 = 1 := by decide
@[go_sem] theorem band_37_2 : bits .and .i64 37 2 = 0 := by decide
@[go_sem] theorem band_37_4 : bits .and .i64 37 4 = 4 := by decide
@[go_sem] theorem band_37_8 : bits .and .i64 37 8 = 0 := by decide
@[go_sem] theorem band_37_16 : bits .and .i64 37 16 = 0 := by decide
@[go_sem] theorem band_37_32 : bits .and .i64 37 32 = 32 := by decide
@[go_sem] theorem band_37_64 : bits .and .i64 37 64 = 0 := by decide
@[go_sem] theorem band_37_128 : bits .and .i64 37 128 = 0 := by decide
@[go_sem] theorem band_6_1 : bits .and .i64 6 1 = 0 := by decide
@[go_sem] theorem band_6_2 : bits .and .i64 6 2 = 2 := by decide
@[go_sem] theorem band_6_4 : bits .and .i64 6 4 = 4 := by decide
@[go_sem] theorem band_6_8 : bits .and .i64 6 8 = 0 := by decide
@[go_sem] theorem band_6_16 : bits .and .i64 6 16 = 0 := by decide
@[go_sem] theorem band_6_32 : bits .and .i64 6 32 = 0 := by decide
@[go_sem] theorem band_6_64 : bits .and .i64 6 64 = 0 := by decide
@[go_sem] theorem band_6_128 : bits .and .i64 6 128 = 0 := by decide
@[go_sem] theorem band_130_1 : bits .and .i64 130 1 = 0 := by decide
@[go_sem] theorem band_130_2 : bits .and .i64 130 2 = 2 := by decide
@[go_sem] theorem band_130_4 : bits .and .i64 130 4 = 0 := by decide
@[go_sem] theorem band_130_8 : bits .and .i64 130 8 = 0 := by decide
@[go_sem] theorem band_130_16 : bits .and .i64 130 16 = 0 := by decide
@[go_sem] theorem band_130_32 : bits .and .i64 130 32 = 0 := by decide
@[go_sem] theorem band_130_64 : bits .and .i64 130 64 = 0 := by decide
@[go_sem] theorem band_130_128 : bits .and .i64 130 128 = 128 := by decide
end Go.Proofs.YtbfepgjeecndiaaGreat

/- Rows of elements of whatever type: one text for all. -/
namespace Go.Proofs.YtbfepgjeecndiaaGreat
open Go.RowKit
set_option linter.unusedVariables false
set_option linter.unusedSimpArgs false
class RowT (α : Type) where
 sz : Nat
 z : α
 enc : α → List Value
 ok : α → World → Prop
 pos : 0 < sz
 len : ∀ x, (enc x).length = sz
 one : ∀ x, ∀ u ∈ enc x, u.oneCell' = true
 ext : ∀ x w w', ok x w → Ext w w' → ok x w'
section
variable {α : Type} [RowT α]
def gcs (L : List α) : List Value := L.flatMap RowT.enc
theorem gcs_cons (x : α) (r : List α) : gcs (x :: r) = RowT.enc x ++ gcs r := by simp [gcs]
theorem gcs_one (x : α) : gcs [x] = RowT.enc x := by simp [gcs]
theorem gcs_append (a b : List α) : gcs (a ++ b) = gcs a ++ gcs b := by simp [gcs]
theorem gcs_length (L : List α) : (gcs L).length = L.length * RowT.sz α := by
 induction L with
 | nil => simp [gcs]
 | cons x r ih => rw [gcs_cons, List.length_append, RowT.len, ih, List.length_cons, Nat.add_mul, Nat.one_mul, Nat.add_comm]
theorem gcs_cell (L : List α) : ∀ u ∈ gcs L, u.oneCell' = true := by
 intro u hu
 simp only [gcs, List.mem_flatMap] at hu
 obtain ⟨x, _, h⟩ := hu
 exact RowT.one x u h
theorem gcs_drop (L : List α) (k : Nat) : (gcs L).drop (k * RowT.sz α) = gcs (L.drop k) := by
 induction k generalizing L with
 | zero => simp
 | succ k ih =>
  cases L with
  | nil => simp [gcs]
  | cons n r =>
   rw [gcs_cons, List.drop_succ_cons, ← ih r, show (k + 1) * RowT.sz α = (RowT.enc n).length + k * RowT.sz α from by rw [RowT.len, Nat.add_mul, Nat.one_mul, Nat.add_comm], List.drop_append, List.drop_of_length_le (by omega)]
   simp
theorem gcs_take (L : List α) (k : Nat) : (gcs L).take (k * RowT.sz α) = gcs (L.take k) := by
 induction k generalizing L with
 | zero => simp [gcs]
 | succ k ih =>
  cases L with
  | nil => simp [gcs]
  | cons n r =>
   rw [gcs_cons, List.take_succ_cons, gcs_cons, ← ih r, show (k + 1) * RowT.sz α = (RowT.enc n).length + k * RowT.sz α from by rw [RowT.len, Nat.add_mul, Nat.one_mul, Nat.add_comm], List.take_append, List.take_of_length_le (by omega)]
   simp
def nthG (L : List α) (k : Nat) : α := L.getD k (RowT.z)
theorem nthG_eq {L : List α} {k : Nat} (h : k < L.length) : L[k] = nthG L k := by simp [nthG, h]
theorem nthG_get {L : List α} {k : Nat} (h : k < L.length) : L[k]? = some (nthG L k) := by simp [nthG, h]
theorem gcs_at {L : List α} {k : Nat} (h : k < L.length) : ((gcs L).drop (k * RowT.sz α)).take (RowT.sz α) = RowT.enc (nthG L k) := by
 rw [gcs_drop, List.drop_eq_getElem_cons h, gcs_cons, List.take_append_of_le_length (by rw [RowT.len]; omega), List.take_of_length_le (by rw [RowT.len]; omega), nthG_eq h]
theorem take_nthG {L : List α} {k : Nat} (h : k < L.length) : L.take (k + 1) = L.take k ++ [nthG L k] := by
 rw [List.take_succ_eq_append_getElem h, nthG_eq h]
theorem nthG_mem {L : List α} {k : Nat} (h : k < L.length) : nthG L k ∈ L := by
 rw [← nthG_eq h]; exact List.getElem_mem _
structure SlG (w : World) (A : Option Addr) (n c : Nat) (L : List α) : Prop where
 len : L.length = n
 le : n ≤ c
 cap : c ≤ 9223372036854775807
 rd : Rd w A (gcs L)
 ok : ∀ R, R ∈ L → RowT.ok R w
variable {w w' : World} {A : Option Addr} {n c : Nat} {L : List α}
theorem SlG.ext (h : SlG w A n c L) (e : Ext w w') : SlG w' A n c L := ⟨h.len, h.le, h.cap, h.rd.ext e, fun R hR => RowT.ext _ _ _ (h.ok R hR) e⟩
theorem SlG.at (h : SlG w A n c L) (hn : 0 < n) : ∃ b o, A = some ⟨b, o, none⟩ ∧ w.rangeAt b o (gcs L) ∧ b < w.heap.size :=
 h.rd.at (by
  intro e
  have := congrArg List.length e
  rw [gcs_length, h.len] at this
  have := Nat.mul_pos hn (RowT.pos (α := α))
  simp at *; omega)
theorem SlG.nil (w : World) : SlG w none 0 0 ([] : List α) := ⟨rfl, Nat.le_refl _, Nat.zero_le _, .nil, fun R hR => by cases hR⟩
theorem SlG.empty (w : World) (A : Option Addr) (c : Nat) (hc : c ≤ 9223372036854775807) : SlG w A 0 c ([] : List α) := ⟨rfl, Nat.zero_le _, hc, .nil, fun R hR => by cases hR⟩
theorem SlG.nth (h : SlG w A n c L) {k : Nat} (hk : k < n) : RowT.ok (nthG L k) w := h.ok _ (nthG_mem (by rw [h.len]; exact hk))
theorem el_at {b o k : Nat} (h : w.rangeAt b o (gcs L)) (hk : k < L.length) : w.rangeAt b (o + k * RowT.sz α) (RowT.enc (nthG L k)) := by
 have h1 := rangeAt_take (k := RowT.sz α) (rangeAt_drop (k := k * RowT.sz α) h)
 rwa [gcs_at hk] at h1
theorem SlG.upto (h : SlG w A n c L) {k c' : Nat} (hk : k ≤ n) (hc : k ≤ c') (hc' : c' ≤ 9223372036854775807) : SlG w A k c' (L.take k) := by
 refine ⟨by rw [List.length_take, h.len]; omega, hc, hc', ?_, fun R hR => h.ok R (List.mem_of_mem_take hR)⟩
 rw [← gcs_take]; exact h.rd.take _
theorem SlG.cut (h : SlG w A n c L) {k : Nat} (hk : k ≤ n) (hkc : k < c) : SlG w (A.map (·.add (k * RowT.sz α))) (n - k) (c - k) (L.drop k) := by
 refine ⟨by rw [List.length_drop, h.len], by have := h.le; omega, by have := h.cap; omega, ?_, fun R hR => h.ok R (List.mem_of_mem_drop hR)⟩
 have := h.rd.cut (n := n) (k := k) (c := c) (size := RowT.sz α) (by rw [gcs_length, h.len]) hk h.le
 rwa [if_neg (by omega), gcs_drop] at this
def OwnG (w : World) (base : Nat) (e : TypeId) (A : Option Addr) (n c : Nat) (L : List α) : Prop := w.ownsRow base e (RowT.sz α) (.slice A n c) n (gcs L)
section
variable {base : Nat} {e : TypeId}
theorem OwnG.len (h : OwnG w base e A n c L) : L.length = n := by
 have := h.1; rw [gcs_length] at this; exact Nat.eq_of_mul_eq_mul_right RowT.pos this
theorem OwnG.sl (h : OwnG w base e A n c L) (ok : ∀ R, R ∈ L → RowT.ok R w) : SlG w A n c L := by
 obtain ⟨h1, h2⟩ := own_cap h
 exact ⟨h.len, h1, h2, Rd.of_own h, ok⟩
theorem OwnG.nil (w : World) (base : Nat) (e : TypeId) : OwnG w base e none 0 0 ([] : List α) := World.ownsRow_nil w base e _
theorem OwnG.ext (h : OwnG w base e A n c L) (he : Ext w w') : OwnG w' base e A n c L := own_ext h he
theorem OwnG.mono {base' : Nat} (h : OwnG w base e A n c L) (hb : base' ≤ base) : OwnG w base' e A n c L := own_mono h hb
end
theorem rows_G {sz : Nat} (hsz : RowT.sz α = sz) {b o : Nat} : ∀ (n : Nat), (∀ j, j < n → ∃ y : α, w.rangeAt b (o + j * sz) (RowT.enc y) ∧ RowT.ok y w) → ∃ L : List α, L.length = n ∧ w.rangeAt b o (gcs L) ∧ ∀ R, R ∈ L → RowT.ok R w := by
 intro n
 subst hsz
 induction n with
 | zero => intro _; exact ⟨[], rfl, fun j v hv => by simp [gcs] at hv, fun R hR => by cases hR⟩
 | succ n ih =>
  intro h
  obtain ⟨L, hL, hr, hok⟩ := ih (fun j hj => h j (by omega))
  obtain ⟨y, hy, hyo⟩ := h n (by omega)
  refine ⟨L ++ [y], by simp [hL], ?_, ?_⟩
  ·rw [gcs_append, gcs_one]
   refine rangeAt_append hr ?_
   rw [gcs_length, hL]; exact hy
  ·intro R hR
   rcases List.mem_append.1 hR with hR | hR
   ·exact hok R hR
   ·rw [List.mem_singleton.1 hR]; exact hyo
def eqG (f : α → α → Bool) (L M : List α) : Bool := decide (L.length = M.length ∧ ∀ k, k < L.length → f (nthG L k) (nthG M k) = true)
theorem eqG_len {f : α → α → Bool} {L M : List α} (h : L.length ≠ M.length) : eqG f L M = false := decide_eq_false (fun hh => h hh.1)
theorem eqG_at {f : α → α → Bool} {L M : List α} {k : Nat} (hk : k < L.length) (h : f (nthG L k) (nthG M k) = false) : eqG f L M = false := decide_eq_false (fun hh => by rw [hh.2 k hk] at h; cases h)
theorem eqG_yes {f : α → α → Bool} {L M : List α} (h1 : L.length = M.length) (h2 : ∀ k, k < L.length → f (nthG L k) (nthG M k) = true) : eqG f L M = true := decide_eq_true ⟨h1, h2⟩
end
/-! worlds that only grow, by draws and new blocks -/
end Go.Proofs.YtbfepgjeecndiaaGreat
