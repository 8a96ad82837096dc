/- key, leaves, Public, names (the reference's). -/
import Derived.Test.YtcfmlgbocdjabaaVer1
import Derived.Test.YtcfmlgbocdjabaaA
import Derived.Test.YtcfmlgbocdjabaaEqN
import Derived.Deep.AppendLies
namespace Go.Proofs.Ytcfmlgbocdjabaa
open Go.RowKit
set_option linter.unusedVariables false
set_option linter.unusedSimpArgs false

/-- the seed of key j of a tree -/
def keyB (seed : UInt64) (lv t j : Int) : List UInt8 := nmb seed ++ [toB lv, toB (t / 256), toB t, toB j]
def keyU (seed : UInt64) (lv t j : Int) : UInt64 := tagU 48 (keyB seed lv t j)
def leavesF (seed : UInt64) (lv t : Int) (j : Nat) : UInt64 := onePub (keyU seed lv t j)
def leavesU (seed : UInt64) (lv t : Int) : List UInt64 := (List.range 32).map (leavesF seed lv t)
theorem leavesU_length (seed : UInt64) (lv t : Int) : (leavesU seed lv t).length = 32 := by simp [leavesU]
theorem SlB.new4 (w : World) (t : TypeId) (z0 z1 z2 z3 : Int) (c0 c1 c2 c3 : UInt8) (g : Nat) (hg : w.heap.size = g) (h0 : z0 = (c0.toNat : Int)) (h1 : z1 = (c1.toNat : Int)) (h2 : z2 = (c2.toNat : Int)) (h3 : z3 = (c3.toNat : Int)) :
    SlB (w.alloc (.cells #[.int .u8 z0, .int .u8 z1, .int .u8 z2, .int .u8 z3] t)) (some ⟨g, 0, none⟩) 4 4 [c0, c1, c2, c3] :=
  SlB.new hg [c0, c1, c2, c3] (by rw [h0, h1, h2, h3]; rfl) (by simp)
/-- the public name of a key -/
def pubU (seed : UInt64) (lv : Int) : UInt64 := rootU (leavesU seed lv 0)
end Go.Proofs.Ytcfmlgbocdjabaa
/- names (the reference's): bytes of names appended to bytes of one's own. -/
namespace Go.Proofs.Ytcfmlgbocdjabaa
open Go.RowKit
set_option linter.unusedVariables false
set_option linter.unusedSimpArgs false

theorem grown_refl (w : World) (row : Option Nat) : w.grownBy w row := ⟨rfl, rfl, rfl, Nat.le_refl _, fun _ _ _ => rfl⟩
/-- append of something to bytes of one's own: what lies where -/
theorem wpList_appBL {P : Program} {t e : TypeId} {ops : Array Oper} {rest : List Oper} {o : Oper} {a : Act} {w : World} {Q : Exit → Act → World → Prop} (E : Elem P t e (.int .u8 0) 1 1) (hgd : o.guard = none) (s x : Operand)
    (ho : o.op = .call { callee := .builtin .append, args := #[s, x], argTypes := #[t, t] })
    (base : Nat) (A : Option Addr) (n c : Nat) (l : List UInt8) (hs : a.eval s = .slice A n c) (hown : OwnB w base e A n c l)
    (A2 : Option Addr) (m c2 : Nat) (l2 : List UInt8) (hx : a.eval x = .slice A2 m c2) (hr : SlB w A2 m c2 l2) (hm : 0 < m)
    (hb : n + m ≤ 140737488355328) (hbase : base ≤ w.heap.size)
    (h : ∀ A' c' w', OwnB w' base e A' (n + m) c' (l ++ l2) → w.grownBy w' (Value.ownBlock (.slice A n c)) → (∀ g, Value.ownBlock (.slice A' (n + m) c') = some g → Value.ownBlock (.slice A n c) = some g ∨ w.heap.size ≤ g) → wpList P ops Q rest (a.put o.dst (.slice A' (n + m) c')) w') : wpList P ops Q (o :: rest) a w := by
  obtain ⟨i, hi, hz, hsz, hby⟩ := E.get
  obtain ⟨b, ob, rfl, hra, _⟩ := hr.at hm
  refine wpList_append_lies (w := w) hgd s x t ho base e i _ 1 1 E.ut hi hz hsz hby E.zs E.pos (.slice A n c) n (bcs l) hs hown ⟨b, ob, none⟩ m c2 (bcs l2) hx (by rw [bcs_length, hr.len, Nat.mul_one]) (fun j u hu => by rw [Addr.add_mid]; exact hra j u hu) (bcs_one l2) hm (by simp only [maxLen]; omega) (by omega) hbase _ rfl ?_
  intro g cap w' h2 h3 h4 h5
  exact h _ _ _ (by unfold OwnB; rw [bcs_append]; exact h2) h3 (fun g' hg' => by
    have : g = g' := by simpa [Value.ownBlock] using hg'
    subst this
    rcases h4 with h | h
    · exact .inl h
    · exact .inr (by omega))
theorem SlN.grown {w w' : World} {N : Option Addr} {n c : Nat} {ns : List UInt64} {row : Option Nat} (h : SlN w N n c ns) (hg : w.grownBy w' row) (hne : ∀ b o, N = some ⟨b, o, none⟩ → row ≠ some b) : SlN w' N n c ns := by
  refine ⟨h.len, h.le, h.cap, ?_⟩
  by_cases hx : ncs ns = []
  · exact .inl hx
  · obtain ⟨b, o, rfl, hr, hlt⟩ := h.rd.at hx
    exact .inr ⟨b, o, rfl, rangeAt_keep hr (hg.block b hlt (fun e => hne b o rfl e.symm))⟩
/-- names do not lie in a block that is too small for them -/
theorem SlN.ne_small {w : World} {N : Option Addr} {n c : Nat} {ns : List UInt64} {g : Nat} {t : TypeId} {cs : Array Value} (h : SlN w N n c ns) (hb : Blk w g t cs) (hs : cs.size < n * 8) : ∀ b o, N = some ⟨b, o, none⟩ → some g ≠ some b := by
  intro b o hN he
  injection he with he
  subst he
  have hl := h.len
  obtain ⟨b', o', e, hr, _⟩ := h.at (by omega)
  rw [hN] at e
  injection e with e
  injection e with e1 e2
  subst e1
  have hlen : (ncs ns).length = n * 8 := by rw [ncs_length, hl]
  have hx : (ncs ns)[n * 8 - 1]? = some ((ncs ns)[n * 8 - 1]'(by omega)) := List.getElem?_eq_getElem (by omega)
  have hc := hr (n * 8 - 1) _ hx
  rw [hb.cell] at hc
  have := (Array.getElem?_eq_some_iff.1 hc).1
  omega
theorem own_lit2 (w : World) (base g : Nat) (z0 z1 : Int) (c0 c1 : UInt8) (hg : w.heap.size = g) (hb : base ≤ g) (h0 : z0 = (c0.toNat : Int)) (h1 : z1 = (c1.toNat : Int)) : OwnB (w.alloc (.cells #[.int .u8 z0, .int .u8 z1] 5)) base 5 (some ⟨g, 0, none⟩) 2 2 [c0, c1] := by
  subst hg
  have := World.ownsRow_lit (base := base) (e := 5) (size := 1) w #[.int .u8 z0, .int .u8 z1] 2 hb (by unfold maxLen; omega) rfl
  unfold OwnB
  rw [show bcs [c0, c1] = (#[.int .u8 z0, .int .u8 z1] : Array Value).toList from by rw [h0, h1]; rfl]
  exact this
end Go.Proofs.Ytcfmlgbocdjabaa
/- Sign (the reference's) at one level. -/
namespace Go.Proofs.Ytcfmlgbocdjabaa
open Go.RowKit
set_option linter.unusedVariables false
set_option linter.unusedSimpArgs false

def sig1 (seed : UInt64) (leaf : Nat) (m : UInt64) : List UInt8 := [0, toB (leaf : Int)] ++ (oneSig (keyU seed 1 0 (leaf : Int)) m).flatMap nmb ++ (pathU (leavesU seed 1 0) leaf).flatMap nmb
/-- a world that has only grown, but for a block that is new -/
theorem ext_own {w0 w w' : World} {e : TypeId} {size : Nat} {v : Value} {n : Nat} {xs : List Value} (hX : Ext w0 w) (hO : w.ownsRow w0.heap.size e size v n xs) (hG : w.grownBy w' (Value.ownBlock v)) : Ext w0 w' :=
  Below.grown hX hG hX.size (fun k hk => (World.ownsRow.lt hO k hk).1)
/-- a literal of two bytes -/
def Lit2 (w : World) (base g : Nat) (leaf : Int) : Prop := OwnB w base 5 (some ⟨g, 0, none⟩) 2 2 [0, toB leaf] ∧ Blk w g 5 #[.int .u8 0, .int .u8 (IntKind.u8.wrap leaf)]
theorem Lit2.ext {w w' : World} {base g : Nat} {leaf : Int} (h : Lit2 w base g leaf) (he : Ext w w') : Lit2 w' base g leaf := ⟨h.1.ext he, h.2.ext he⟩
theorem lit2_at (wl w' : World) (base : Nat) (leaf : Int) (hb : base ≤ wl.heap.size) (he : Ext (wl.alloc (.cells #[.int .u8 0, .int .u8 (IntKind.u8.wrap leaf)] 5)) w') : Lit2 w' base wl.heap.size leaf :=
  Lit2.ext ⟨own_lit2 wl base _ 0 _ 0 (toB leaf) rfl hb rfl (toB_eq leaf), Blk.new _ _ _⟩ he
end Go.Proofs.Ytcfmlgbocdjabaa
/- NewKey (the reference's). -/
namespace Go.Proofs.Ytcfmlgbocdjabaa
open Go.RowKit
set_option linter.unusedVariables false
set_option linter.unusedSimpArgs false
/-- the cells of a new key -/
def keyC (seed : UInt64) (A : Option Addr) (c : Nat) : Array Value := #[.int .u8 (nb8 seed 0), .int .u8 (nb8 seed 1), .int .u8 (nb8 seed 2), .int .u8 (nb8 seed 3), .int .u8 (nb8 seed 4), .int .u8 (nb8 seed 5), .int .u8 (nb8 seed 6), .int .u8 (nb8 seed 7), .slice A 32 c, .slice none 0 0, .slice none 0 0, .slice none 0 0, .slice none 0 0, .slice none 0 0, .slice none 0 0, .slice none 0 0, .slice none 0 0, .slice none 0 0, .slice none 0 0, .slice none 0 0, .slice none 0 0, .slice none 0 0, .slice none 0 0, .slice none 0 0, .slice none 0 0, .slice none 0 0, .slice none 0 0, .slice none 0 0, .slice none 0 0, .slice none 0 0, .slice none 0 0, .slice none 0 0, .slice none 0 0, .slice none 0 0, .slice none 0 0, .slice none 0 0, .slice none 0 0, .slice none 0 0, .slice none 0 0, .slice none 0 0, .slice none 0 0]
@[go_sem] theorem fold_nmc41 (n : UInt64) : Array.foldl (fun (cs : Array Value) (x : Value × Nat) => cs.setIfInBounds x.snd x.fst) #[.int .u8 0, .int .u8 0, .int .u8 0, .int .u8 0, .int .u8 0, .int .u8 0, .int .u8 0, .int .u8 0, .slice none 0 0, .slice none 0 0, .slice none 0 0, .slice none 0 0, .slice none 0 0, .slice none 0 0, .slice none 0 0, .slice none 0 0, .slice none 0 0, .slice none 0 0, .slice none 0 0, .slice none 0 0, .slice none 0 0, .slice none 0 0, .slice none 0 0, .slice none 0 0, .slice none 0 0, .slice none 0 0, .slice none 0 0, .slice none 0 0, .slice none 0 0, .slice none 0 0, .slice none 0 0, .slice none 0 0, .slice none 0 0, .slice none 0 0, .slice none 0 0, .slice none 0 0, .slice none 0 0, .slice none 0 0, .slice none 0 0, .slice none 0 0, .slice none 0 0] (nmc n).zipIdx 0 8 = #[.int .u8 (nb8 n 0), .int .u8 (nb8 n 1), .int .u8 (nb8 n 2), .int .u8 (nb8 n 3), .int .u8 (nb8 n 4), .int .u8 (nb8 n 5), .int .u8 (nb8 n 6), .int .u8 (nb8 n 7), .slice none 0 0, .slice none 0 0, .slice none 0 0, .slice none 0 0, .slice none 0 0, .slice none 0 0, .slice none 0 0, .slice none 0 0, .slice none 0 0, .slice none 0 0, .slice none 0 0, .slice none 0 0, .slice none 0 0, .slice none 0 0, .slice none 0 0, .slice none 0 0, .slice none 0 0, .slice none 0 0, .slice none 0 0, .slice none 0 0, .slice none 0 0, .slice none 0 0, .slice none 0 0, .slice none 0 0, .slice none 0 0, .slice none 0 0, .slice none 0 0, .slice none 0 0, .slice none 0 0, .slice none 0 0, .slice none 0 0, .slice none 0 0, .slice none 0 0] := by
  rw [← nmc_nb8 n]
  kernel_rfl
end Go.Proofs.Ytcfmlgbocdjabaa
/- OneSign (the reference's) once more: its slice is new. -/
namespace Go.Proofs.Ytcfmlgbocdjabaa
open Go.RowKit
set_option linter.unusedVariables false
set_option linter.unusedSimpArgs false
end Go.Proofs.Ytcfmlgbocdjabaa
/- Sign of a key that is fresh (the reference's). -/
namespace Go.Proofs.Ytcfmlgbocdjabaa
open Go.RowKit
set_option linter.unusedVariables false
set_option linter.unusedSimpArgs false
def sig2 (seed : UInt64) (leaf : Nat) (m : UInt64) : List UInt8 :=
  [toB ((leaf / 256 : Nat) : Int), toB (leaf : Int)] ++ (oneSig (keyU seed 1 ((leaf / 32 : Nat) : Int) ((leaf % 32 : Nat) : Int)) m).flatMap nmb ++ (pathU (leavesU seed 1 ((leaf / 32 : Nat) : Int)) (leaf % 32)).flatMap nmb
    ++ (oneSig (keyU seed 2 0 ((leaf / 32 : Nat) : Int)) (rootU (leavesU seed 1 ((leaf / 32 : Nat) : Int)))).flatMap nmb ++ (pathU (leavesU seed 2 0) (leaf / 32)).flatMap nmb
theorem sig2_eq (seed m : UInt64) (leaf t r : Nat) (hr : r < 32) (h : leaf = 32 * t + r) :
    [toB ((leaf : Int) / 256), toB (leaf : Int)] ++ (oneSig (keyU seed 1 (t : Int) ((leaf : Int).tmod 32)) m).flatMap nmb ++ (pathU (leavesU seed 1 (t : Int)) r).flatMap nmb ++ (oneSig (keyU seed 2 0 (t : Int)) (rootU (leavesU seed 1 (t : Int)))).flatMap nmb ++ (pathU (leavesU seed 2 0) t).flatMap nmb = sig2 seed leaf m := by
  have e1 : leaf / 32 = t := by omega
  have e2 : leaf % 32 = r := by omega
  have e3 : (leaf : Int).tmod 32 = (r : Int) := by
    rw [Int.tmod_eq_emod_of_nonneg (by omega)]; omega
  unfold sig2
  rw [e1, e2, e3, show (leaf : Int) / 256 = ((leaf / 256 : Nat) : Int) from by omega]
theorem keyC_app (seed : UInt64) (A : Option Addr) (c : Nat) : keyC seed A c = #[.int .u8 (nb8 seed 0), .int .u8 (nb8 seed 1), .int .u8 (nb8 seed 2), .int .u8 (nb8 seed 3), .int .u8 (nb8 seed 4), .int .u8 (nb8 seed 5), .int .u8 (nb8 seed 6), .int .u8 (nb8 seed 7), .slice A 32 c] ++ Array.replicate 32 (.slice none 0 0) := by
  kernel_rfl
theorem keyC_low (seed : UInt64) (A : Option Addr) (c : Nat) (t : Nat) (ht : t < 32) : (keyC seed A c)[9 + t]? = some (.slice none 0 0) := by
  rw [keyC_app, Array.getElem?_append_right (by simp)]
  simp [ht]
theorem keyC_top (seed : UInt64) (A : Option Addr) (c : Nat) : (keyC seed A c)[8]? = some (.slice A 32 c) := by kernel_rfl
theorem keyC_seed (seed : UInt64) (A : Option Addr) (c : Nat) (i : Nat) (hi : i < 8) : (keyC seed A c)[i]? = some (.int .u8 (nb8 seed i)) := by
  have : i = 0 ∨ i = 1 ∨ i = 2 ∨ i = 3 ∨ i = 4 ∨ i = 5 ∨ i = 6 ∨ i = 7 := by omega
  rcases this with rfl | rfl | rfl | rfl | rfl | rfl | rfl | rfl <;> rfl
theorem cellsK {w : World} {B : Nat} {t : TypeId} {seed : UInt64} {A : Option Addr} {c : Nat} (h : Blk w B t (keyC seed A c)) : ∀ i, i < 8 → w.cell? ⟨B, i, none⟩ = some (.int .u8 (nb8 seed i)) := fun i hi => by
  rw [h.cell, keyC_seed seed A c i hi]
theorem cellsKs {w : World} {B k : Nat} {t : TypeId} {seed : UInt64} {A : Option Addr} {c : Nat} {u : Value} (h : Blk w B t ((keyC seed A c).setIfInBounds (9 + k) u)) : ∀ i, i < 8 → w.cell? ⟨B, i, none⟩ = some (.int .u8 (nb8 seed i)) := fun i hi => by
  rw [h.cell, Array.getElem?_setIfInBounds_ne (by omega), keyC_seed seed A c i hi]
theorem grown_set (w : World) (B i : Nat) (u : Value) : w.grownBy (w.setCell ⟨B, i, none⟩ u) (some B) :=
  ⟨rfl, rfl, rfl, by simp [World.setCell], fun k hk hne => Below.heap_setCell w _ u k (fun e => hne (by rw [e]))⟩
theorem grown_ext_set {w w1 : World} (B i : Nat) (u : Value) (h : Ext w w1) : w.grownBy (w1.setCell ⟨B, i, none⟩ u) (some B) := by
  have g := grown_set w1 B i u
  exact ⟨g.os.trans h.os, g.tape.trans h.tape, g.output.trans h.output, Nat.le_trans h.size g.size, fun k hk hne => (g.block k (Nat.lt_of_lt_of_le hk h.size) hne).trans (h.block k hk)⟩
theorem keyC_size (seed : UInt64) (A : Option Addr) (c : Nat) : (keyC seed A c).size = 41 := by kernel_rfl
/-- a literal of two bytes, both converted -/
def LitB (w : World) (base g : Nat) (a b : Int) : Prop := OwnB w base 5 (some ⟨g, 0, none⟩) 2 2 [toB a, toB b] ∧ Blk w g 5 #[.int .u8 (IntKind.u8.wrap a), .int .u8 (IntKind.u8.wrap b)]
theorem LitB.ext {w w' : World} {base g : Nat} {a b : Int} (h : LitB w base g a b) (he : Ext w w') : LitB w' base g a b := ⟨h.1.ext he, h.2.ext he⟩
theorem litB_at (wl w' : World) (base : Nat) (a b : Int) (hb : base ≤ wl.heap.size) (he : Ext (wl.alloc (.cells #[.int .u8 (IntKind.u8.wrap a), .int .u8 (IntKind.u8.wrap b)] 5)) w') : LitB w' base wl.heap.size a b :=
  LitB.ext ⟨own_lit2 wl base _ _ _ (toB a) (toB b) rfl hb (toB_eq a) (toB_eq b), Blk.new _ _ _⟩ he
/-- what is new does not lie in a row that is older -/
theorem ne_new {w9 wS w5 : World} {base n c m c5 : Nat} {e e' : TypeId} {A A5 : Option Addr} {l : List UInt8} {xs : List Value} (hO : OwnB w9 base e A n c l) (hx : Ext w9.drew wS) (ho : w5.ownsRow wS.heap.size e' 8 (.slice A5 m c5) m xs) (hm : 0 < m) : ∀ b o, A5 = some ⟨b, o, none⟩ → Value.ownBlock (.slice A n c) ≠ some b := by
  intro b o hA hk
  have h1 := (World.ownsRow.lt hO b hk).2
  obtain ⟨g, hg, hge, _⟩ := own_at ho hm
  rw [hA] at hg
  injection hg with hg
  injection hg with e1 e2
  have h3 : w9.heap.size ≤ wS.heap.size := hx.size
  omega
theorem grown_then {w w1 w2 : World} {row : Option Nat} (g : w.grownBy w1 row) (h : Ext w1 w2) : w.grownBy w2 row :=
  ⟨h.os.trans g.os, h.tape.trans g.tape, h.output.trans g.output, Nat.le_trans g.size h.size, fun k hk hne => (h.block k (Nat.lt_of_lt_of_le hk g.size)).trans (g.block k hk hne)⟩
end Go.Proofs.Ytcfmlgbocdjabaa
/- Sign and Public (the reference's), at all levels. -/
namespace Go.Proofs.Ytcfmlgbocdjabaa
open Go.RowKit
set_option linter.unusedVariables false
set_option linter.unusedSimpArgs false
theorem ext_of_grown {w w1 w2 : World} {B : Nat} (h : Ext w w1) (hB : w.heap.size ≤ B) (g : w1.grownBy w2 (some B)) : Ext w w2 :=
  ⟨g.os.trans h.os, g.tape.trans h.tape, g.output.trans h.output, Nat.le_trans h.size g.size, fun k hk => (g.block k (Nat.lt_of_lt_of_le hk h.size) (by intro e; injection e; omega)).trans (h.block k hk)⟩
/-- what Sign answers -/
def sigU (seed : UInt64) (lv leaf : Int) (m : UInt64) : Option (List UInt8) :=
  if lv = 1 ∧ 0 ≤ leaf ∧ leaf < 32 then some (sig1 seed leaf.toNat m) else if lv = 2 ∧ 0 ≤ leaf ∧ leaf < 1024 then some (sig2 seed leaf.toNat m) else none
/-- what Sign returns -/
def SigOut (w : World) (o : Option (List UInt8)) (e : Ending) (w' : World) : Prop := ∃ A n c, e = .returned (.tuple #[.slice A n c, .bool o.isSome]) ∧ SlB w' A n c (o.getD []) ∧ Ext w w'
theorem SigOut.no (w w' : World) (h : Ext w w') : SigOut w none (.returned (.tuple #[.slice none 0 0, .bool false])) w' := ⟨none, 0, 0, rfl, SlB.nil _, h⟩
theorem nmc_zero : nmc 0 = zcs.toArray := by kernel_rfl
/-- what Public answers -/
def pubV (seed : UInt64) (lv : Int) : UInt64 := if 1 ≤ lv ∧ lv ≤ 2 then pubU seed lv else 0
end Go.Proofs.Ytcfmlgbocdjabaa
