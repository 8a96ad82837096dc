/- seedOf (the program's): the seed of a key of a tree. -/
import Derived.Test.YtcfmlgbocdjabaaGreatSig1
import Derived.Test.YtcfmlgbocdjabaaGreatAu
import Derived.Test.YtcfmlgbocdjabaaGreatVer1
import Derived.DeepKeys4
import Derived.Maps.Own
import Derived.Lib.LazyBuf
import Derived.Test.YtcfmlgbocdjabaaGreatA
namespace Go.Proofs.YtcfmlgbocdjabaaGreat
open Go.RowKit
set_option linter.unusedVariables false
set_option linter.unusedSimpArgs false
def toU (z : Int) : UInt64 := UInt64.ofNat z.toNat
theorem toU_nat (z : Int) (h : 0 ≤ z) (h2 : z ≤ 9223372036854775807) : ((toU z).toNat : Int) = z := by
  unfold toU
  rw [UInt64.toNat_ofNat_of_lt' (by simp [UInt64.size]; omega)]
  omega
theorem un_toU (z : Int) (h : 0 ≤ z) (h2 : z ≤ 9223372036854775807) : un (toU z) = z := toU_nat z h h2
theorem be2 (z : Int) (h : 0 ≤ z) (h2 : z ≤ 100000) : beBytes 2 (toU z).toNat = [toB (z / 256), toB z] := by
  have e := toU_nat z h (by omega)
  simp only [beBytes, List.nil_append, List.cons_append, toB]
  congr 2
  · omega
  · congr 1; omega
theorem keyB_eq (seed : UInt64) (lv t j : Int) (h : 0 ≤ t) (h2 : t ≤ 100000) : ((nmb seed ++ [toB lv]) ++ beBytes 2 (toU t).toNat) ++ [toB j] = keyB seed lv t j := by
  rw [be2 t h h2]; simp [keyB]
set_option maxRecDepth 100000 in
set_option maxHeartbeats 1000000 in
theorem seedOf_any (seed : UInt64) (B : Nat) (lv t j : Int) (ht : 0 ≤ t) (ht2 : t ≤ 100000) (w : World) (hS : SlB w (some ⟨B, 0, none⟩) 8 8 (nmb seed)) :
    Calls Tryz.prog 151 #[.pointer (some ⟨B, 0, none⟩), .int .i64 lv, .int .i64 t, .int .i64 j] w fun e w' => e = .returned (.agg (nmc (keyU seed lv t j))) ∧ Ext w w' := by
  have HU := Lib.hid (show keyU seed lv t j = tagU 48 (nmb seed ++ toB lv :: (beBytes 2 (toU t).toNat ++ [toB j])) from by rw [be2 t ht ht2]; rfl)
  have HS := Lib.hid hS
  have hB : B < w.heap.size := by
    obtain ⟨b, o, e, _, hl⟩ := hS.at (by omega)
    injection e with e; injection e with e1 _; omega
  have hun : IntKind.u64.wrap t = un (toU t) := by rw [un_toU t ht (by omega), IntKind.wrap_u64]; omega
  clear hS
  go_enter Tryz.func151, Tryz.ntmps151
  go_wp2_with (at_builtin; go_must (refine wpList_growB bytesE rfl (.tmp 13) (.tmp 16) rfl (some ⟨B, 0, none⟩) 8 8 (nmb seed) rfl ?s1 (by omega) _ 1 1 [toB lv] rfl ?r1 (by omega) (by omega) (by omega) ?_))
  case s1 => exact (HS.out.ext ((Ext.refl _).alloc' _)).ext ((Ext.refl _).alloc' _)
  case r1 => exact SlB.new1 _ _ _ _ _ (by simp) (toB_eq lv)
  intro A1 c1 w1 ho1 he1
  go_wp2_with fail
  refine (appendUint_any A1 9 c1 (nmb seed ++ [toB lv]) (toU t) 2 (by omega) _ ho1.sl (by omega)).mono ?_
  rintro e w2 ⟨A2, c2, rfl, ho2, he2⟩
  have hE12 : Ext w w1 := (((Ext.refl w).alloc' _).alloc' _).trans he1
  have HB1 := Lib.hid (((Blk.new w 23 zcs.toArray).alloc _).ext he1)
  have HE12 := Lib.hid hE12
  have HEB := Lib.hid (he2.alloc' (.cells #[.int .u8 (j % 256)] 5))
  clear he1 he2 ho1 hE12
  go_wp2_with (at_builtin; go_must (refine wpList_appB bytesE rfl (.tmp 22) (.tmp 25) rfl _ A2 11 c2 _ rfl (ho2.alloc _) _ 1 1 [toB j] rfl ?r2 (by omega) ?b2 w1 ?w2 ?_))
  case r2 => exact SlB.new1 _ _ _ _ _ rfl (toB_eq j)
  case b2 => exact HEB.out.size
  case w2 => exact HEB.out
  intro A3 c3 w3 ho3 hw3 hs3
  go_wp2_with fail
  refine (tagged_any 48 _ _ _ _ _ ho3.sl (by omega)).mono ?_
  rintro e w4 ⟨rfl, he4⟩
  have hb4 := HB1.out.ext (Ext.trans hw3 he4)
  have hst := run_storeN hb4 (tagU 48 (nmb seed ++ toB lv :: (beBytes 2 (toU t).toNat ++ [toB j])))
  go_wp2_with fail
  refine bodyPost_ret (v := .agg (nmc (tagU 48 (nmb seed ++ toB lv :: (beBytes 2 (toU t).toNat ++ [toB j]))))) (retN rfl _ _ w.heap.size _ rfl (blkN hb4 _)) rfl ⟨by rw [HU.out], Below.setCells' (HE12.out.trans (Ext.trans hw3 he4)) (Nat.le_refl _) _ _⟩
end Go.Proofs.YtcfmlgbocdjabaaGreat
/- tree (the program's): the trees that a key keeps. -/
namespace Go.Proofs.YtcfmlgbocdjabaaGreat
open Go.RowKit
set_option linter.unusedVariables false
set_option linter.unusedSimpArgs false
/-! a map whose keys are pairs of numbers -/
theorem laidP : laidOutB Tryz.prog = true := by kernel_rfl
theorem rowPair : (172 : TypeId) < Tryz.prog.types.size := of_decide_eq_true (by kernel_rfl)
theorem widePair : (match Tryz.prog.underlying 172 with | some (.array _ _) | some (.struct _) => true | _ => false) = true := by rw [Tryz.underlying172]
set_option maxRecDepth 100000 in
theorem lawPair : WideMaps.KeyLaw Tryz.prog 172 := deep_law_laid laidP (m := 2) (by omega) rowPair (by kernel_rfl) widePair
theorem cellsPair : Tryz.prog.cellsOf 172 = 2 := by kernel_rfl
theorem cellsI : Tryz.prog.cellsOf 3 = 1 := by kernel_rfl
theorem keyTyPair : Tryz.prog.keyType 172 = true := by kernel_rfl
def pairV (a b : Int) : Value := .agg #[.int .i64 a, .int .i64 b]
theorem keyPair (a b : Int) (ha : (Lit.int .i64 a).wf = true) (hb : (Lit.int .i64 b).wf = true) : ∃ l, keyOf Tryz.prog 172 (pairV a b) = some l := by
  have hf : (pairV a b).formed Tryz.prog 172 = true := by simp [pairV, Value.formed, Tryz.underlying172, cellsPair]
  unfold keyOf
  rw [Tryz.underlying172]
  simp only [keyTyPair, hf, Bool.and_self, if_true]
  obtain ⟨m, hm⟩ : ∃ m, Tryz.prog.types.size + 1 = m + 2 := ⟨Tryz.prog.types.size - 1, by
    have h : (172 : Nat) < Tryz.prog.types.size := rowPair
    generalize Tryz.prog.types.size = s at *
    omega⟩
  rw [hm]
  refine ⟨_, by simp [pairV, Program.keyLits, Tryz.underlying172, Tryz.underlying3, cellsPair, cellsI, Value.cells, List.range_succ, ha, hb]; rfl⟩
section
variable {P : Program} {t k e : TypeId} {w : World} {M : Nat} {es : Array MapEntry} {clock : Nat} {key z : Value} {l : Lit}
theorem look_or (K : WideMaps.KeyLaw P k) (ht : P.underlying t = some (.map k e)) (hb : w.heap[M]? = some (.map es clock)) (hks : ∀ x ∈ es.toList, ∃ l, keyOf P k x.key = some l) (hkey : keyOf P k key = some l) (hz : (zeroValue e).run P w = .ok z w) :
    ((Instr.lookup t (.map (some M)) key false).run P w = .ok z w ∧ ∀ x ∈ es.toList, x.key ≠ key) ∨ ∃ x ∈ es.toList, x.key = key ∧ (Instr.lookup t (.map (some M)) key false).run P w = .ok x.val w := by
  rcases K.find w hkey es.toList hks with ⟨h1, h2⟩ | ⟨j, e0, h1, h2, h3⟩
  · refine .inl ⟨?_, h2⟩
    simp [Instr.lookup, run_underlying ht, MapKept.run_getObj_map hb, K.check w _ hkey, h1, hz]
  · refine .inr ⟨e0, List.mem_of_getElem? h2, h3, ?_⟩
    simp [Instr.lookup, run_underlying ht, MapKept.run_getObj_map hb, K.check w _ hkey, h1]
theorem update_new (K : WideMaps.KeyLaw P k) (ht : P.underlying t = some (.map k e)) (hb : w.heap[M]? = some (.map es clock)) (hks : ∀ x ∈ es.toList, ∃ l, keyOf P k x.key = some l) (hkey : keyOf P k key = some l) (hno : ∀ x ∈ es.toList, x.key ≠ key) (val : Value) :
    (Instr.mapUpdate t (.map (some M)) key val).run P w = .ok () (ChangeMaps.setBlock w M (.map (es.push ⟨key, val, clock⟩) (clock + 1))) := by
  rcases K.find w hkey es.toList hks with ⟨h1, h2⟩ | ⟨j, e0, h1, h2, h3⟩
  · simp [Instr.mapUpdate, run_underlying ht, MapKept.run_getObj_map hb, K.check w false hkey, h1, MapKept.run_setObj_map _ hb, Result.andThen, ChangeMaps.setBlock]
  · exact absurd h3 (hno e0 (List.mem_of_getElem? h2))
end
/-- the cells of a key -/
def keyP (seed : UInt64) (lv : Int) (M : Nat) : Array Value := #[.int .u8 (nb8 seed 0), .int .u8 (nb8 seed 1), .int .u8 (nb8 seed 2), .int .u8 (nb8 seed 3), .int .u8 (nb8 seed 4), .int .u8 (nb8 seed 5), .int .u8 (nb8 seed 6), .int .u8 (nb8 seed 7), .int .i64 lv, .map (some M)]
/-- the block of a tree -/
def TreeB (w : World) (seed : UInt64) (a b : Int) (g : Nat) : Prop := Blk w g 23 (ncs (leavesU seed a b)).toArray
def Trees (w : World) (seed : UInt64) (es : Array MapEntry) : Prop := ∀ x ∈ es.toList, ∃ (a b : Int) (g : Nat), x.key = pairV a b ∧ (Lit.int .i64 a).wf = true ∧ (Lit.int .i64 b).wf = true ∧ x.val = .slice (some ⟨g, 0, none⟩) 32 32 ∧ TreeB w seed a b g
structure KeyAt (w : World) (B M : Nat) (seed : UInt64) (lv : Int) : Prop where
  blk : Blk w B 136 (keyP seed lv M)
  map : ∃ es clock, w.heap[M]? = some (.map es clock) ∧ Trees w seed es
theorem TreeB.sl {w : World} {seed : UInt64} {a b : Int} {g : Nat} (h : TreeB w seed a b g) : SlN w (some ⟨g, 0, none⟩) 32 32 (leavesU seed a b) := SlN.of_blk h (leavesU_length seed a b) (by omega)
theorem Trees.ext {w w' : World} {seed : UInt64} {es : Array MapEntry} (h : Trees w seed es) (he : Ext w w') : Trees w' seed es := fun x hx => by
  obtain ⟨a, b, g, h1, h2, h3, h4, h5⟩ := h x hx
  exact ⟨a, b, g, h1, h2, h3, h4, Blk.ext h5 he⟩
theorem KeyAt.ext {w w' : World} {B M : Nat} {seed : UInt64} {lv : Int} (h : KeyAt w B M seed lv) (he : Ext w w') : KeyAt w' B M seed lv := by
  obtain ⟨es, clock, hm, ht⟩ := h.map
  exact ⟨h.blk.ext he, es, clock, (he.block M (Array.getElem?_eq_some_iff.1 hm).1).trans hm, ht.ext he⟩
/-- what is written into a row of bytes does not touch a key -/
theorem KeyAt.row {w w' : World} {B M : Nat} {seed : UInt64} {lv : Int} {row : Option Nat} (h : KeyAt w B M seed lv) (hg : w.grownBy w' row) (hr : ∀ r, row = some r → ∃ cur p, w.heap[r]? = some (.cells cur 5 p)) : KeyAt w' B M seed lv := by
  obtain ⟨es, clock, hm, ht⟩ := h.map
  have key : ∀ (g : Nat) (o : Obj), w.heap[g]? = some o → (∀ cur p, o ≠ .cells cur 5 p) → w'.heap[g]? = some o := fun g o ho hne => by
    rw [hg.block g (Array.getElem?_eq_some_iff.1 ho).1 (fun e => by
      obtain ⟨cur, p, hc⟩ := hr g e.symm
      rw [ho] at hc
      injection hc with hc
      exact hne cur p hc), ho]
  refine ⟨key B _ h.blk (fun cur p e => by injection e with _ e2; exact absurd e2 (by decide)), es, clock, key M _ hm (fun cur p e => by cases e), fun x hx => ?_⟩
  obtain ⟨a, b, g, h1, h2, h3, h4, h5⟩ := ht x hx
  exact ⟨a, b, g, h1, h2, h3, h4, key g _ h5 (fun cur p e => by injection e with _ e2; exact absurd e2 (by decide))⟩
theorem own_typed {w : World} {base : Nat} {e : TypeId} {size : Nat} {v : Value} {n : Nat} {xs : List Value} (h : w.ownsRow base e size v n xs) : ∀ r, Value.ownBlock v = some r → ∃ cur p, w.heap[r]? = some (.cells cur e p) := fun r hr => by
  rcases h.2 with ⟨rfl, _⟩ | ⟨g, cap, cur, rfl, _, hh, _⟩
  · cases hr
  · have : g = r := by simpa [Value.ownBlock] using hr
    subst this; exact ⟨_, _, hh⟩
theorem nmb_nb8 (n : UInt64) : bcs (nmb n) = [.int .u8 (nb8 n 0), .int .u8 (nb8 n 1), .int .u8 (nb8 n 2), .int .u8 (nb8 n 3), .int .u8 (nb8 n 4), .int .u8 (nb8 n 5), .int .u8 (nb8 n 6), .int .u8 (nb8 n 7)] := by
  rw [← nmc_toList, ← nmc_nb8]
theorem KeyAt.seed {w : World} {B M : Nat} {seed : UInt64} {lv : Int} (h : KeyAt w B M seed lv) : SlB w (some ⟨B, 0, none⟩) 8 8 (nmb seed) := by
  refine ⟨nmb_length _, Nat.le_refl _, by omega, .inr ⟨B, 0, rfl, ?_⟩⟩
  have := rangeAt_take (k := 8) (rangeAt_of_blk h.blk)
  rw [nmb_nb8]; exact this
theorem KeyAt.trees {w : World} {B M : Nat} {seed : UInt64} {lv : Int} (h : KeyAt w B M seed lv) : w.cell? ⟨B, 9, none⟩ = some (.map (some M)) := by rw [h.blk.cell]; rfl
theorem KeyAt.levels {w : World} {B M : Nat} {seed : UInt64} {lv : Int} (h : KeyAt w B M seed lv) : w.cell? ⟨B, 8, none⟩ = some (.int .i64 lv) := by rw [h.blk.cell]; rfl
theorem grown_block (w : World) (M : Nat) (o : Obj) : w.grownBy (ChangeMaps.setBlock w M o) (some M) :=
  ⟨rfl, rfl, rfl, by simp [ChangeMaps.setBlock], fun k hk hne => by
    simp only [ChangeMaps.setBlock]
    rw [Array.getElem?_setIfInBounds_ne (fun e => hne (by rw [e]))]⟩
/-- a tree more -/
theorem KeyAt.more {w : World} {B M : Nat} {seed : UInt64} {lv : Int} {es : Array MapEntry} {clock : Nat} (hB : Blk w B 136 (keyP seed lv M)) (hm : w.heap[M]? = some (.map es clock)) (ht : Trees w seed es) {a b : Int} (ha : (Lit.int .i64 a).wf = true) (hb : (Lit.int .i64 b).wf = true) {g0 : Nat} (hs : TreeB w seed a b g0) :
    KeyAt (ChangeMaps.setBlock w M (.map (es.push ⟨pairV a b, .slice (some ⟨g0, 0, none⟩) 32 32, clock⟩) (clock + 1))) B M seed lv ∧ TreeB (ChangeMaps.setBlock w M (.map (es.push ⟨pairV a b, .slice (some ⟨g0, 0, none⟩) 32 32, clock⟩) (clock + 1))) seed a b g0 := by
  have g := grown_block w M (.map (es.push ⟨pairV a b, .slice (some ⟨g0, 0, none⟩) 32 32, clock⟩) (clock + 1))
  have hlt := (Array.getElem?_eq_some_iff.1 hm).1
  have hne : ∀ {q : Nat} {t : TypeId} {cs : Array Value}, Blk w q t cs → some q ≠ some M := fun {q t cs} hq e => by
    injection e with e; subst e; unfold Blk at hq; rw [hm] at hq; cases hq
  have hs' : TreeB (ChangeMaps.setBlock w M (.map (es.push ⟨pairV a b, .slice (some ⟨g0, 0, none⟩) 32 32, clock⟩) (clock + 1))) seed a b g0 := Blk.grown hs g (hne hs)
  refine ⟨⟨hB.grown g (hne hB), es.push ⟨pairV a b, .slice (some ⟨g0, 0, none⟩) 32 32, clock⟩, clock + 1, ?_, ?_⟩, hs'⟩
  · simp [ChangeMaps.setBlock, hlt]
  · intro x hx
    simp only [Array.toList_push, List.mem_append, List.mem_singleton] at hx
    rcases hx with hx | rfl
    · obtain ⟨a', b', g', h1, h2, h3, h4, h5⟩ := ht x hx
      exact ⟨a', b', g', h1, h2, h3, h4, Blk.grown h5 g (hne h5)⟩
    · exact ⟨a, b, g0, rfl, ha, hb, rfl, hs'⟩
end Go.Proofs.YtcfmlgbocdjabaaGreat
/- tree (the program's): the walk. -/
namespace Go.Proofs.YtcfmlgbocdjabaaGreat
open Go.RowKit
set_option linter.unusedVariables false
set_option linter.unusedSimpArgs false
theorem hmkN32 (F : Nat → UInt64) (w : World) : (Instr.makeSlice 63 (.int .i64 32) (.int .i64 32)).run Tryz.prog w = .ok (.slice (some ⟨w.heap.size, 0, none⟩) 32 32) (w.alloc (.cells (ncs (tabN F 32 0)).toArray 23)) := hmkN 32 (by omega) F w
theorem zeroNs (w : World) : (zeroValue 63).run Tryz.prog w = .ok (.slice none 0 0) w := by kernel_rfl
def TreeOut (w : World) (B M : Nat) (seed : UInt64) (lv a b : Int) (e : Ending) (w' : World) : Prop := ∃ g, e = .returned (.slice (some ⟨g, 0, none⟩) 32 32) ∧ TreeB w' seed a b g ∧ KeyAt w' B M seed lv ∧ w.grownBy w' (some M)
set_option maxRecDepth 100000 in
set_option maxHeartbeats 1000000 in
theorem tree_any (seed : UInt64) (B M : Nat) (lv a b : Int) (ha : (Lit.int .i64 a).wf = true) (hb0 : 0 ≤ b) (hb1 : b ≤ 100000) (w : World) (hK : KeyAt w B M seed lv) :
    Calls Tryz.prog 111 #[.pointer (some ⟨B, 0, none⟩), .int .i64 a, .int .i64 b] w (TreeOut w B M seed lv a b) := by
  have hb : (Lit.int .i64 b).wf = true := WalkArith.wf_i64 (by omega)
  obtain ⟨l, hkey⟩ := keyPair a b ha hb
  obtain ⟨es, clock, hm, ht⟩ := hK.map
  have hks : ∀ x ∈ es.toList, ∃ l, keyOf Tryz.prog 172 x.key = some l := fun x hx => by
    obtain ⟨a', b', _, h1, h2, h3, _⟩ := ht x hx
    rw [h1]; exact keyPair a' b' h2 h3
  have hc9 := hK.trees
  have hne := fun (w : World) (A : Option Addr) (c : Nat) => Go.run_neq_slice_nil (P := Tryz.prog) w 63 23 A 32 c Tryz.underlying63
  rcases look_or lawPair Tryz.underlying134 hm hks hkey (zeroNs w) with ⟨hlk, hno⟩ | ⟨x, hx, hxk, hlk⟩
  · have hlk' : (Instr.lookup 134 (.map (some M)) (.agg #[.int .i64 a, .int .i64 b]) false).run Tryz.prog w = .ok (.slice none 0 0) w := hlk
    have hnz := Go.run_neq_slice_nil (P := Tryz.prog) w 63 23 none 0 0 Tryz.underlying63
    have hmk := hmkN32 (leavesF seed a b)
    have HK := Lib.hid hK
    have HT := Lib.hid ht
    have HNO := Lib.hid hno
    have HKS := Lib.hid hks
    have HKEY := Lib.hid hkey
    have HM := Lib.hid hm
    clear hK ht hno hks hkey hlk hne hm
    go_enter Tryz.func111, Tryz.ntmps111
    go_wp2_with fail
    clear hlk' hnz hmk hc9
    go_loopw [24, 9] (fun i j wr => ∃ (k : Nat), k ≤ 32 ∧ i = .int .i64 (k : Int) ∧ Blk wr w.heap.size 23 (ncs (tabN (leavesF seed a b) 32 k)).toArray ∧ Ext w wr) (fun i _ _ => 32 - (intOf i).toNat)
    case atStart => exact ⟨0, by omega, rfl, Blk.new _ _ _, (Ext.refl w).alloc' _⟩
    case round =>
      obtain ⟨k, hk, rfl, hT, hE⟩ := hrel
      have HE := Lib.hid hE
      have HTB := Lib.hid hT
      clear hT hE
      by_cases hlt : k < 32
      · have j0 : (0 : Int) ≤ (k : Int) := by omega
        have j1 : (k : Int) < 32 := by omega
        go_wp2_with fail
        refine (seedOf_any seed B a b k hb0 hb1 _ (HK.out.ext HE.out).seed).mono ?_
        rintro e w1 ⟨rfl, he1⟩
        go_wp2_with fail
        refine (onePublic_any _ _).mono ?_
        rintro e w2 ⟨rfl, he2⟩
        have HE2 := Lib.hid (Ext.trans HE.out (Ext.trans he1 he2))
        have HT2 := Lib.hid (HTB.out.ext (Ext.trans he1 he2))
        have hF := Lib.hid (tabN_set (leavesF seed a b) 32 k hlt)
        have hth : w2.there w.heap.size (k * 8) 8 := there_blk HT2.out (by rw [List.size_toArray, ncs_length, tabN_length _ _ _ hk]; omega)
        clear he1 he2
        go_wp2_with (with_reducible refine wpList_storeN rfl _ _ rfl w.heap.size (k * 8) _ rfl rfl hth ?_)
        go_roundw
        case rel => exact ⟨k + 1, by omega, by go_num, by rw [← hF.out]; exact blk_name HT2.out (by rw [tabN_length _ _ _ hk]; exact hlt) _, Below.setCells' HE2.out (Nat.le_refl _) _ _⟩
        case measure => simp [intOf]; omega
      · obtain rfl : k = 32 := by omega
        have hTB := HTB.out
        rw [tabN_full] at hTB
        have hsl : TreeB wr seed a b w.heap.size := hTB
        have hK2 := HK.out.ext HE.out
        have hc9 := hK2.trees
        have hm2 : wr.heap[M]? = some (.map es clock) := (HE.out.block M (Array.getElem?_eq_some_iff.1 HM.out).1).trans HM.out
        have HMo := Lib.hid (KeyAt.more hK2.blk hm2 (HT.out.ext HE.out) ha hb hsl)
        have hup : (Instr.mapUpdate 134 (.map (some M)) (.agg #[.int .i64 a, .int .i64 b]) (.slice (some ⟨w.heap.size, 0, none⟩) 32 32)).run Tryz.prog wr = .ok () (ChangeMaps.setBlock wr M (.map (es.push ⟨pairV a b, .slice (some ⟨w.heap.size, 0, none⟩) 32 32, clock⟩) (clock + 1))) := update_new lawPair Tryz.underlying134 hm2 HKS.out HKEY.out HNO.out _
        have HG := Lib.hid (show w.grownBy (ChangeMaps.setBlock wr M (.map (es.push ⟨pairV a b, .slice (some ⟨w.heap.size, 0, none⟩) 32 32, clock⟩) (clock + 1))) (some M) from by
          have g := grown_block wr M (.map (es.push ⟨pairV a b, .slice (some ⟨w.heap.size, 0, none⟩) 32 32, clock⟩) (clock + 1))
          exact ⟨g.os.trans HE.out.os, g.tape.trans HE.out.tape, g.output.trans HE.out.output, Nat.le_trans HE.out.size g.size, fun k hk hne => (g.block k (Nat.lt_of_lt_of_le hk HE.out.size) hne).trans (HE.out.block k hk)⟩)
        clear hTB hsl hK2 hm2
        generalize ChangeMaps.setBlock wr M (.map (es.push ⟨pairV a b, .slice (some ⟨w.heap.size, 0, none⟩) 32 32, clock⟩) (clock + 1)) = w9 at *
        go_wp2_with fail
        go_ret
        exact ⟨_, rfl, HMo.out.2, HMo.out.1, HG.out⟩
  · obtain ⟨a', b', g', h1, h2, h3, h4, h5⟩ := ht x hx
    have hab : a' = a ∧ b' = b := by
      rw [h1] at hxk
      simpa [pairV] using hxk
    obtain ⟨rfl, rfl⟩ := hab
    rw [h4] at hlk
    have hlk' : (Instr.lookup 134 (.map (some M)) (.agg #[.int .i64 a', .int .i64 b']) false).run Tryz.prog w = .ok (.slice (some ⟨g', 0, none⟩) 32 32) w := hlk
    have hne' := hne w (some ⟨g', 0, none⟩) 32
    have HK := Lib.hid hK
    have H5 := Lib.hid h5
    clear hK ht hks hkey hlk hne hm h1 hxk h4 h5 hx
    go_enter Tryz.func111, Tryz.ntmps111
    go_wp2_with fail
    go_ret
    exact ⟨_, rfl, H5.out, HK.out, grown_refl _ _⟩
end Go.Proofs.YtcfmlgbocdjabaaGreat
/- signed (the program's): a signature by a key of a tree, and the key's path. -/
namespace Go.Proofs.YtcfmlgbocdjabaaGreat
open Go.RowKit
set_option linter.unusedVariables false
set_option linter.unusedSimpArgs false
/-- below 'base' nothing has turned but block M -/
structure GM (base M : Nat) (w w' : World) : Prop where
  os : w'.os = w.os
  tape : w'.tape = w.tape
  output : w'.output = w.output
  size : w.heap.size ≤ w'.heap.size
  block : ∀ k, k < base → k ≠ M → w'.heap[k]? = w.heap[k]?
section
variable {base M : Nat} {w w1 w2 : World}
theorem GM.refl (base M : Nat) (w : World) : GM base M w w := ⟨rfl, rfl, rfl, Nat.le_refl _, fun _ _ _ => rfl⟩
theorem GM.trans (h : GM base M w w1) (k : GM base M w1 w2) : GM base M w w2 := ⟨k.os.trans h.os, k.tape.trans h.tape, k.output.trans h.output, Nat.le_trans h.size k.size, fun i hi hm => (k.block i hi hm).trans (h.block i hi hm)⟩
theorem GM.ext (h : Ext w w1) (hb : base ≤ w.heap.size) : GM base M w w1 := ⟨h.os, h.tape, h.output, h.size, fun i hi _ => h.block i (by omega)⟩
theorem GM.map (h : w.grownBy w1 (some M)) (hb : base ≤ w.heap.size) : GM base M w w1 := ⟨h.os, h.tape, h.output, h.size, fun i hi hm => h.block i (by omega) (fun e => hm (by injection e))⟩
theorem GM.row {row : Option Nat} (h : w.grownBy w1 row) (hr : ∀ r, row = some r → base ≤ r) (hb : base ≤ w.heap.size) : GM base M w w1 := ⟨h.os, h.tape, h.output, h.size, fun i hi hm => h.block i (by omega) (fun e => by have := hr i e.symm; omega)⟩
end
theorem own_two {w : World} {base base' : Nat} {e e' : TypeId} {size size' : Nat} {v v' : Value} {n n' : Nat} {xs xs' : List Value} (h : w.ownsRow base e size v n xs) (h' : w.ownsRow base' e' size' v' n' xs') (hne : e ≠ e') {w' : World} (hg : w.grownBy w' (Value.ownBlock v')) : w'.ownsRow base e size v n xs := by
  refine ⟨h.1, ?_⟩
  rcases h.2 with h2 | ⟨g, cap, cur, hv, hb, hh, r⟩
  · exact .inl h2
  · refine .inr ⟨g, cap, cur, hv, hb, ?_, r⟩
    rw [hg.block g (Array.getElem?_eq_some_iff.1 hh).1 (fun e1 => by
      obtain ⟨cur', p, hc⟩ := own_typed h' g e1.symm
      rw [hh] at hc
      simp at hc
      exact hne hc.2.1), hh]
/-- append of names to names that must grow, at a step of a region that draws its order -/
theorem step_growN {ops : Array Oper} {o : Oper} {a : Act} {w : World} {K : Act → World → Prop} {Q : Exit → Act → World → Prop} {X : Prop} (hgd : o.guard = none) (s x : Operand)
    (ho : o.op = .call { callee := .builtin .append, args := #[s, x], argTypes := #[63, 63] })
    (A : Option Addr) (n c : Nat) (ns : List UInt64) (hs : a.eval s = .slice A n c) (hra : SlN w A n c ns) (hn : 0 < n)
    (A2 : Option Addr) (m c2 : Nat) (ns2 : List UInt64) (hx : a.eval x = .slice A2 m c2) (hr : SlN w A2 m c2 ns2) (hm : 0 < m) (hg : c < n + m) (hb : n + m ≤ 1000000) (r : Nat) (hnr : n + m = r)
    (h : ∀ A' c' w', w'.ownsRow w.heap.size 23 8 (.slice A' r c') r (ncs (ns ++ ns2)) → Ext w w' → K (a.put o.dst (.slice A' r c')) w') : if Region.wanted o (yielded ops a.tmps) = true then Oper.wp Tryz.prog o a w K Q else X := by
  subst hnr
  have hw : Region.wanted o (yielded ops a.tmps) = true := by simp [Region.wanted, hgd]
  rw [if_pos hw]
  refine wp_grow namesE s x ho A n c (ncs ns) hs hra.rd (by rw [ncs_length, hra.len]) hn A2 m c2 (ncs ns2) hx hr.rd (by rw [ncs_length, hr.len]) hm (fun u hu => ?_) hg (by omega) (by omega) fun A' c' w' h2 h3 => h A' c' w' ?_ h3
  · simp only [ncs, List.mem_flatMap] at hu
    obtain ⟨q, _, hq⟩ := hu
    exact bcs_one _ u hq
  · rw [ncs_append]; exact h2
def partU (seed : UInt64) (a t : Int) (j : Nat) (m : UInt64) : List UInt64 := oneSig (keyU seed a t (j : Int)) m ++ pathU (leavesU seed a t) j
theorem partU_length (seed : UInt64) (a t : Int) (j : Nat) (m : UInt64) (h : j < 32) : (partU seed a t j m).length = 23 := by
  have h1 := dep32 j h
  simp only [partU, oneSig, List.length_append, List.length_map, List.length_range, pathU_length, leavesU_length, h1]
def SignedOut (base n : Nat) (l : List UInt8) (ns : List UInt64) (w : World) (B M : Nat) (seed : UInt64) (lv : Int) (e : Ending) (w' : World) : Prop :=
  ∃ A' c', e = .returned (.slice A' (n + 184) c') ∧ OwnB w' base 5 A' (n + 184) c' (l ++ ns.flatMap nmb) ∧ KeyAt w' B M seed lv ∧ GM base M w w'
set_option maxRecDepth 100000 in
set_option maxHeartbeats 2000000 in
theorem signed_any (seed m : UInt64) (B M : Nat) (lv a t : Int) (j : Nat) (ha : (Lit.int .i64 a).wf = true) (ht0 : 0 ≤ t) (ht1 : t ≤ 100000) (hj : j < 32) (base : Nat) (A : Option Addr) (n c : Nat) (l : List UInt8) (w : World) (hK : KeyAt w B M seed lv) (hO : OwnB w base 5 A n c l) (hn : n ≤ 1000000) (hb : base ≤ w.heap.size) :
    Calls Tryz.prog 109 #[.pointer (some ⟨B, 0, none⟩), .slice A n c, .int .i64 a, .int .i64 t, .int .i64 (j : Int), .agg (nmc m)] w (SignedOut base n l (partU seed a t j m) w B M seed lv) := by
  have hMw : M < w.heap.size := by obtain ⟨es, ck, hm, _⟩ := hK.map; exact (Array.getElem?_eq_some_iff.1 hm).1
  have HK := Lib.hid (hK.ext ((Ext.refl w).alloc' (.cells (nmc m) 23)))
  have HO := Lib.hid (hO.alloc (.cells (nmc m) 23))
  have HBM := Lib.hid (Blk.new w 23 (nmc m))
  have HG0 := Lib.hid (GM.ext (M := M) ((Ext.refl w).alloc' (.cells (nmc m) 23)) hb)
  have hb0 : base ≤ (w.alloc (.cells (nmc m) 23)).heap.size := by simp; omega
  clear hK hO
  go_enter Tryz.func109, Tryz.ntmps109
  go_wp2_with fail
  refine (tree_any seed B M lv a t ha ht0 ht1 _ HK.out).mono ?_
  rintro e w1 ⟨g1, rfl, hT1, hK1, hG1⟩
  have HO1 := Lib.hid (show OwnB w1 base 5 A n c l from by
    refine ⟨HO.out.1, ?_⟩
    rcases HO.out.2 with h2 | ⟨g, cap, cur, hv, hg, hh, r⟩
    · exact .inl h2
    · refine .inr ⟨g, cap, cur, hv, hg, ?_, r⟩
      rw [hG1.block g (Array.getElem?_eq_some_iff.1 hh).1 (fun e1 => by
        obtain ⟨es, ck, hm, _⟩ := HK.out.map
        injection e1 with e1; subst e1; rw [hm] at hh; cases hh), hh])
  have HBM1 := Lib.hid (HBM.out.grown hG1 (fun e => by injection e; omega))
  have HG1 := Lib.hid (HG0.out.trans (GM.map hG1 hb0))
  have HT1 := Lib.hid hT1
  have HK1 := Lib.hid hK1
  have hb1 : base ≤ w1.heap.size := Nat.le_trans hb HG1.out.size
  clear hT1 hK1 hG1 hb0
  go_wp2_with fail
  refine (path_any 32 j _ _ _ _ (by omega) hj HT1.out.sl).mono ?_
  rintro e w2 ⟨A2, c2, rfl, ho2, he2⟩
  rw [dep32 j hj] at ho2 ⊢
  have HP := Lib.hid (SlN.of_own ho2)
  have HK2 := Lib.hid (HK1.out.ext he2)
  have HO2 := Lib.hid (HO1.out.ext he2)
  have HBM2 := Lib.hid (HBM1.out.ext he2)
  have HG2 := Lib.hid (HG1.out.trans (GM.ext he2 hb1))
  have hb2 : base ≤ w2.heap.size := Nat.le_trans hb HG2.out.size
  clear ho2 he2 HO1 HK1 HT1
  go_wp2_with fail
  have HS2 := Lib.hid (fun (w' : World) (hx : Ext w2 w') => (cells8 (HBM2.out.ext hx) : ∀ i, i < 8 → w'.cell? ⟨w.heap.size, i, none⟩ = some (.int .u8 (nb8 m i))))
  have HSD := Lib.hid (fun (w' : World) (hx : Ext w2 w') => (HK2.out.ext hx).seed)
  have HPP := Lib.hid (fun (w' : World) (hx : Ext w2 w') => HP.out.ext hx)
  have HZ := Lib.hid (show (0 : Int) ≤ t ∧ t ≤ 100000 from ⟨ht0, ht1⟩)
  have hX := (Ext.refl w2).drew'
  go_region_held3 (fun w' => (∀ i, i < 8 → w'.cell? ⟨w.heap.size, i, none⟩ = some (.int .u8 (nb8 m i)))) (first | (with_reducible exact HS2.out _ hX) | fail "CELLS") (first | (go_at_call 151; (with_reducible refine (seedOf_any seed B a t _ HZ.out.1 HZ.out.2 _ (HSD.out _ hX)).mono ?_); rintro e w3 ⟨rfl, he3⟩; have hX := hX.trans he3) | (go_at_call 150; (with_reducible refine (oneSign_any _ m _).mono ?_); rintro e w4 ⟨g4, rfl, hb4, hge4, he4⟩; have hN4 := SlN.of_blk (n := 18) hb4 (by simp [oneSig]) (by omega); have hX := hX.trans he4; have hP4 := HPP.out _ hX) | (refine step_growN rfl (.tmp 32) (.tmp 33) rfl (some ⟨g4, 0, none⟩) 18 18 _ (by rfl) hN4 (by omega) A2 5 c2 _ (by rfl) hP4 (by omega) (by omega) (by omega) 23 rfl ?_; intro A5 c5 w5 ho5 he5; have hX := hX.trans he5) | fail "ARM")
  go_wp2_with fail
  have ho5' : w5.ownsRow w4.heap.size 23 8 (.slice A5 23 c5) 23 (ncs (partU seed a t j m)) := ho5
  have HN5 := Lib.hid ho5'
  have HK5 := Lib.hid (HK2.out.ext hX)
  have HO5 := Lib.hid (HO2.out.ext hX)
  have HG5 := Lib.hid (HG2.out.trans (GM.ext hX hb2))
  have HLN := Lib.hid (partU_length seed a t j m hj)
  generalize w4.heap.size = h4 at *
  clear hb4 hge4 he3 he4 hN4 hP4 ho5 ho5' he5 hX
  clear HS2 HSD HPP HZ HP HK2 HO2 HG2 HBM2
  generalize partU seed a t j m = ns at *
  go_loopw [1, 36] (fun v i wr => ∃ (k : Nat) (A1 : Option Addr) (c1 : Nat), k ≤ 23 ∧ i = .int .i64 (k : Int) ∧ v = .slice A1 (n + k * 8) c1 ∧ OwnB wr base 5 A1 (n + k * 8) c1 (l ++ (ns.take k).flatMap nmb) ∧ wr.ownsRow h4 23 8 (.slice A5 23 c5) 23 (ncs ns) ∧ KeyAt wr B M seed lv ∧ GM base M w wr) (fun _ i _ => 23 - (intOf i).toNat)
  case atStart => exact ⟨0, A, c, by omega, rfl, by simp, by simpa using HO5.out, HN5.out, HK5.out, HG5.out⟩
  case round =>
    obtain ⟨k, A1, c1, hk, rfl, rfl, hO, hN, hK, hG⟩ := hrel
    have HOk := Lib.hid hO
    have HNk := Lib.hid hN
    have HKk := Lib.hid hK
    have HGk := Lib.hid hG
    clear hO hN hK hG
    by_cases hlt : k < 23
    · obtain ⟨g5, rfl, _, hra⟩ := own_at HNk.out (by omega)
      have hkl : k < ns.length := by have := HLN.out; omega
      have hrk := name_nth hra hkl
      have HF := Lib.hid (show l ++ (ns.take (k + 1)).flatMap nmb = l ++ ((ns.take k).flatMap nmb ++ nmb (nthN ns k)) from by rw [flat_take ns k hkl]; rfl)
      have j0 : (0 : Int) ≤ (k : Int) := by omega
      have j1 : (k : Int) < 23 := by omega
      have hsn := run_storeNewN wr wr.heap.size rfl (nthN ns k)
      have hbk : base ≤ wr.heap.size := Nat.le_trans hb HGk.out.size
      rw [Nat.zero_add] at hrk
      clear hra hkl
      go_wp2_with (first | (with_reducible refine wpList_loadN rfl (.tmp 38) rfl g5 (k * 8) rfl (nthN ns k) hrk ?_) | (at_builtin; go_must (refine wpList_appBL bytesE rfl (.tmp 40) (.tmp 41) rfl base A1 (n + k * 8) c1 (l ++ (ns.take k).flatMap nmb) rfl (HOk.out.alloc _) _ 8 8 (nmb (nthN ns k)) rfl (SlB.blkN (Blk.new _ _ _)) (by omega) (by omega) (by simp; omega) ?_)))
      intro A6 c6 w6 hO6 hG6 hL6
      have HO6 := Lib.hid (show OwnB w6 base 5 A6 (n + (k + 1) * 8) c6 (l ++ (ns.take (k + 1)).flatMap nmb) from by rw [HF.out, show n + (k + 1) * 8 = n + k * 8 + 8 from by omega]; simpa using hO6)
      have HN6 := Lib.hid (own_two (HNk.out.alloc _) (HOk.out.alloc _) (by decide) hG6)
      have HK6 := Lib.hid ((HKk.out.ext ((Ext.refl wr).alloc' _)).row hG6 (own_typed (HOk.out.alloc _)))
      have HG6 := Lib.hid (HGk.out.trans ((GM.ext ((Ext.refl wr).alloc' _) hbk).trans (GM.row hG6 (fun r hr => (World.ownsRow.lt HOk.out r hr).1) (by simp; omega))))
      have HE6 := Lib.hid (show n + k * 8 + 8 = n + (k + 1) * 8 by omega)
      clear hO6 hG6 hL6 hsn hrk
      go_wp2_with fail
      go_roundw
      case rel => exact ⟨k + 1, A6, c6, by omega, by go_num, by rw [HE6.out], HO6.out, HN6.out, HK6.out, HG6.out⟩
      case measure => simp [intOf]; omega
    · obtain rfl : k = 23 := by omega
      have HT := Lib.hid (show ns.take 23 = ns from List.take_of_length_le (by have := HLN.out; omega))
      go_wp2_with fail
      go_ret
      exact ⟨A1, c1, rfl, by have := HOk.out; rwa [HT.out] at this, HKk.out, HGk.out⟩
end Go.Proofs.YtcfmlgbocdjabaaGreat
/- ready, NewKey, Public and Sign (the program's), of a key object and of a seed. -/
namespace Go.Proofs.YtcfmlgbocdjabaaGreat
open Go.RowKit
set_option linter.unusedVariables false
set_option linter.unusedSimpArgs false
theorem ready_no (w : World) : Calls Tryz.prog 108 #[.pointer none] w fun e w' => e = .returned (.bool false) ∧ w = w' := by
  go_enter Tryz.func108, Tryz.ntmps108
  go_wp2_with fail
  go_ret
  exact ⟨rfl, rfl⟩
theorem ready_yes (seed : UInt64) (B M : Nat) (lv : Int) (w : World) (hK : KeyAt w B M seed lv) : Calls Tryz.prog 108 #[.pointer (some ⟨B, 0, none⟩)] w fun e w' => e = .returned (.bool true) ∧ w = w' := by
  have hc := hK.trees
  have hnm := fun (w : World) => run_neq_map_nil (P := Tryz.prog) w 134 172 63 (some M) Tryz.underlying134
  clear hK
  go_enter Tryz.func108, Tryz.ntmps108
  go_wp2_with fail
  go_ret
  exact ⟨rfl, rfl⟩
theorem cap1 (w : World) : Calls Tryz.prog 74 #[.int .i64 1] w fun e w' => e = .returned (.int .i64 32) ∧ w = w' := capacity_any 1 w
theorem cap2 (w : World) : Calls Tryz.prog 74 #[.int .i64 2] w fun e w' => e = .returned (.int .i64 1024) ∧ w = w' := capacity_any 2 w
theorem cap0 (lv : Int) (h1 : lv ≠ 1) (h2 : lv ≠ 2) (w : World) : Calls Tryz.prog 74 #[.int .i64 lv] w fun e w' => e = .returned (.int .i64 0) ∧ w = w' := by
  have h := capacity_any lv w
  rw [show capZ lv = 0 from by unfold capZ; rw [if_neg h2, if_neg h1]] at h
  exact h
theorem newKey_no (seed : UInt64) (lv : Int) (h1 : lv ≠ 1) (h2 : lv ≠ 2) (w : World) : Calls Tryz.prog 60 #[.agg (nmc seed), .int .i64 lv] w fun e w' => e = .returned (.pointer none) ∧ Ext w w' := by
  go_enter Tryz.func60, Tryz.ntmps60
  go_wp2_with fail
  refine (cap0 lv h1 h2 _).mono ?_
  rintro e w1 ⟨rfl, rfl⟩
  go_wp2_with fail
  go_ret
  exact ⟨rfl, (Ext.refl w).alloc' _⟩
@[go_sem] theorem fold_nmc10 (n : UInt64) : Array.foldl (fun (cs : Array Value) (x : Value × Nat) => cs.setIfInBounds x.snd x.fst) #[.int .u8 0, .int .u8 0, .int .u8 0, .int .u8 0, .int .u8 0, .int .u8 0, .int .u8 0, .int .u8 0, .int .i64 0, .map none] (nmc n).zipIdx 0 8 = #[.int .u8 (nb8 n 0), .int .u8 (nb8 n 1), .int .u8 (nb8 n 2), .int .u8 (nb8 n 3), .int .u8 (nb8 n 4), .int .u8 (nb8 n 5), .int .u8 (nb8 n 6), .int .u8 (nb8 n 7), .int .i64 0, .map none] := by
  rw [← nmc_nb8 n]
  kernel_rfl
theorem keyAt_new (seed : UInt64) (lv : Int) (w : World) (M : Nat) {g : Nat} (hM : w.heap.size = M) (hg : M + 1 = g) : KeyAt ((w.alloc (.map #[] 0)).alloc (.cells (keyP seed lv M) 136)) g M seed lv := by
  subst hM; subst hg
  refine ⟨Blk.newAt _ _ _ _ (by simp), #[], 0, ?_, fun x hx => by simp at hx⟩
  rw [Below.heap_alloc _ _ _ (by simp)]
  exact heap_alloc_new w _
set_option maxRecDepth 100000 in
set_option maxHeartbeats 1000000 in
theorem newKey_yes (seed : UInt64) (lv : Int) (h : lv = 1 ∨ lv = 2) (w : World) : Calls Tryz.prog 60 #[.agg (nmc seed), .int .i64 lv] w fun e w' => ∃ B M, e = .returned (.pointer (some ⟨B, 0, none⟩)) ∧ KeyAt w' B M seed lv ∧ w.heap.size ≤ B ∧ w.heap.size ≤ M ∧ Ext w w' := by
  have hrs := rangeN (Blk.new w 23 (nmc seed))
  have hmm := @run_makeMap Tryz.prog
  rcases h with rfl | rfl
  · go_enter Tryz.func60, Tryz.ntmps60
    go_wp2_with (first | (go_at_call 74; (with_reducible refine (cap1 _).mono ?_); rintro e w1 ⟨rfl, rfl⟩) | (with_reducible refine wpList_loadN rfl (.tmp 2) rfl w.heap.size 0 rfl seed hrs ?_))
    go_ret
    exact ⟨_, _, rfl, keyAt_new seed 1 _ _ (by simp) (by simp), by omega, by omega, (((Ext.refl w).alloc' _).alloc' _).alloc' _⟩
  · go_enter Tryz.func60, Tryz.ntmps60
    go_wp2_with (first | (go_at_call 74; (with_reducible refine (cap2 _).mono ?_); rintro e w1 ⟨rfl, rfl⟩) | (with_reducible refine wpList_loadN rfl (.tmp 2) rfl w.heap.size 0 rfl seed hrs ?_))
    go_ret
    exact ⟨_, _, rfl, keyAt_new seed 2 _ _ (by simp) (by simp), by omega, by omega, (((Ext.refl w).alloc' _).alloc' _).alloc' _⟩
theorem GM.mono {base base' M : Nat} {w w' : World} (h : GM base M w w') (hb : base' ≤ base) : GM base' M w w' := ⟨h.os, h.tape, h.output, h.size, fun k hk hm => h.block k (by omega) hm⟩
theorem own_map {w w' : World} {B M : Nat} {seed : UInt64} {lv : Int} {base : Nat} {e : TypeId} {size : Nat} {v : Value} {n : Nat} {xs : List Value} (hO : w.ownsRow base e size v n xs) (hK : KeyAt w B M seed lv) (hG : w.grownBy w' (some M)) : w'.ownsRow base e size v n xs := by
  refine ⟨hO.1, ?_⟩
  rcases hO.2 with h2 | ⟨g, cap, cur, hv, hg, hh, r⟩
  · exact .inl h2
  · refine .inr ⟨g, cap, cur, hv, hg, ?_, r⟩
    rw [hG.block g (Array.getElem?_eq_some_iff.1 hh).1 (fun e1 => by
      obtain ⟨es, ck, hm, _⟩ := hK.map
      injection e1 with e1; subst e1; rw [hm] at hh; cases hh), hh]
theorem KeyAt.mlt {w : World} {B M : Nat} {seed : UInt64} {lv : Int} (h : KeyAt w B M seed lv) : M < w.heap.size := by
  obtain ⟨es, ck, hm, _⟩ := h.map; exact (Array.getElem?_eq_some_iff.1 hm).1
theorem grown_setCells (g : Nat) : ∀ (vs : List Value) (o : Nat) (w : World), w.grownBy (w.setCells g o vs) (some g) := by
  intro vs
  induction vs with
  | nil => intro o w; exact grown_refl _ _
  | cons v r ih =>
    intro o w
    have h1 := grown_set w g o v
    have h2 := ih (o + 1) (w.setCell ⟨g, o, none⟩ v)
    exact ⟨h2.os.trans h1.os, h2.tape.trans h1.tape, h2.output.trans h1.output, Nat.le_trans h1.size h2.size, fun k hk hne => (h2.block k (Nat.lt_of_lt_of_le hk h1.size) hne).trans (h1.block k hk hne)⟩
/-- what is written into a variable of a name's type does not touch a key -/
theorem KeyAt.cell {w w' : World} {B M : Nat} {seed : UInt64} {lv : Int} {g : Nat} {t : TypeId} {cs : Array Value} (h : KeyAt w B M seed lv) (hg : w.grownBy w' (some g)) (hb : Blk w g t cs) (hs : cs.size = 8) : KeyAt w' B M seed lv := by
  obtain ⟨es, clock, hm, ht⟩ := h.map
  have key : ∀ (q : Nat) (o : Obj), w.heap[q]? = some o → (∀ cs t, cs.size = 8 → o ≠ .cells cs t (0, 0)) → w'.heap[q]? = some o := fun q o ho hne => by
    rw [hg.block q (Array.getElem?_eq_some_iff.1 ho).1 (fun e => by
      injection e with e; subst e
      unfold Blk at hb
      rw [ho] at hb
      injection hb with hb
      exact hne cs t hs hb), ho]
  refine ⟨key B _ h.blk (fun cs t hs e => ?_), es, clock, key M _ hm (fun cs t _ e => by cases e), fun x hx => ?_⟩
  · injection e with e1; rw [← e1] at hs; simp [keyP] at hs
  · obtain ⟨a, b, q, h1, h2, h3, h4, h5⟩ := ht x hx
    refine ⟨a, b, q, h1, h2, h3, h4, key q _ h5 (fun cs t hs e => ?_)⟩
    injection e with e1; rw [← e1] at hs; simp [ncs_length, leavesU_length] at hs
/-- a key object's answer -/
def KeyOut (v : Value) (w : World) (B M : Nat) (seed : UInt64) (lv : Int) (e : Ending) (w' : World) : Prop := e = .returned v ∧ KeyAt w' B M seed lv ∧ GM w.heap.size M w w'
end Go.Proofs.YtcfmlgbocdjabaaGreat
/- Sign (the program's), of a key object; Public and Sign of a seed. -/
namespace Go.Proofs.YtcfmlgbocdjabaaGreat
open Go.RowKit
set_option linter.unusedVariables false
set_option linter.unusedSimpArgs false
theorem signedAt (n r : Nat) (hr : n + 184 = r) (seed m : UInt64) (B M : Nat) (lv a t : Int) (j : Nat) (ha : (Lit.int .i64 a).wf = true) (ht0 : 0 ≤ t) (ht1 : t ≤ 100000) (hj : j < 32) (base : Nat) (A : Option Addr) (c : Nat) (l : List UInt8) (w : World) (hK : KeyAt w B M seed lv) (hO : OwnB w base 5 A n c l) (hn : n ≤ 1000000) (hb : base ≤ w.heap.size) :
    Calls Tryz.prog 109 #[.pointer (some ⟨B, 0, none⟩), .slice A n c, .int .i64 a, .int .i64 t, .int .i64 (j : Int), .agg (nmc m)] w fun e w' => ∃ A' c', e = .returned (.slice A' r c') ∧ OwnB w' base 5 A' r c' (l ++ (partU seed a t j m).flatMap nmb) ∧ KeyAt w' B M seed lv ∧ GM base M w w' := by
  subst hr
  exact signed_any seed m B M lv a t j ha ht0 ht1 hj base A n c l w hK hO hn hb
def KSignOut (o : Option (List UInt8)) (w : World) (B M : Nat) (seed : UInt64) (lv : Int) (e : Ending) (w' : World) : Prop := ∃ A n c, e = .returned (.tuple #[.slice A n c, .bool o.isSome]) ∧ SlB w' A n c (o.getD []) ∧ KeyAt w' B M seed lv ∧ GM w.heap.size M w w'
theorem kSign_nil (leaf : Int) (m : UInt64) (w : World) : Calls Tryz.prog 61 #[.pointer none, .int .i64 leaf, .agg (nmc m)] w (SigOut w none) := by
  go_enter Tryz.func61, Tryz.ntmps61
  go_wp2_with (go_at_call 108; (with_reducible refine (ready_no _).mono ?_); rintro e w1 ⟨rfl, rfl⟩)
  go_ret2
  exact SigOut.no _ _ ((Ext.refl w).alloc' _)
theorem capV (lv : Int) (N : Int) (h : (lv = 1 ∧ N = 32) ∨ (lv = 2 ∧ N = 1024)) (w : World) : Calls Tryz.prog 74 #[.int .i64 lv] w fun e w' => e = .returned (.int .i64 N) ∧ w = w' := by
  rcases h with ⟨rfl, rfl⟩ | ⟨rfl, rfl⟩
  · exact cap1 w
  · exact cap2 w
set_option maxRecDepth 100000 in
set_option maxHeartbeats 1000000 in
theorem kSign_no (seed m : UInt64) (B M : Nat) (lv leaf N : Int) (hN : (lv = 1 ∧ N = 32) ∨ (lv = 2 ∧ N = 1024)) (hl : leaf < 0 ∨ N ≤ leaf) (w : World) (hK : KeyAt w B M seed lv) : Calls Tryz.prog 61 #[.pointer (some ⟨B, 0, none⟩), .int .i64 leaf, .agg (nmc m)] w (KSignOut none w B M seed lv) := by
  have hK0 := hK.ext ((Ext.refl w).alloc' (.cells (nmc m) 23))
  have HK := Lib.hid hK0
  have hlv := hK0.levels
  have HG0 := Lib.hid (GM.ext (base := w.heap.size) (M := M) ((Ext.refl w).alloc' (.cells (nmc m) 23)) (Nat.le_refl _))
  have HN := Lib.hid hN
  clear hK hK0 hN
  by_cases h0 : leaf < 0
  · have d0 : decide (leaf < 0) = true := by simpa using h0
    clear hl hlv
    go_enter Tryz.func61, Tryz.ntmps61
    go_wp2_with (go_at_call 108; (with_reducible refine (ready_yes seed B M lv _ HK.out).mono ?_); rintro e w1 ⟨rfl, rfl⟩)
    go_ret2
    exact ⟨none, 0, 0, rfl, SlB.nil _, HK.out, HG0.out⟩
  · have d0 : decide (leaf < 0) = false := by simpa using h0
    have d1 : decide (N ≤ leaf) = true := by simp; omega
    clear hl
    go_enter Tryz.func61, Tryz.ntmps61
    go_wp2_with (first | (go_at_call 108; (with_reducible refine (ready_yes seed B M lv _ HK.out).mono ?_); rintro e w1 ⟨rfl, rfl⟩) | (go_at_call 74; (with_reducible refine (capV lv N HN.out _).mono ?_); rintro e w1 ⟨rfl, rfl⟩))
    go_ret2
    exact ⟨none, 0, 0, rfl, SlB.nil _, HK.out, HG0.out⟩
theorem wf1 : (Lit.int .i64 1).wf = true := WalkArith.wf_i64 (by omega)
theorem wf2 : (Lit.int .i64 2).wf = true := WalkArith.wf_i64 (by omega)
theorem sigU_one (seed m : UInt64) (leaf t r : Nat) (h : leaf = 32 * t + r) (hl : leaf < 32) : sigU seed 1 (leaf : Int) m = some ([toB ((leaf : Int) / 256), toB (leaf : Int)] ++ (partU seed 1 (t : Int) r m).flatMap nmb) := by
  obtain rfl : t = 0 := by omega
  obtain rfl : leaf = r := by omega
  unfold sigU
  rw [if_pos ⟨rfl, by omega, by omega⟩, Int.toNat_natCast]
  congr 1
  simp only [sig1, partU, List.flatMap_append, List.append_assoc]
  rw [show (leaf : Int) / 256 = 0 from by omega]
  rfl
theorem sigU_two (seed m : UInt64) (leaf t r : Nat) (h : leaf = 32 * t + r) (hr : r < 32) (hl : leaf < 1024) : sigU seed 2 (leaf : Int) m = some ([toB ((leaf : Int) / 256), toB (leaf : Int)] ++ (partU seed 1 (t : Int) r m).flatMap nmb ++ (partU seed 2 0 t (rootU (leavesU seed 1 (t : Int)))).flatMap nmb) := by
  unfold sigU
  rw [if_neg (by omega), if_pos ⟨rfl, by omega, by omega⟩, Int.toNat_natCast, ← sig2_eq seed m leaf t r hr h]
  have e3 : (leaf : Int).tmod 32 = (r : Int) := by
    rw [Int.tmod_eq_emod_of_nonneg (by omega)]; omega
  rw [e3]
  simp only [partU, List.flatMap_append, List.append_assoc]
set_option maxRecDepth 100000 in
set_option maxHeartbeats 2000000 in
theorem kSign_one (seed m : UInt64) (B M : Nat) (lv N : Int) (hN : (lv = 1 ∧ N = 32) ∨ (lv = 2 ∧ N = 1024)) (leaf t r : Nat) (hleaf : leaf = 32 * t + r) (hr : r < 32) (hlt : (leaf : Int) < N) (w : World) (hK : KeyAt w B M seed lv) : Calls Tryz.prog 61 #[.pointer (some ⟨B, 0, none⟩), .int .i64 (leaf : Int), .agg (nmc m)] w (KSignOut (sigU seed lv leaf m) w B M seed lv) := by
  have hK0 := hK.ext ((Ext.refl w).alloc' (.cells (nmc m) 23))
  have HK := Lib.hid hK0
  have hlv := hK0.levels
  have hMw := hK.mlt
  have HBM := Lib.hid (Blk.new w 23 (nmc m))
  have HG0 := Lib.hid (GM.ext (base := w.heap.size) (M := M) ((Ext.refl w).alloc' (.cells (nmc m) 23)) (Nat.le_refl _))
  have HN := Lib.hid hN
  have hN2 : N ≤ 1024 := by omega
  have l0 : (0 : Int) ≤ (leaf : Int) := by omega
  have l1 : (leaf : Int) < 1024 := by omega
  have hd : (leaf : Int) / 32 = (t : Int) := by omega
  have hrm : (leaf : Int) % 32 = (r : Int) := by omega
  have t0 : (0 : Int) ≤ (t : Int) := by omega
  have t1 : (t : Int) < 32 := by omega
  have hun : IntKind.u64.wrap (leaf : Int) = un (toU leaf) := by rw [un_toU _ (by omega) (by omega), IntKind.wrap_u64]; omega
  have d0 : decide ((leaf : Int) < 0) = false := by simp
  have d1 : decide (N ≤ (leaf : Int)) = false := by simp; omega
  have HB2 := Lib.hid (be2 (leaf : Int) (by omega) (by omega))
  have HLF := Lib.hid hleaf
  clear hK hK0 hN hleaf
  go_enter Tryz.func61, Tryz.ntmps61
  go_wp2_with (first | (go_at_call 108; (with_reducible refine (ready_yes seed B M lv _ HK.out).mono ?_); rintro e w1 ⟨rfl, rfl⟩) | (go_at_call 74; (with_reducible refine (capV lv N HN.out _).mono ?_); rintro e w1 ⟨rfl, rfl⟩))
  refine (appendUint_any none 0 0 [] (toU leaf) 2 (by omega) _ (SlB.nil _) (by omega)).mono ?_
  rintro e w1 ⟨A1, c1, rfl, hO1, he1⟩
  have HO1 := Lib.hid (show OwnB w1 (w.heap.size + 1) 5 A1 2 c1 [toB ((leaf : Int) / 256), toB (leaf : Int)] from by
    rw [← HB2.out]
    have : OwnB w1 (w.alloc (.cells (nmc m) 23)).heap.size 5 A1 2 c1 (beBytes 2 (toU (leaf : Int)).toNat) := hO1
    simpa using this)
  have HK1 := Lib.hid (HK.out.ext he1)
  have hrm1 := rangeN (HBM.out.ext he1)
  have hb1 : w.heap.size + 1 ≤ w1.heap.size := by have := he1.size; simp at this; omega
  have HG1 := Lib.hid (HG0.out.trans (GM.ext he1 (by simp)))
  clear hO1 he1 hlv hun d0 d1
  go_wp2_with (with_reducible refine wpList_loadN rfl (.tmp 5) rfl w.heap.size 0 rfl m hrm1 ?_)
  refine (signedAt 2 186 rfl seed m B M lv 1 t r wf1 t0 (by omega) hr (w.heap.size + 1) A1 c1 _ _ HK1.out HO1.out (by omega) hb1).mono ?_
  rintro e w2 ⟨A2, c2, rfl, hO2, hK2, hG2⟩
  have hlv2 := hK2.levels
  have HK2 := Lib.hid hK2
  have HO2 := Lib.hid hO2
  have HG2 := Lib.hid (HG1.out.trans (hG2.mono (by omega)))
  have hb2 : w.heap.size + 1 ≤ w2.heap.size := Nat.le_trans hb1 hG2.size
  clear hO2 hK2 hG2 hrm1
  obtain ⟨rfl, rfl⟩ | ⟨rfl, rfl⟩ := HN.out
  · have HU := Lib.hid (sigU_one seed m leaf t r HLF.out (by omega))
    go_wp2_with fail
    go_ret2
    rw [HU.out]
    exact ⟨A2, 186, c2, rfl, HO2.out.sl, HK2.out, HG2.out⟩
  · have HU := Lib.hid (sigU_two seed m leaf t r HLF.out hr (by omega))
    go_wp2_with fail
    refine (tree_any seed B M 2 1 t wf1 t0 (by omega) _ HK2.out).mono ?_
    rintro e w3 ⟨g3, rfl, hT3, hK3, hG3⟩
    have HK3 := Lib.hid hK3
    have HO3 := Lib.hid (show OwnB w3 (w.heap.size + 1) 5 A2 186 c2 _ from own_map HO2.out HK2.out hG3)
    have HG3 := Lib.hid (HG2.out.trans (GM.map hG3 (by omega)))
    have hb3 : w.heap.size + 1 ≤ w3.heap.size := Nat.le_trans hb2 hG3.size
    clear hK3 hG3 hlv2
    go_wp2_with fail
    refine (root_any 32 32 _ _ _ _ (by omega) (by omega) hT3.sl).mono ?_
    rintro e w4 ⟨rfl, he4⟩
    have HK4 := Lib.hid (HK3.out.ext he4)
    have HO4 := Lib.hid (HO3.out.ext he4)
    have HG4 := Lib.hid (HG3.out.trans (GM.ext he4 (by omega)))
    have hb4 : w.heap.size + 1 ≤ w4.heap.size := Nat.le_trans hb3 he4.size
    clear he4 hT3
    go_wp2_with fail
    refine (signedAt 186 370 rfl seed _ B M 2 2 0 t wf2 (by omega) (by omega) (by omega) (w.heap.size + 1) A2 c2 _ _ HK4.out HO4.out (by omega) hb4).mono ?_
    rintro e w5 ⟨A5, c5, rfl, hO5, hK5, hG5⟩
    have HO5 := Lib.hid hO5
    have HK5 := Lib.hid hK5
    have HG5 := Lib.hid (HG4.out.trans (hG5.mono (by omega)))
    clear hO5 hK5 hG5
    go_wp2_with fail
    go_ret2
    rw [HU.out]
    exact ⟨A5, 370, c5, rfl, HO5.out.sl, HK5.out, HG5.out⟩
theorem kSign_any (seed m : UInt64) (B M : Nat) (lv leaf : Int) (hl : lv = 1 ∨ lv = 2) (w : World) (hK : KeyAt w B M seed lv) : Calls Tryz.prog 61 #[.pointer (some ⟨B, 0, none⟩), .int .i64 leaf, .agg (nmc m)] w (KSignOut (sigU seed lv leaf m) w B M seed lv) := by
  obtain ⟨N, hN⟩ : ∃ N : Int, (lv = 1 ∧ N = 32) ∨ (lv = 2 ∧ N = 1024) := by
    rcases hl with rfl | rfl
    · exact ⟨32, .inl ⟨rfl, rfl⟩⟩
    · exact ⟨1024, .inr ⟨rfl, rfl⟩⟩
  by_cases h : leaf < 0 ∨ N ≤ leaf
  · rw [show sigU seed lv leaf m = none from by unfold sigU; rw [if_neg (by omega), if_neg (by omega)]]
    exact kSign_no seed m B M lv leaf N hN h w hK
  · obtain ⟨n, rfl⟩ := Int.eq_ofNat_of_zero_le (show 0 ≤ leaf by omega)
    exact kSign_one seed m B M lv N hN n (n / 32) (n % 32) (by omega) (by omega) (by omega) w hK
theorem GM.toExt {base M : Nat} {w0 w w' : World} (h0 : Ext w0 w) (h : GM base M w w') (hb : w0.heap.size ≤ base) (hM : w0.heap.size ≤ M) : Ext w0 w' :=
  ⟨h.os.trans h0.os, h.tape.trans h0.tape, h.output.trans h0.output, Nat.le_trans h0.size h.size, fun k hk => (h.block k (by omega) (by omega)).trans (h0.block k hk)⟩
set_option maxRecDepth 100000 in
set_option maxHeartbeats 1000000 in
theorem sign5_any (seed m : UInt64) (lv leaf : Int) (w : World) : Calls Tryz.prog 25 #[.agg (nmc seed), .int .i64 lv, .int .i64 leaf, .agg (nmc m)] w (SigOut w (sigU seed lv leaf m)) := by
  have hbs := (Blk.new w 23 (nmc seed)).alloc (.cells (nmc m) 23)
  have hbm : Blk ((w.alloc (.cells (nmc seed) 23)).alloc (.cells (nmc m) 23)) (w.heap.size + 1) 23 (nmc m) := Blk.newAt _ _ _ _ (by simp)
  have HE0 := Lib.hid (((Ext.refl w).alloc' (.cells (nmc seed) 23)).alloc' (.cells (nmc m) 23))
  have HSS := Lib.hid (fun (w' : World) (hx : Ext ((w.alloc (.cells (nmc seed) 23)).alloc (.cells (nmc m) 23)).drew w') => (⟨cells8 (hbs.drew.ext hx), cells8 (hbm.drew.ext hx)⟩ : (∀ i, i < 8 → w'.cell? ⟨w.heap.size, i, none⟩ = some (.int .u8 (nb8 seed i))) ∧ (∀ i, i < 8 → w'.cell? ⟨w.heap.size + 1, i, none⟩ = some (.int .u8 (nb8 m i)))))
  have hX := Ext.refl ((w.alloc (.cells (nmc seed) 23)).alloc (.cells (nmc m) 23)).drew
  clear hbs hbm
  by_cases h12 : lv = 1 ∨ lv = 2
  · have H12 := Lib.hid h12
    clear h12
    go_enter Tryz.func25, Tryz.ntmps25
    go_wp2_with fail
    go_region_held3 (fun w' => (∀ i, i < 8 → w'.cell? ⟨w.heap.size, i, none⟩ = some (.int .u8 (nb8 seed i))) ∧ (∀ i, i < 8 → w'.cell? ⟨w.heap.size + 1, i, none⟩ = some (.int .u8 (nb8 m i)))) (first | (with_reducible exact HSS.out _ hX) | fail "CELLS") (first | (go_at_call 60; (with_reducible refine (newKey_yes seed lv H12.out _).mono ?_); rintro e w1 ⟨B1, M1, rfl, hK1, hB1, hM1, he1⟩; have hM2 := Nat.le_trans hX.size hM1; have hX := hX.trans he1) | (go_at_call 61; (with_reducible refine (kSign_any seed m B1 M1 lv leaf H12.out _ hK1).mono ?_); rintro e w2 ⟨A2, n2, c2, rfl, hs2, hK2, hG2⟩; have hX := GM.toExt hX hG2 hX.size hM2) | fail "ARM")
    all_goals (
      go_wp2_with fail
      go_ret2
      exact ⟨A2, n2, c2, rfl, hs2, HE0.out.trans ((Ext.refl _).drew'.trans hX)⟩)
  · have HU := Lib.hid (show sigU seed lv leaf m = none from by unfold sigU; rw [if_neg (by omega), if_neg (by omega)])
    have h1 : lv ≠ 1 := fun h => h12 (.inl h)
    have h2 : lv ≠ 2 := fun h => h12 (.inr h)
    clear h12
    go_enter Tryz.func25, Tryz.ntmps25
    go_wp2_with fail
    go_region_held3 (fun w' => (∀ i, i < 8 → w'.cell? ⟨w.heap.size, i, none⟩ = some (.int .u8 (nb8 seed i))) ∧ (∀ i, i < 8 → w'.cell? ⟨w.heap.size + 1, i, none⟩ = some (.int .u8 (nb8 m i)))) (first | (with_reducible exact HSS.out _ hX) | fail "CELLS") (first | (go_at_call 60; (with_reducible refine (newKey_no seed lv h1 h2 _).mono ?_); rintro e w1 ⟨rfl, he1⟩; have hX := hX.trans he1) | (go_at_call 61; (with_reducible refine (kSign_nil leaf m _).mono ?_); rintro e w2 ⟨A2, n2, c2, rfl, hs2, he2⟩; have hX := hX.trans he2) | fail "ARM")
    all_goals (
      go_wp2_with fail
      go_ret2
      rw [HU.out]
      exact ⟨A2, n2, c2, rfl, hs2, HE0.out.trans ((Ext.refl _).drew'.trans hX)⟩)
end Go.Proofs.YtcfmlgbocdjabaaGreat
