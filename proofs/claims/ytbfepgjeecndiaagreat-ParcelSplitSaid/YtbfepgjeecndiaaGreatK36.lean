/- Parcels as values (plain): their bytes, errors, parts. -/
import Derived.Lib.AppendZerosOnto
import Derived.Lib.SliceRun
import Derived.Test.YtbfepgjeecndiaaGreatK35
namespace Go.Proofs.YtbfepgjeecndiaaGreat
open Go.RowKit
set_option linter.unusedVariables false
set_option linter.unusedSimpArgs false
section
variable {α β : Type}
def adjB (lt : β → β → Bool) : List β → Bool
 | x :: y :: r => lt x y && adjB lt (y :: r)
 | _ => true
theorem adjB_iff (lt : β → β → Bool) : ∀ (M : List β), adjB lt M = true ↔ ∀ k (h : k + 1 < M.length), lt (M[k]'(Nat.lt_of_succ_lt h)) (M[k + 1]'h) = true
 | [] => by simp [adjB]
 | [x] => by simp [adjB]
 | x :: y :: r => by
  rw [adjB, Bool.and_eq_true, adjB_iff lt (y :: r)]
  constructor
  ·rintro ⟨h1, h2⟩ k hk
   cases k with
   | zero => exact h1
   | succ k => exact h2 k (by simpa using hk)
  ·intro h
   exact ⟨h 0 (by simp), fun k hk => h (k + 1) (by simpa using hk)⟩
theorem ascG_adj [RowT α] {V : α → β} {lt0 : α → α → Bool} {lt : β → β → Bool} (h : ∀ x y, lt0 x y = lt (V x) (V y)) (L : List α) : ascG lt0 L = adjB lt (L.map V) := by
 rw [Bool.eq_iff_iff, adjB_iff]
 constructor
 ·intro hh k hk
  rw [List.length_map] at hk
  have := ascG_of hh hk
  rw [h] at this
  rw [List.getElem_map, List.getElem_map, nthG_eq, nthG_eq]
  exact this
 ·intro hh
  refine ascG_yes (fun k hk => ?_)
  have := hh k (by simpa using hk)
  rw [List.getElem_map, List.getElem_map, nthG_eq, nthG_eq] at this
  rw [h]; exact this
theorem allG_all [RowT α] {V : α → β} {f : α → Bool} {g : β → Bool} {L : List α} (h : ∀ x ∈ L, f x = g (V x)) : allG f L = (L.map V).all g := by
 rw [Bool.eq_iff_iff, List.all_map, List.all_eq_true]
 constructor
 ·intro hh x hx
  obtain ⟨k, hk, rfl⟩ := List.getElem_of_mem hx
  have := allG_of hh hk
  rw [← nthG_eq hk, h _ hx] at this
  exact this
 ·intro hh
  refine allG_yes (fun k hk => ?_)
  rw [h _ (nthG_mem hk)]
  exact hh _ (nthG_mem hk)
end
def vldSv (s : SgV) : Bool := vldVt s.1 && decide (s.2.length = 370)
def encSv (s : SgV) : List UInt8 := encVt s.1 ++ s.2
def okTv (l : List UInt8) : Bool := decide (l.length ≤ 65535)
def encVwV (L : List SgV) (X : List (List UInt8)) : List UInt8 := beI 4 (L.length : Int) ++ L.flatMap encSv ++ (beI 4 (X.length : Int) ++ X.flatMap fun l => blob l)
def vwEV (L : List SgV) (X : List (List UInt8)) : Int := if L.all vldSv = true ∧ X.all okTv = true then (if (adjB ltSv L && adjB lexB X) = true then 0 else 10) else 1
def pcEV (L : List SgV) (X : List (List UInt8)) : Int := if lrgN L.length X.length = true then 5 else vwEV L X
def encPcV (L : List SgV) (X : List (List UInt8)) : List UInt8 := nmb (tagU 89 (encVwV L X)) ++ encVwV L X
theorem vldSg_V {S : SgR} (h : S.sig.length = S.n) : vldSg S = vldSv S.V := by unfold vldSg vldSv SgR.V; rw [h]
theorem vwE_V {L : List SgR} {X : List TeR} (hL : ∀ S ∈ L, S.sig.length = S.n) (hX : ∀ T ∈ X, T.l.length = T.n) : vwE L X = vwEV (L.map SgR.V) (X.map TeR.l) := by
 unfold vwE vwEV ordV
 rw [allG_all (V := SgR.V) (g := vldSv) (fun S hS => vldSg_V (hL S hS)), allG_all (V := TeR.l) (g := okTv) (fun T hT => by unfold okTe okTv; rw [hX T hT]), ascG_adj (V := SgR.V) (lt0 := ltSg) (lt := ltSv) (fun _ _ => rfl), ascG_adj (V := TeR.l) (lt0 := ltTe) (lt := lexB) (fun _ _ => rfl)]
theorem pcE_V {L : List SgR} {X : List TeR} (hL : ∀ S ∈ L, S.sig.length = S.n) (hX : ∀ T ∈ X, T.l.length = T.n) : pcE L X = pcEV (L.map SgR.V) (X.map TeR.l) := by
 unfold pcE pcEV
 rw [vwE_V hL hX, List.length_map, List.length_map]
theorem encVw_V (L : List SgR) (X : List TeR) : encVw L X = encVwV (L.map SgR.V) (X.map TeR.l) := by
 unfold encVw encVwV encSgs encTes
 rw [List.length_map, List.length_map, List.flatMap_map, List.flatMap_map]; rfl
theorem encPc_V (L : List SgR) (X : List TeR) : encPc L X = encPcV (L.map SgR.V) (X.map TeR.l) := by unfold encPc encPcV; rw [encVw_V]
theorem ordV_V (L : List SgR) (X : List TeR) : ordV L X = (adjB ltSv (L.map SgR.V) && adjB lexB (X.map TeR.l)) := by
 unfold ordV
 rw [ascG_adj (V := SgR.V) (lt0 := ltSg) (lt := ltSv) (fun _ _ => rfl), ascG_adj (V := TeR.l) (lt0 := ltTe) (lt := lexB) (fun _ _ => rfl)]
/-! the parts of a view -/
def prt {β : Type} (L : List β) (i : Nat) : List β := (L.drop (i * 64)).take 64
theorem prt_map {α β : Type} (V : α → β) (L : List α) (i : Nat) : (prt L i).map V = prt (L.map V) i := by unfold prt; rw [List.map_take, List.map_drop]
def splF (L : List SgV) (X : List (List UInt8)) : Nat → Nat → List (List UInt8) → List (List UInt8) × Int
 | 0, _, acc => (acc, 0)
 | k + 1, i, acc => if pcEV (prt L i) (prt X i) ≠ 0 then ([], pcEV (prt L i) (prt X i)) else splF L X k (i + 1) (acc ++ [encPcV (prt L i) (prt X i)])
def splN (L : List SgV) (X : List (List UInt8)) : Nat := (max L.length X.length + 63) / 64
def splV (L : List SgV) (X : List (List UInt8)) : List (List UInt8) × Int := splF L X (splN L X) 0 []
theorem splF_no {L : List SgV} {X : List (List UInt8)} {i : Nat} {acc : List (List UInt8)} (hi : i < splN L X) (h : pcEV (prt L i) (prt X i) ≠ 0) : splF L X (splN L X - i) i acc = ([], pcEV (prt L i) (prt X i)) := by
 rw [show splN L X - i = (splN L X - i - 1) + 1 from by omega, splF, if_pos h]
theorem splF_yes {L : List SgV} {X : List (List UInt8)} {i : Nat} {acc : List (List UInt8)} (hi : i < splN L X) (h : pcEV (prt L i) (prt X i) = 0) : splF L X (splN L X - i) i acc = splF L X (splN L X - (i + 1)) (i + 1) (acc ++ [encPcV (prt L i) (prt X i)]) := by
 rw [show splN L X - i = (splN L X - (i + 1)) + 1 from by omega, splF, if_neg (by simpa using h)]
theorem splF_end {L : List SgV} {X : List (List UInt8)} {i : Nat} {acc : List (List UInt8)} (hi : splN L X ≤ i) : splF L X (splN L X - i) i acc = (acc, 0) := by
 rw [show splN L X - i = 0 from by omega]; rfl
theorem prt_empty {L : List SgV} {X : List (List UInt8)} {i : Nat} : (prt L i = [] ∧ prt X i = []) ↔ splN L X ≤ i := by
 unfold prt splN
 rw [List.eq_nil_iff_length_eq_zero, List.eq_nil_iff_length_eq_zero, List.length_take, List.length_drop, List.length_take, List.length_drop]
 omega
end Go.Proofs.YtbfepgjeecndiaaGreat

/- What the bytes of parcels tell, as values; many parcels together (plain). -/
namespace Go.Proofs.YtbfepgjeecndiaaGreat
open Go.RowKit
set_option linter.unusedVariables false
set_option linter.unusedSimpArgs false
theorem dTe_len : ∀ (k : Nat) (r : List UInt8) (acc acc' : List (List UInt8)) (r' : List UInt8), dTe k r acc = some (acc', r') → (∀ q ∈ acc, q.length ≤ 65535) → ∀ q ∈ acc', q.length ≤ 65535
 | 0, r, acc, acc', r', h, ha => by
  simp only [dTe, Option.some.injEq, Prod.mk.injEq] at h
  rw [← h.1]; exact ha
 | k + 1, r, acc, acc', r', h, ha => by
  unfold dTe at h
  split at h
  ·refine dTe_len k _ _ acc' r' h (fun q hq => ?_)
   rcases List.mem_append.1 hq with hq | hq
   ·exact ha q hq
   ·rw [List.mem_singleton.1 hq, List.length_take]
    have h1 := beNat_lt (r.take 2)
    have h2 : 256 ^ (r.take 2).length ≤ 256 ^ 2 := Nat.pow_le_pow_right (by omega) (by rw [List.length_take]; omega)
    omega
  ·cases h
theorem rawVw_len {l : List UInt8} {LV : List SgV} {XV : List (List UInt8)} (h : rawVw l = some (LV, XV)) : ∀ q ∈ XV, q.length ≤ 65535 := by
 unfold rawVw contS at h
 split at h
 ·cases h
 ·split at h
  ·cases h
  ·rename_i P' r' _
   unfold contT at h
   split at h
   ·cases h
   ·split at h
    ·cases h
    ·rename_i Q' r2 hd
     split at h
     ·injection h with h; injection h with _ h; subst h
      exact dTe_len _ _ _ _ _ hd (fun q hq => by cases hq)
     ·cases h
def pcDecV (l : List UInt8) : Option (List SgV × List (List UInt8)) := if 8 ≤ l.length ∧ sumOk l = true then
  (match rawVw (l.drop 8) with
  | none => none
  | some (LV, XV) => if (adjB ltSv LV && adjB lexB XV) = true ∧ lrgN LV.length XV.length = false then some (LV, XV) else none)
 else none
def joS (s : (List SgV × List (List UInt8)) × Nat) (l : List UInt8) : (List SgV × List (List UInt8)) × Nat := match pcDecV l with
 | none => (s.1, s.2 + 1)
 | some (LV, XV) => ((s.1.1 ++ LV, s.1.2 ++ XV), s.2)
def joV (ls : List (List UInt8)) : (List SgV × List (List UInt8)) × Nat := ls.foldl joS (([], []), 0)
theorem joV_snoc (ls : List (List UInt8)) (l : List UInt8) : joV (ls ++ [l]) = joS (joV ls) l := by unfold joV; rw [List.foldl_append]; rfl
def mkSg (v : SgV) : SgR := ⟨v.1, none, 0, 0, v.2⟩
def mkTe (l : List UInt8) : TeR := ⟨none, 0, 0, l⟩
theorem mkSg_V (LV : List SgV) : (LV.map mkSg).map SgR.V = LV := by rw [List.map_map]; exact List.map_id'' (fun _ => rfl) LV
theorem mkTe_l (XV : List (List UInt8)) : (XV.map mkTe).map TeR.l = XV := by rw [List.map_map]; exact List.map_id'' (fun _ => rfl) XV
theorem pcDecV_short {l : List UInt8} (h : l.length < 8) : pcDecV l = none := by unfold pcDecV; rw [if_neg (fun hh => by omega)]
theorem pcDecV_sum {l : List UInt8} (h : sumOk l = false) : pcDecV l = none := by unfold pcDecV; rw [if_neg (fun hh => by rw [h] at hh; cases hh.2)]
theorem pcDecV_raw {l : List UInt8} (h : ∀ (L : List SgR) (X : List TeR), rawVw (l.drop 8) = some (L.map SgR.V, X.map TeR.l) → ordV L X = false) : pcDecV l = none := by
 unfold pcDecV
 split
 ·split
  ·rfl
  ·rename_i LV XV hr
   have := h (LV.map mkSg) (XV.map mkTe) (by rw [mkSg_V, mkTe_l]; exact hr)
   rw [ordV_V, mkSg_V, mkTe_l] at this
   rw [if_neg (fun hh => by rw [this] at hh; cases hh.1)]
 ·rfl
theorem pcDecV_large {l : List UInt8} {L : List SgR} {X : List TeR} (hr : rawVw (l.drop 8) = some (L.map SgR.V, X.map TeR.l)) (h : lrgN L.length X.length = true) : pcDecV l = none := by
 unfold pcDecV
 split
 ·rw [hr]
  simp only [List.length_map]
  rw [if_neg (fun hh => by rw [h] at hh; cases hh.2)]
 ·rfl
theorem pcDecV_yes {l : List UInt8} {L : List SgR} {X : List TeR} (h8 : 8 ≤ l.length) (hs : sumOk l = true) (hr : rawVw (l.drop 8) = some (L.map SgR.V, X.map TeR.l)) (ho : ordV L X = true) (h : lrgN L.length X.length = false) : pcDecV l = some (L.map SgR.V, X.map TeR.l) := by
 unfold pcDecV
 rw [if_pos ⟨h8, hs⟩, hr]
 simp only [List.length_map]
 rw [if_pos ⟨by rw [← ordV_V]; exact ho, h⟩]
def PcDec2 (w : World) (l : List UInt8) (e : Ending) (w' : World) : Prop :=
 ∃ (A : Option Addr) (n c : Nat) (L : List SgR) (B : Option Addr) (m d : Nat) (X : List TeR) (z : Int), e = .returned (.tuple #[.agg (vwA A n c B m d), .int .i64 z]) ∧ VwO w' w.heap.size A n c L B m d X ∧ Ext w w' ∧
  ((z ≠ 0 ∧ pcDecV l = none) ∨ (z = 0 ∧ pcDecV l = some (L.map SgR.V, X.map TeR.l) ∧ n ≤ 64 ∧ m ≤ 64 ∧ (∀ S, S ∈ L → S.n = 370) ∧ ∀ T, T ∈ X → T.n ≤ 65535))
theorem pcDec2_any (A : Option Addr) (n c : Nat) (l : List UInt8) (w : World) (hS : SlB w A n c l) (hbd : n ≤ 100000000) : Calls Tryz.prog 11 #[.slice A n c] w (PcDec2 w l) := by
 refine (pcDec_any A n c l w hS hbd).mono ?_
 rintro e w' ⟨A', n', c', L, B, m, d, X, z, he, hv, hE, hc⟩
 refine ⟨A', n', c', L, B, m, d, X, z, he, hv, hE, ?_⟩
 rcases hc with ⟨rfl, h, -⟩ | ⟨rfl, -, h, -⟩ | ⟨rfl, -, -, -, -, h⟩ | ⟨rfl, -, -, -, -, L2, X2, h, -, h2⟩ | ⟨rfl, h8, hs, hr, ho, hl, hv2⟩
 ·exact .inl ⟨by decide, pcDecV_short h⟩
 ·exact .inl ⟨by decide, pcDecV_sum h⟩
 ·exact .inl ⟨by decide, pcDecV_raw h⟩
 ·exact .inl ⟨by decide, pcDecV_large h h2⟩
 ·have hn : L.length = n' := hv.sl1.len
  have hm : X.length = m := hv.sl2.len
  have hlg := hl
  unfold lrgN at hlg
  rw [hn, hm, Bool.or_eq_false_iff] at hlg
  have h1 := of_decide_eq_false hlg.1
  have h2 := of_decide_eq_false hlg.2
  refine .inr ⟨rfl, pcDecV_yes h8 hs hr ho hl, by omega, by omega, fun S hS => ?_, fun T hT => ?_⟩
  ·have := hv2 S hS
   unfold vldSg at this
   rw [Bool.and_eq_true] at this
   exact of_decide_eq_true this.2
  ·have := rawVw_len hr T.l (List.mem_map_of_mem hT)
   have h3 := SlB.len (hv.sl2.ok T hT)
   omega
end Go.Proofs.YtbfepgjeecndiaaGreat

/- slices.Grow of nothing, and slices.Concat of a list and an empty one, at signed votes and at texts. -/
namespace Go.Proofs.YtbfepgjeecndiaaGreat
set_option maxRecDepth 100000
set_option maxHeartbeats 8000000
open Go.RowKit
set_option linter.unusedVariables false
set_option linter.unusedSimpArgs false
attribute [local go_sem ↓] Go.wp_at_zero Go.wp_at_succ
theorem run_growE {P : Program} {t e : TypeId} {z : Value} {size bytes : Nat} (E : Elem P t e z size bytes) (tn : TypeId) (htn : P.underlying tn = some (.int .i64)) (w : World) (n : Nat) (h0 : 0 < n) (hb : n * bytes ≤ 140737488355328) (hn : n ≤ 1000000000000) :
  ∃ G cur, n ≤ G ∧ G ≤ maxLen ∧ cur.size = G * size ∧ ∀ ty, (Builtin.append_ #[t, tn] ty #[.slice none 0 0, .int .i64 n]).run P w = .ok (.slice (some ⟨w.heap.size, 0, none⟩) n G) (w.drew.alloc (.cells cur e)) := by
 obtain ⟨i, hi, hz, hsz, hby⟩ := E.get
 have hold : (Builtin.firstCells i.size 0 (.slice none 0 0)).run P w.drew = .ok ([] : List Value).toArray w.drew := run_firstCells_none w.drew i.size 0 0 0
 have h := fun ty => Lib.run_append_grow_zeros w t tn ty e i z .i64 .i64 E.ut htn hi hz none 0 0 [] hold n h0 (by rw [hsz]; exact E.pos) (by omega) (by omega) (by rw [hby]; omega) (growslice_fits (by omega) (by rw [hby, Nat.zero_add]; exact hb))
 have hg := grownCap_ge w (0 + n) 0 e
 have hm := grownCap_le_maxLen w (0 + n) 0 e (by simp only [maxLen]; omega)
 simp only [Nat.zero_add] at h hg hm
 refine ⟨_, _, hg, hm, ?_, h⟩
 simp only [Array.size_append, size_zeroCells, E.zs, List.size_toArray, List.length_nil, Nat.zero_add]
 rw [← Nat.add_mul]; congr 1; omega
theorem growSg_any (n : Nat) (w : World) (hn : n ≤ 1000000000) : Calls Tryz.prog 88 #[.slice none 0 0, .int .i64 n] w fun e w' => ∃ A' c', e = .returned (.slice A' 0 c') ∧ w'.ownsRow w.heap.size 48 23 (.slice A' 0 c') 0 [] ∧ Ext w w' := by
 rcases Nat.eq_zero_or_pos n with rfl | hpos
 ·go_enter Tryz.func88, Tryz.ntmps88
  go_wp2_with fail
  go_ret
  exact ⟨_, _, rfl, World.ownsRow_nil _ _ _ _, Ext.refl _⟩
 ·obtain ⟨G, cur, h1, h2, h3, hrz⟩ := run_growE sgE 3 Tryz.underlying3 w n hpos (by omega) (by omega)
  have HC := Lib.hid h3
  have i1 : ¬ ((n : Int) < 0) := by omega
  have i2 : (n : Int) > 0 := by omega
  have i3 : (0 : Int) < (n : Int) := by omega
  have g1 : G ≤ 9223372036854775807 := by simp only [maxLen] at h2; omega
  have HG := Lib.hid h2
  clear h3 h2
  go_enter Tryz.func88, Tryz.ntmps88
  go_wp2_with (at_builtin; refine Lib.wpList_append_run _ rfl _ _ _ _ rfl _ _ rfl rfl _ _ (hrz _) ?_)
  go_ret
  refine ⟨_, _, rfl, ?_, (Ext.refl w).drew'.trans ((Ext.refl w.drew).alloc' _)⟩
  have hd : w.drew.heap.size = w.heap.size := rfl
  exact World.ownsRow_made w.drew cur G (by rw [hd]; exact Nat.le_refl _) HG.out HC.out
theorem concatSg_any (A : Option Addr) (n c : Nat) (cs : List Value) (B : Nat) (w : World) (hr : Rd w A cs) (hl : cs.length = n * 23) (h1 : ∀ u ∈ cs, u.oneCell' = true) (hn : n ≤ 1000000000) (hc : c ≤ 9223372036854775807) (hb : Blk w B 22 #[.slice A n c, .slice none 0 0]) :
  Calls Tryz.prog 58 #[.slice (some ⟨B, 0, none⟩) 2 2] w fun e w' => ∃ A' c', e = .returned (.slice A' n c') ∧ w'.ownsRow w.heap.size 48 23 (.slice A' n c') n cs ∧ Ext w w' := by
 have HB := Lib.hid hb
 have HR := Lib.hid hr
 have HL := Lib.hid hl
 have H1 := Lib.hid h1
 have c0 : w.cell? ⟨B, 0, none⟩ = some (.slice A n c) := hb.cell 0
 have c1 : w.cell? ⟨B, 1, none⟩ = some (.slice none 0 0) := hb.cell 1
 clear hb hr hl h1
 go_enter Tryz.func58, Tryz.ntmps58
 go_wp2_with fail
 go_loopw [11, 3] (fun vi vs wr => ∃ (k s : Nat), k ≤ 2 ∧ vi = .int .i64 (k : Int) ∧ vs = .int .i64 (s : Int) ∧ s ≤ n ∧ Hid ((k = 0 ∧ s = 0) ∨ (0 < k ∧ s = n)) ∧ w = wr) (fun i _ _ => 2 - (intOf i).toNat)
 case atStart => exact ⟨0, 0, by omega, rfl, rfl, by omega, Lib.hid (.inl ⟨rfl, rfl⟩), rfl⟩
 case round =>
  obtain ⟨k, s, hk, rfl, rfl, hsn, HK, rfl⟩ := hrel
  rcases (by omega : k = 0 ∨ k = 1 ∨ k = 2) with rfl | rfl | rfl
  ·obtain rfl : s = 0 := by have := HK.out; omega
   have i1 : ¬ (n : Int) < 0 := by omega
   go_wp2_with fail
   go_roundw
   case rel => exact ⟨1, n, by omega, rfl, by go_num, Nat.le_refl _, Lib.hid (.inr ⟨by omega, rfl⟩), by first | rfl | trivial⟩
   case measure => simp [intOf]
  ·obtain rfl : s = n := by have := HK.out; omega
   have i1 : ¬ (s : Int) < 0 := by omega
   go_wp2_with fail
   go_roundw
   case rel => exact ⟨2, s, by omega, rfl, by go_num, Nat.le_refl _, Lib.hid (.inr ⟨by omega, rfl⟩), by first | rfl | trivial⟩
   case measure => simp [intOf]
  ·obtain rfl : s = n := by have := HK.out; omega
   have HG := Lib.hid (growSg_any s w hn)
   clear c0 c1
   go_wp2_with fail
   refine HG.out.mono ?_
   rintro e w2 ⟨A2, c2, rfl, ho2, he2⟩
   have HO2 := Lib.hid ho2
   have HE2 := Lib.hid he2
   clear ho2 he2 HG
   go_wp2_with fail
   go_loopw [27, 6] (fun vi vs wr => ∃ (k m : Nat) (A3 : Option Addr) (c3 : Nat) (xs : List Value), k ≤ 2 ∧ vi = .int .i64 (k : Int) ∧ vs = .slice A3 m c3 ∧ m ≤ s ∧ Hid ((k = 0 ∧ m = 0 ∧ xs = []) ∨ (0 < k ∧ m = s ∧ xs = cs)) ∧ Hid (wr.ownsRow w.heap.size 48 23 (.slice A3 m c3) m xs) ∧ Hid (Ext w wr)) (fun i _ _ => 2 - (intOf i).toNat)
   case atStart => exact ⟨0, 0, A2, c2, [], by omega, rfl, rfl, by omega, Lib.hid (.inl ⟨rfl, rfl, rfl⟩), HO2, HE2⟩
   case round =>
    clear HO2 HE2
    obtain ⟨k, m, A3, c3, xs, hk, rfl, rfl, hms, HK, HO, HE⟩ := hrel
    have HB2 := Lib.hid (HB.out.ext HE.out)
    have c0 : _ = some (Value.slice A s c) := HB2.out.cell 0
    have c1 : _ = some (Value.slice none 0 0) := HB2.out.cell 1
    rcases (by omega : k = 0 ∨ k = 1 ∨ k = 2) with rfl | rfl | rfl
    ·have HX := Lib.hid (show m = 0 ∧ xs = [] from by rcases HK.out with ⟨_, h⟩ | ⟨h, _⟩; exact h; omega)
     obtain rfl := HX.out.1
     obtain rfl := HX.out.2
     clear HX HK
     go_wp2_with (at_builtin; go_must (refine wpList_app sgE rfl (.tmp 31) (.tmp 32) rfl w.heap.size A3 0 c3 [] rfl ?r0 A s c cs rfl ?r1 HL.out H1.out (by omega) (by omega) ?b1 w ?w1 ?_))
     case r0 => exact HO.out
     case r1 => exact HR.out.ext HE.out
     case b1 => exact HE.out.size
     case w1 => exact HE.out
     intro A4 c4 w4 hO4 hE4 _
     have HO4 := Lib.hid (show w4.ownsRow w.heap.size 48 23 (.slice A4 s c4) s cs from by first | exact hO4 | (rw [Nat.zero_add, List.nil_append] at hO4; exact hO4))
     have HE4 := Lib.hid hE4
     clear hO4 hE4 HO HE HB2 c0 c1
     go_wp2_with fail
     go_roundw
     case rel => exact ⟨1, s, A4, c4, cs, by omega, by go_num, by simp, Nat.le_refl _, Lib.hid (.inr ⟨by omega, rfl, rfl⟩), HO4, HE4⟩
     case measure => simp [intOf]
    ·have HX := Lib.hid (show m = s ∧ xs = cs from by rcases HK.out with ⟨h, _⟩ | ⟨_, h⟩; omega; exact h)
     obtain rfl := HX.out.1
     obtain rfl := HX.out.2
     clear HX HK
     go_wp2_with (at_builtin; go_must (refine wpList_app sgE rfl (.tmp 31) (.tmp 32) rfl w.heap.size A3 m c3 xs rfl ?r0 none 0 0 [] rfl ?r1 (by simp) (fun u hu => by cases hu) (by omega) (by omega) ?b1 w ?w1 ?_))
     case r0 => exact HO.out
     case r1 => exact Rd.nil
     case b1 => exact HE.out.size
     case w1 => exact HE.out
     intro A4 c4 w4 hO4 hE4 _
     have HO4 := Lib.hid (show w4.ownsRow w.heap.size 48 23 (.slice A4 m c4) m xs from by first | exact hO4 | (rw [Nat.add_zero, List.append_nil] at hO4; exact hO4))
     have HE4 := Lib.hid hE4
     clear hO4 hE4 HO HE HB2 c0 c1
     go_wp2_with fail
     go_roundw
     case rel => exact ⟨2, m, A4, c4, xs, by omega, by go_num, by simp, Nat.le_refl _, Lib.hid (.inr ⟨by omega, rfl, rfl⟩), HO4, HE4⟩
     case measure => simp [intOf]
    ·have HX := Lib.hid (show m = s ∧ xs = cs from by rcases HK.out with ⟨h, _⟩ | ⟨_, h⟩; omega; exact h)
     obtain rfl := HX.out.1
     obtain rfl := HX.out.2
     clear HX HK
     go_wp2_with fail
     go_ret
     exact ⟨A3, c3, rfl, HO.out, HE.out⟩
theorem growTe_any (n : Nat) (w : World) (hn : n ≤ 1000000000) : Calls Tryz.prog 89 #[.slice none 0 0, .int .i64 n] w fun e w' => ∃ A' c', e = .returned (.slice A' 0 c') ∧ w'.ownsRow w.heap.size 28 1 (.slice A' 0 c') 0 [] ∧ Ext w w' := by
 rcases Nat.eq_zero_or_pos n with rfl | hpos
 ·go_enter Tryz.func89, Tryz.ntmps89
  go_wp2_with fail
  go_ret
  exact ⟨_, _, rfl, World.ownsRow_nil _ _ _ _, Ext.refl _⟩
 ·obtain ⟨G, cur, h1, h2, h3, hrz⟩ := run_growE teE 3 Tryz.underlying3 w n hpos (by omega) (by omega)
  have HC := Lib.hid h3
  have i1 : ¬ ((n : Int) < 0) := by omega
  have i2 : (n : Int) > 0 := by omega
  have i3 : (0 : Int) < (n : Int) := by omega
  have g1 : G ≤ 9223372036854775807 := by simp only [maxLen] at h2; omega
  have HG := Lib.hid h2
  clear h3 h2
  go_enter Tryz.func89, Tryz.ntmps89
  go_wp2_with (at_builtin; refine Lib.wpList_append_run _ rfl _ _ _ _ rfl _ _ rfl rfl _ _ (hrz _) ?_)
  go_ret
  refine ⟨_, _, rfl, ?_, (Ext.refl w).drew'.trans ((Ext.refl w.drew).alloc' _)⟩
  have hd : w.drew.heap.size = w.heap.size := rfl
  exact World.ownsRow_made w.drew cur G (by rw [hd]; exact Nat.le_refl _) HG.out HC.out
theorem concatTe_any (A : Option Addr) (n c : Nat) (cs : List Value) (B : Nat) (w : World) (hr : Rd w A cs) (hl : cs.length = n * 1) (h1 : ∀ u ∈ cs, u.oneCell' = true) (hn : n ≤ 1000000000) (hc : c ≤ 9223372036854775807) (hb : Blk w B 23 #[.slice A n c, .slice none 0 0]) :
  Calls Tryz.prog 59 #[.slice (some ⟨B, 0, none⟩) 2 2] w fun e w' => ∃ A' c', e = .returned (.slice A' n c') ∧ w'.ownsRow w.heap.size 28 1 (.slice A' n c') n cs ∧ Ext w w' := by
 have HB := Lib.hid hb
 have HR := Lib.hid hr
 have HL := Lib.hid hl
 have H1 := Lib.hid h1
 have c0 : w.cell? ⟨B, 0, none⟩ = some (.slice A n c) := hb.cell 0
 have c1 : w.cell? ⟨B, 1, none⟩ = some (.slice none 0 0) := hb.cell 1
 clear hb hr hl h1
 go_enter Tryz.func59, Tryz.ntmps59
 go_wp2_with fail
 go_loopw [11, 3] (fun vi vs wr => ∃ (k s : Nat), k ≤ 2 ∧ vi = .int .i64 (k : Int) ∧ vs = .int .i64 (s : Int) ∧ s ≤ n ∧ Hid ((k = 0 ∧ s = 0) ∨ (0 < k ∧ s = n)) ∧ w = wr) (fun i _ _ => 2 - (intOf i).toNat)
 case atStart => exact ⟨0, 0, by omega, rfl, rfl, by omega, Lib.hid (.inl ⟨rfl, rfl⟩), rfl⟩
 case round =>
  obtain ⟨k, s, hk, rfl, rfl, hsn, HK, rfl⟩ := hrel
  rcases (by omega : k = 0 ∨ k = 1 ∨ k = 2) with rfl | rfl | rfl
  ·obtain rfl : s = 0 := by have := HK.out; omega
   have i1 : ¬ (n : Int) < 0 := by omega
   go_wp2_with fail
   go_roundw
   case rel => exact ⟨1, n, by omega, rfl, by go_num, Nat.le_refl _, Lib.hid (.inr ⟨by omega, rfl⟩), by first | rfl | trivial⟩
   case measure => simp [intOf]
  ·obtain rfl : s = n := by have := HK.out; omega
   have i1 : ¬ (s : Int) < 0 := by omega
   go_wp2_with fail
   go_roundw
   case rel => exact ⟨2, s, by omega, rfl, by go_num, Nat.le_refl _, Lib.hid (.inr ⟨by omega, rfl⟩), by first | rfl | trivial⟩
   case measure => simp [intOf]
  ·obtain rfl : s = n := by have := HK.out; omega
   have HG := Lib.hid (growTe_any s w hn)
   clear c0 c1
   go_wp2_with fail
   refine HG.out.mono ?_
   rintro e w2 ⟨A2, c2, rfl, ho2, he2⟩
   have HO2 := Lib.hid ho2
   have HE2 := Lib.hid he2
   clear ho2 he2 HG
   go_wp2_with fail
   go_loopw [27, 6] (fun vi vs wr => ∃ (k m : Nat) (A3 : Option Addr) (c3 : Nat) (xs : List Value), k ≤ 2 ∧ vi = .int .i64 (k : Int) ∧ vs = .slice A3 m c3 ∧ m ≤ s ∧ Hid ((k = 0 ∧ m = 0 ∧ xs = []) ∨ (0 < k ∧ m = s ∧ xs = cs)) ∧ Hid (wr.ownsRow w.heap.size 28 1 (.slice A3 m c3) m xs) ∧ Hid (Ext w wr)) (fun i _ _ => 2 - (intOf i).toNat)
   case atStart => exact ⟨0, 0, A2, c2, [], by omega, rfl, rfl, by omega, Lib.hid (.inl ⟨rfl, rfl, rfl⟩), HO2, HE2⟩
   case round =>
    clear HO2 HE2
    obtain ⟨k, m, A3, c3, xs, hk, rfl, rfl, hms, HK, HO, HE⟩ := hrel
    have HB2 := Lib.hid (HB.out.ext HE.out)
    have c0 : _ = some (Value.slice A s c) := HB2.out.cell 0
    have c1 : _ = some (Value.slice none 0 0) := HB2.out.cell 1
    rcases (by omega : k = 0 ∨ k = 1 ∨ k = 2) with rfl | rfl | rfl
    ·have HX := Lib.hid (show m = 0 ∧ xs = [] from by rcases HK.out with ⟨_, h⟩ | ⟨h, _⟩; exact h; omega)
     obtain rfl := HX.out.1
     obtain rfl := HX.out.2
     clear HX HK
     go_wp2_with (at_builtin; go_must (refine wpList_app teE rfl (.tmp 31) (.tmp 32) rfl w.heap.size A3 0 c3 [] rfl ?r0 A s c cs rfl ?r1 HL.out H1.out (by omega) (by omega) ?b1 w ?w1 ?_))
     case r0 => exact HO.out
     case r1 => exact HR.out.ext HE.out
     case b1 => exact HE.out.size
     case w1 => exact HE.out
     intro A4 c4 w4 hO4 hE4 _
     have HO4 := Lib.hid (show w4.ownsRow w.heap.size 28 1 (.slice A4 s c4) s cs from by first | exact hO4 | (rw [Nat.zero_add, List.nil_append] at hO4; exact hO4))
     have HE4 := Lib.hid hE4
     clear hO4 hE4 HO HE HB2 c0 c1
     go_wp2_with fail
     go_roundw
     case rel => exact ⟨1, s, A4, c4, cs, by omega, by go_num, by simp, Nat.le_refl _, Lib.hid (.inr ⟨by omega, rfl, rfl⟩), HO4, HE4⟩
     case measure => simp [intOf]
    ·have HX := Lib.hid (show m = s ∧ xs = cs from by rcases HK.out with ⟨h, _⟩ | ⟨_, h⟩; omega; exact h)
     obtain rfl := HX.out.1
     obtain rfl := HX.out.2
     clear HX HK
     go_wp2_with (at_builtin; go_must (refine wpList_app teE rfl (.tmp 31) (.tmp 32) rfl w.heap.size A3 m c3 xs rfl ?r0 none 0 0 [] rfl ?r1 (by simp) (fun u hu => by cases hu) (by omega) (by omega) ?b1 w ?w1 ?_))
     case r0 => exact HO.out
     case r1 => exact Rd.nil
     case b1 => exact HE.out.size
     case w1 => exact HE.out
     intro A4 c4 w4 hO4 hE4 _
     have HO4 := Lib.hid (show w4.ownsRow w.heap.size 28 1 (.slice A4 m c4) m xs from by first | exact hO4 | (rw [Nat.add_zero, List.append_nil] at hO4; exact hO4))
     have HE4 := Lib.hid hE4
     clear hO4 hE4 HO HE HB2 c0 c1
     go_wp2_with fail
     go_roundw
     case rel => exact ⟨2, m, A4, c4, xs, by omega, by go_num, by simp, Nat.le_refl _, Lib.hid (.inr ⟨by omega, rfl, rfl⟩), HO4, HE4⟩
     case measure => simp [intOf]
    ·have HX := Lib.hid (show m = s ∧ xs = cs from by rcases HK.out with ⟨h, _⟩ | ⟨_, h⟩; omega; exact h)
     obtain rfl := HX.out.1
     obtain rfl := HX.out.2
     clear HX HK
     go_wp2_with fail
     go_ret
     exact ⟨A3, c3, rfl, HO.out, HE.out⟩
end Go.Proofs.YtbfepgjeecndiaaGreat
