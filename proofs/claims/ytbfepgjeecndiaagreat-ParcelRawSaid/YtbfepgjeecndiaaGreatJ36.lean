/- slices.Grow of nothing, and slices.Concat of a list and an empty one, at signed votes and at texts. -/
import Derived.Lib.AppendZerosOnto
import Derived.Lib.SliceRun
import Derived.Test.YtbfepgjeecndiaaGreatJ28
namespace Go.Proofs.YtbfepgjeecndiaaGreat
set_option maxRecDepth 100000
set_option maxHeartbeats 8000000
open Go.RowKit
set_option linter.unusedVariables false
set_option linter.unusedSimpArgs false
attribute [local go_sem ↓] Go.wp_at_zero Go.wp_at_succ
theorem run_growE {P : Program} {t e : TypeId} {z : Value} {size bytes : Nat} (E : Elem P t e z size bytes) (tn : TypeId) (htn : P.underlying tn = some (.int .i64)) (w : World) (n : Nat) (h0 : 0 < n) (hb : n * bytes ≤ 140737488355328) (hn : n ≤ 1000000000000) :
  ∃ G cur, n ≤ G ∧ G ≤ maxLen ∧ cur.size = G * size ∧ ∀ ty, (Builtin.append_ #[t, tn] ty #[.slice none 0 0, .int .i64 n]).run P w = .ok (.slice (some ⟨w.heap.size, 0, none⟩) n G) (w.drew.alloc (.cells cur e)) := by
 obtain ⟨i, hi, hz, hsz, hby⟩ := E.get
 have hold : (Builtin.firstCells i.size 0 (.slice none 0 0)).run P w.drew = .ok ([] : List Value).toArray w.drew := run_firstCells_none w.drew i.size 0 0 0
 have h := fun ty => Lib.run_append_grow_zeros w t tn ty e i z .i64 .i64 E.ut htn hi hz none 0 0 [] hold n h0 (by rw [hsz]; exact E.pos) (by omega) (by omega) (by rw [hby]; omega) (growslice_fits (by omega) (by rw [hby, Nat.zero_add]; exact hb))
 have hg := grownCap_ge w (0 + n) 0 e
 have hm := grownCap_le_maxLen w (0 + n) 0 e (by simp only [maxLen]; omega)
 simp only [Nat.zero_add] at h hg hm
 refine ⟨_, _, hg, hm, ?_, h⟩
 simp only [Array.size_append, size_zeroCells, E.zs, List.size_toArray, List.length_nil, Nat.zero_add]
 rw [← Nat.add_mul]; congr 1; omega
theorem growSg_any (n : Nat) (w : World) (hn : n ≤ 1000000000) : Calls Tryz.prog 88 #[.slice none 0 0, .int .i64 n] w fun e w' => ∃ A' c', e = .returned (.slice A' 0 c') ∧ w'.ownsRow w.heap.size 48 23 (.slice A' 0 c') 0 [] ∧ Ext w w' := by
 rcases Nat.eq_zero_or_pos n with rfl | hpos
 ·go_enter Tryz.func88, Tryz.ntmps88
  go_wp2_with fail
  go_ret
  exact ⟨_, _, rfl, World.ownsRow_nil _ _ _ _, Ext.refl _⟩
 ·obtain ⟨G, cur, h1, h2, h3, hrz⟩ := run_growE sgE 3 Tryz.underlying3 w n hpos (by omega) (by omega)
  have HC := Lib.hid h3
  have i1 : ¬ ((n : Int) < 0) := by omega
  have i2 : (n : Int) > 0 := by omega
  have i3 : (0 : Int) < (n : Int) := by omega
  have g1 : G ≤ 9223372036854775807 := by simp only [maxLen] at h2; omega
  have HG := Lib.hid h2
  clear h3 h2
  go_enter Tryz.func88, Tryz.ntmps88
  go_wp2_with (at_builtin; refine Lib.wpList_append_run _ rfl _ _ _ _ rfl _ _ rfl rfl _ _ (hrz _) ?_)
  go_ret
  refine ⟨_, _, rfl, ?_, (Ext.refl w).drew'.trans ((Ext.refl w.drew).alloc' _)⟩
  have hd : w.drew.heap.size = w.heap.size := rfl
  exact World.ownsRow_made w.drew cur G (by rw [hd]; exact Nat.le_refl _) HG.out HC.out
theorem concatSg_any (A : Option Addr) (n c : Nat) (cs : List Value) (B : Nat) (w : World) (hr : Rd w A cs) (hl : cs.length = n * 23) (h1 : ∀ u ∈ cs, u.oneCell' = true) (hn : n ≤ 1000000000) (hc : c ≤ 9223372036854775807) (hb : Blk w B 22 #[.slice A n c, .slice none 0 0]) :
  Calls Tryz.prog 58 #[.slice (some ⟨B, 0, none⟩) 2 2] w fun e w' => ∃ A' c', e = .returned (.slice A' n c') ∧ w'.ownsRow w.heap.size 48 23 (.slice A' n c') n cs ∧ Ext w w' := by
 have HB := Lib.hid hb
 have HR := Lib.hid hr
 have HL := Lib.hid hl
 have H1 := Lib.hid h1
 have c0 : w.cell? ⟨B, 0, none⟩ = some (.slice A n c) := hb.cell 0
 have c1 : w.cell? ⟨B, 1, none⟩ = some (.slice none 0 0) := hb.cell 1
 clear hb hr hl h1
 go_enter Tryz.func58, Tryz.ntmps58
 go_wp2_with fail
 go_loopw [11, 3] (fun vi vs wr => ∃ (k s : Nat), k ≤ 2 ∧ vi = .int .i64 (k : Int) ∧ vs = .int .i64 (s : Int) ∧ s ≤ n ∧ Hid ((k = 0 ∧ s = 0) ∨ (0 < k ∧ s = n)) ∧ w = wr) (fun i _ _ => 2 - (intOf i).toNat)
 case atStart => exact ⟨0, 0, by omega, rfl, rfl, by omega, Lib.hid (.inl ⟨rfl, rfl⟩), rfl⟩
 case round =>
  obtain ⟨k, s, hk, rfl, rfl, hsn, HK, rfl⟩ := hrel
  rcases (by omega : k = 0 ∨ k = 1 ∨ k = 2) with rfl | rfl | rfl
  ·obtain rfl : s = 0 := by have := HK.out; omega
   have i1 : ¬ (n : Int) < 0 := by omega
   go_wp2_with fail
   go_roundw
   case rel => exact ⟨1, n, by omega, rfl, by go_num, Nat.le_refl _, Lib.hid (.inr ⟨by omega, rfl⟩), by first | rfl | trivial⟩
   case measure => simp [intOf]
  ·obtain rfl : s = n := by have := HK.out; omega
   have i1 : ¬ (s : Int) < 0 := by omega
   go_wp2_with fail
   go_roundw
   case rel => exact ⟨2, s, by omega, rfl, by go_num, Nat.le_refl _, Lib.hid (.inr ⟨by omega, rfl⟩), by first | rfl | trivial⟩
   case measure => simp [intOf]
  ·obtain rfl : s = n := by have := HK.out; omega
   have HG := Lib.hid (growSg_any s w hn)
   clear c0 c1
   go_wp2_with fail
   refine HG.out.mono ?_
   rintro e w2 ⟨A2, c2, rfl, ho2, he2⟩
   have HO2 := Lib.hid ho2
   have HE2 := Lib.hid he2
   clear ho2 he2 HG
   go_wp2_with fail
   go_loopw [27, 6] (fun vi vs wr => ∃ (k m : Nat) (A3 : Option Addr) (c3 : Nat) (xs : List Value), k ≤ 2 ∧ vi = .int .i64 (k : Int) ∧ vs = .slice A3 m c3 ∧ m ≤ s ∧ Hid ((k = 0 ∧ m = 0 ∧ xs = []) ∨ (0 < k ∧ m = s ∧ xs = cs)) ∧ Hid (wr.ownsRow w.heap.size 48 23 (.slice A3 m c3) m xs) ∧ Hid (Ext w wr)) (fun i _ _ => 2 - (intOf i).toNat)
   case atStart => exact ⟨0, 0, A2, c2, [], by omega, rfl, rfl, by omega, Lib.hid (.inl ⟨rfl, rfl, rfl⟩), HO2, HE2⟩
   case round =>
    clear HO2 HE2
    obtain ⟨k, m, A3, c3, xs, hk, rfl, rfl, hms, HK, HO, HE⟩ := hrel
    have HB2 := Lib.hid (HB.out.ext HE.out)
    have c0 : _ = some (Value.slice A s c) := HB2.out.cell 0
    have c1 : _ = some (Value.slice none 0 0) := HB2.out.cell 1
    rcases (by omega : k = 0 ∨ k = 1 ∨ k = 2) with rfl | rfl | rfl
    ·have HX := Lib.hid (show m = 0 ∧ xs = [] from by rcases HK.out with ⟨_, h⟩ | ⟨h, _⟩; exact h; omega)
     obtain rfl := HX.out.1
     obtain rfl := HX.out.2
     clear HX HK
     go_wp2_with (at_builtin; go_must (refine wpList_app sgE rfl (.tmp 31) (.tmp 32) rfl w.heap.size A3 0 c3 [] rfl ?r0 A s c cs rfl ?r1 HL.out H1.out (by omega) (by omega) ?b1 w ?w1 ?_))
     case r0 => exact HO.out
     case r1 => exact HR.out.ext HE.out
     case b1 => exact HE.out.size
     case w1 => exact HE.out
     intro A4 c4 w4 hO4 hE4 _
     have HO4 := Lib.hid (show w4.ownsRow w.heap.size 48 23 (.slice A4 s c4) s cs from by first | exact hO4 | (rw [Nat.zero_add, List.nil_append] at hO4; exact hO4))
     have HE4 := Lib.hid hE4
     clear hO4 hE4 HO HE HB2 c0 c1
     go_wp2_with fail
     go_roundw
     case rel => exact ⟨1, s, A4, c4, cs, by omega, by go_num, by simp, Nat.le_refl _, Lib.hid (.inr ⟨by omega, rfl, rfl⟩), HO4, HE4⟩
     case measure => simp [intOf]
    ·have HX := Lib.hid (show m = s ∧ xs = cs from by rcases HK.out with ⟨h, _⟩ | ⟨_, h⟩; omega; exact h)
     obtain rfl := HX.out.1
     obtain rfl := HX.out.2
     clear HX HK
     go_wp2_with (at_builtin; go_must (refine wpList_app sgE rfl (.tmp 31) (.tmp 32) rfl w.heap.size A3 m c3 xs rfl ?r0 none 0 0 [] rfl ?r1 (by simp) (fun u hu => by cases hu) (by omega) (by omega) ?b1 w ?w1 ?_))
     case r0 => exact HO.out
     case r1 => exact Rd.nil
     case b1 => exact HE.out.size
     case w1 => exact HE.out
     intro A4 c4 w4 hO4 hE4 _
     have HO4 := Lib.hid (show w4.ownsRow w.heap.size 48 23 (.slice A4 m c4) m xs from by first | exact hO4 | (rw [Nat.add_zero, List.append_nil] at hO4; exact hO4))
     have HE4 := Lib.hid hE4
     clear hO4 hE4 HO HE HB2 c0 c1
     go_wp2_with fail
     go_roundw
     case rel => exact ⟨2, m, A4, c4, xs, by omega, by go_num, by simp, Nat.le_refl _, Lib.hid (.inr ⟨by omega, rfl, rfl⟩), HO4, HE4⟩
     case measure => simp [intOf]
    ·have HX := Lib.hid (show m = s ∧ xs = cs from by rcases HK.out with ⟨h, _⟩ | ⟨_, h⟩; omega; exact h)
     obtain rfl := HX.out.1
     obtain rfl := HX.out.2
     clear HX HK
     go_wp2_with fail
     go_ret
     exact ⟨A3, c3, rfl, HO.out, HE.out⟩
theorem growTe_any (n : Nat) (w : World) (hn : n ≤ 1000000000) : Calls Tryz.prog 89 #[.slice none 0 0, .int .i64 n] w fun e w' => ∃ A' c', e = .returned (.slice A' 0 c') ∧ w'.ownsRow w.heap.size 28 1 (.slice A' 0 c') 0 [] ∧ Ext w w' := by
 rcases Nat.eq_zero_or_pos n with rfl | hpos
 ·go_enter Tryz.func89, Tryz.ntmps89
  go_wp2_with fail
  go_ret
  exact ⟨_, _, rfl, World.ownsRow_nil _ _ _ _, Ext.refl _⟩
 ·obtain ⟨G, cur, h1, h2, h3, hrz⟩ := run_growE teE 3 Tryz.underlying3 w n hpos (by omega) (by omega)
  have HC := Lib.hid h3
  have i1 : ¬ ((n : Int) < 0) := by omega
  have i2 : (n : Int) > 0 := by omega
  have i3 : (0 : Int) < (n : Int) := by omega
  have g1 : G ≤ 9223372036854775807 := by simp only [maxLen] at h2; omega
  have HG := Lib.hid h2
  clear h3 h2
  go_enter Tryz.func89, Tryz.ntmps89
  go_wp2_with (at_builtin; refine Lib.wpList_append_run _ rfl _ _ _ _ rfl _ _ rfl rfl _ _ (hrz _) ?_)
  go_ret
  refine ⟨_, _, rfl, ?_, (Ext.refl w).drew'.trans ((Ext.refl w.drew).alloc' _)⟩
  have hd : w.drew.heap.size = w.heap.size := rfl
  exact World.ownsRow_made w.drew cur G (by rw [hd]; exact Nat.le_refl _) HG.out HC.out
theorem concatTe_any (A : Option Addr) (n c : Nat) (cs : List Value) (B : Nat) (w : World) (hr : Rd w A cs) (hl : cs.length = n * 1) (h1 : ∀ u ∈ cs, u.oneCell' = true) (hn : n ≤ 1000000000) (hc : c ≤ 9223372036854775807) (hb : Blk w B 23 #[.slice A n c, .slice none 0 0]) :
  Calls Tryz.prog 59 #[.slice (some ⟨B, 0, none⟩) 2 2] w fun e w' => ∃ A' c', e = .returned (.slice A' n c') ∧ w'.ownsRow w.heap.size 28 1 (.slice A' n c') n cs ∧ Ext w w' := by
 have HB := Lib.hid hb
 have HR := Lib.hid hr
 have HL := Lib.hid hl
 have H1 := Lib.hid h1
 have c0 : w.cell? ⟨B, 0, none⟩ = some (.slice A n c) := hb.cell 0
 have c1 : w.cell? ⟨B, 1, none⟩ = some (.slice none 0 0) := hb.cell 1
 clear hb hr hl h1
 go_enter Tryz.func59, Tryz.ntmps59
 go_wp2_with fail
 go_loopw [11, 3] (fun vi vs wr => ∃ (k s : Nat), k ≤ 2 ∧ vi = .int .i64 (k : Int) ∧ vs = .int .i64 (s : Int) ∧ s ≤ n ∧ Hid ((k = 0 ∧ s = 0) ∨ (0 < k ∧ s = n)) ∧ w = wr) (fun i _ _ => 2 - (intOf i).toNat)
 case atStart => exact ⟨0, 0, by omega, rfl, rfl, by omega, Lib.hid (.inl ⟨rfl, rfl⟩), rfl⟩
 case round =>
  obtain ⟨k, s, hk, rfl, rfl, hsn, HK, rfl⟩ := hrel
  rcases (by omega : k = 0 ∨ k = 1 ∨ k = 2) with rfl | rfl | rfl
  ·obtain rfl : s = 0 := by have := HK.out; omega
   have i1 : ¬ (n : Int) < 0 := by omega
   go_wp2_with fail
   go_roundw
   case rel => exact ⟨1, n, by omega, rfl, by go_num, Nat.le_refl _, Lib.hid (.inr ⟨by omega, rfl⟩), by first | rfl | trivial⟩
   case measure => simp [intOf]
  ·obtain rfl : s = n := by have := HK.out; omega
   have i1 : ¬ (s : Int) < 0 := by omega
   go_wp2_with fail
   go_roundw
   case rel => exact ⟨2, s, by omega, rfl, by go_num, Nat.le_refl _, Lib.hid (.inr ⟨by omega, rfl⟩), by first | rfl | trivial⟩
   case measure => simp [intOf]
  ·obtain rfl : s = n := by have := HK.out; omega
   have HG := Lib.hid (growTe_any s w hn)
   clear c0 c1
   go_wp2_with fail
   refine HG.out.mono ?_
   rintro e w2 ⟨A2, c2, rfl, ho2, he2⟩
   have HO2 := Lib.hid ho2
   have HE2 := Lib.hid he2
   clear ho2 he2 HG
   go_wp2_with fail
   go_loopw [27, 6] (fun vi vs wr => ∃ (k m : Nat) (A3 : Option Addr) (c3 : Nat) (xs : List Value), k ≤ 2 ∧ vi = .int .i64 (k : Int) ∧ vs = .slice A3 m c3 ∧ m ≤ s ∧ Hid ((k = 0 ∧ m = 0 ∧ xs = []) ∨ (0 < k ∧ m = s ∧ xs = cs)) ∧ Hid (wr.ownsRow w.heap.size 28 1 (.slice A3 m c3) m xs) ∧ Hid (Ext w wr)) (fun i _ _ => 2 - (intOf i).toNat)
   case atStart => exact ⟨0, 0, A2, c2, [], by omega, rfl, rfl, by omega, Lib.hid (.inl ⟨rfl, rfl, rfl⟩), HO2, HE2⟩
   case round =>
    clear HO2 HE2
    obtain ⟨k, m, A3, c3, xs, hk, rfl, rfl, hms, HK, HO, HE⟩ := hrel
    have HB2 := Lib.hid (HB.out.ext HE.out)
    have c0 : _ = some (Value.slice A s c) := HB2.out.cell 0
    have c1 : _ = some (Value.slice none 0 0) := HB2.out.cell 1
    rcases (by omega : k = 0 ∨ k = 1 ∨ k = 2) with rfl | rfl | rfl
    ·have HX := Lib.hid (show m = 0 ∧ xs = [] from by rcases HK.out with ⟨_, h⟩ | ⟨h, _⟩; exact h; omega)
     obtain rfl := HX.out.1
     obtain rfl := HX.out.2
     clear HX HK
     go_wp2_with (at_builtin; go_must (refine wpList_app teE rfl (.tmp 31) (.tmp 32) rfl w.heap.size A3 0 c3 [] rfl ?r0 A s c cs rfl ?r1 HL.out H1.out (by omega) (by omega) ?b1 w ?w1 ?_))
     case r0 => exact HO.out
     case r1 => exact HR.out.ext HE.out
     case b1 => exact HE.out.size
     case w1 => exact HE.out
     intro A4 c4 w4 hO4 hE4 _
     have HO4 := Lib.hid (show w4.ownsRow w.heap.size 28 1 (.slice A4 s c4) s cs from by first | exact hO4 | (rw [Nat.zero_add, List.nil_append] at hO4; exact hO4))
     have HE4 := Lib.hid hE4
     clear hO4 hE4 HO HE HB2 c0 c1
     go_wp2_with fail
     go_roundw
     case rel => exact ⟨1, s, A4, c4, cs, by omega, by go_num, by simp, Nat.le_refl _, Lib.hid (.inr ⟨by omega, rfl, rfl⟩), HO4, HE4⟩
     case measure => simp [intOf]
    ·have HX := Lib.hid (show m = s ∧ xs = cs from by rcases HK.out with ⟨h, _⟩ | ⟨_, h⟩; omega; exact h)
     obtain rfl := HX.out.1
     obtain rfl := HX.out.2
     clear HX HK
     go_wp2_with (at_builtin; go_must (refine wpList_app teE rfl (.tmp 31) (.tmp 32) rfl w.heap.size A3 m c3 xs rfl ?r0 none 0 0 [] rfl ?r1 (by simp) (fun u hu => by cases hu) (by omega) (by omega) ?b1 w ?w1 ?_))
     case r0 => exact HO.out
     case r1 => exact Rd.nil
     case b1 => exact HE.out.size
     case w1 => exact HE.out
     intro A4 c4 w4 hO4 hE4 _
     have HO4 := Lib.hid (show w4.ownsRow w.heap.size 28 1 (.slice A4 m c4) m xs from by first | exact hO4 | (rw [Nat.add_zero, List.append_nil] at hO4; exact hO4))
     have HE4 := Lib.hid hE4
     clear hO4 hE4 HO HE HB2 c0 c1
     go_wp2_with fail
     go_roundw
     case rel => exact ⟨2, m, A4, c4, xs, by omega, by go_num, by simp, Nat.le_refl _, Lib.hid (.inr ⟨by omega, rfl, rfl⟩), HO4, HE4⟩
     case measure => simp [intOf]
    ·have HX := Lib.hid (show m = s ∧ xs = cs from by rcases HK.out with ⟨h, _⟩ | ⟨_, h⟩; omega; exact h)
     obtain rfl := HX.out.1
     obtain rfl := HX.out.2
     clear HX HK
     go_wp2_with fail
     go_ret
     exact ⟨A3, c3, rfl, HO.out, HE.out⟩
end Go.Proofs.YtbfepgjeecndiaaGreat
