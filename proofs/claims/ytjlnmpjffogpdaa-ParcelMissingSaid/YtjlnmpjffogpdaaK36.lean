/- A row of texts of one's own. -/
import Derived.Test.YtjlnmpjffogpdaaK34
import Derived.Lib.AppendZerosOnto
import Derived.Lib.SliceRun
import Derived.Test.YtjlnmpjffogpdaaK35
import Derived.Test.YtjlnmpjffogpdaaK15
namespace Go.Proofs.Ytjlnmpjffogpdaa
open Go.RowKit
set_option linter.unusedVariables false
set_option linter.unusedSimpArgs false
attribute [local go_sem ↓] Go.wp_at_zero Go.wp_at_succ

/-- a row of texts of one's own -/
structure RwT (w : World) (base : Nat) (A : Option Addr) (n c : Nat) (D : List TeR) : Prop where
  own : w.ownsRow base 33 1 (.slice A n c) n (gcs D)
  tex : ∀ T ∈ D, OwnB w base 5 T.A T.n T.c T.l
section
variable {w w' : World} {base n c : Nat} {A : Option Addr} {D : List TeR}
theorem RwT.nil (w : World) (base : Nat) : RwT w base none 0 0 [] := ⟨World.ownsRow_nil _ _ _ _, fun T hT => by cases hT⟩
theorem RwT.ext (h : RwT w base A n c D) (he : Ext w w') : RwT w' base A n c D := ⟨own_ext h.own he, fun T hT => OwnB.ext (h.tex T hT) he⟩
theorem RwT.len (h : RwT w base A n c D) : D.length = n := gcs_len2 h.own
theorem RwT.push (h : RwT w base A n c D) {A' : Option Addr} {c' : Nat} {T : TeR} (hT : OwnB w base 5 T.A T.n T.c T.l) (hg : w.grownBy w' (Value.ownBlock (.slice A n c))) (ho : w'.ownsRow base 33 1 (.slice A' (n + 1) c') (n + 1) (gcs D ++ teL T)) : RwT w' base A' (n + 1) c' (D ++ [T]) := by
  refine ⟨by rw [gcs_append, gcs_one]; exact ho, fun Q hQ => ?_⟩
  rcases List.mem_append.1 hQ with hQ | hQ
  · exact World.ownsRow.kept (h.tex Q hQ) hg (own_ne (h.tex Q hQ) h.own (by decide))
  · rw [List.mem_singleton.1 hQ]; exact World.ownsRow.kept hT hg (own_ne hT h.own (by decide))
theorem RwT.sl (h : RwT w base A n c D) : SlG w A n c D := OwnG.sl (e := 33) h.own (fun T hT => (h.tex T hT).sl)
theorem RwT.mono {base' : Nat} (h : RwT w base A n c D) (hb : base' ≤ base) : RwT w base' A n c D := ⟨own_mono h.own hb, fun T hT => own_mono (h.tex T hT) hb⟩
theorem RwT.set (h : RwT w base A n c D) {g : Nat} {t : TypeId} {cs : Array Value} (hb : Blk w g t cs) (h1 : t ≠ 33) (h2 : t ≠ 5) (vs : List Value) : RwT (w.setCells g 0 vs) base A n c D :=
  ⟨World.ownsRow.kept h.own (grown_setCells' w g vs 0) (.inr (Ne.symm (own_other h.own hb h1))), fun T hT => World.ownsRow.kept (h.tex T hT) (grown_setCells' w g vs 0) (.inr (Ne.symm (own_other (h.tex T hT) hb h2)))⟩
end
end Go.Proofs.Ytjlnmpjffogpdaa

/- slices.Grow of nothing, and slices.Concat of a list and an empty one, at signed votes and at texts. -/
namespace Go.Proofs.Ytjlnmpjffogpdaa
open Go.RowKit
set_option linter.unusedVariables false
set_option linter.unusedSimpArgs false
attribute [local go_sem ↓] Go.wp_at_zero Go.wp_at_succ

theorem run_growE {P : Program} {t e : TypeId} {z : Value} {size bytes : Nat} (E : Elem P t e z size bytes) (tn : TypeId) (htn : P.underlying tn = some (.int .i64)) (w : World) (n : Nat) (h0 : 0 < n) (hb : n * bytes ≤ 140737488355328) (hn : n ≤ 1000000000000) :
    ∃ G cur, n ≤ G ∧ G ≤ maxLen ∧ cur.size = G * size ∧ ∀ ty, (Builtin.append_ #[t, tn] ty #[.slice none 0 0, .int .i64 n]).run P w = .ok (.slice (some ⟨w.heap.size, 0, none⟩) n G) (w.drew.alloc (.cells cur e)) := by
  obtain ⟨i, hi, hz, hsz, hby⟩ := E.get
  have hold : (Builtin.firstCells i.size 0 (.slice none 0 0)).run P w.drew = .ok ([] : List Value).toArray w.drew := run_firstCells_none w.drew i.size 0 0 0
  have h := fun ty => Lib.run_append_grow_zeros w t tn ty e i z .i64 .i64 E.ut htn hi hz none 0 0 [] hold n h0 (by rw [hsz]; exact E.pos) (by omega) (by omega) (by rw [hby]; omega) (growslice_fits (by omega) (by rw [hby, Nat.zero_add]; exact hb))
  have hg := grownCap_ge w (0 + n) 0 e
  have hm := grownCap_le_maxLen w (0 + n) 0 e (by simp only [maxLen]; omega)
  simp only [Nat.zero_add] at h hg hm
  refine ⟨_, _, hg, hm, ?_, h⟩
  simp only [Array.size_append, size_zeroCells, E.zs, List.size_toArray, List.length_nil, Nat.zero_add]
  rw [← Nat.add_mul]; congr 1; omega
set_option maxRecDepth 100000 in
set_option maxHeartbeats 8000000 in
theorem growSg_any (n : Nat) (w : World) (hn : n ≤ 1000000000) : Calls Try.prog 96 #[.slice none 0 0, .int .i64 n] w fun e w' => ∃ A' c', e = .returned (.slice A' 0 c') ∧ w'.ownsRow w.heap.size 45 23 (.slice A' 0 c') 0 [] ∧ Ext w w' := by
  rcases Nat.eq_zero_or_pos n with rfl | hpos
  · go_enter Try.func96, Try.ntmps96
    go_wp2_with fail
    go_ret
    exact ⟨_, _, rfl, World.ownsRow_nil _ _ _ _, Ext.refl _⟩
  · obtain ⟨G, cur, h1, h2, h3, hrz⟩ := run_growE sgE 3 Try.underlying3 w n hpos (by omega) (by omega)
    have HC := Lib.hid h3
    have i1 : ¬ ((n : Int) < 0) := by omega
    have i2 : (n : Int) > 0 := by omega
    have i3 : (0 : Int) < (n : Int) := by omega
    have g1 : G ≤ 9223372036854775807 := by simp only [maxLen] at h2; omega
    have HG := Lib.hid h2
    clear h3 h2
    go_enter Try.func96, Try.ntmps96
    go_wp2_with (at_builtin; refine Lib.wpList_append_run _ rfl _ _ _ _ rfl _ _ rfl rfl _ _ (hrz _) ?_)
    go_ret
    refine ⟨_, _, rfl, ?_, (Ext.refl w).drew'.trans ((Ext.refl w.drew).alloc' _)⟩
    have hd : w.drew.heap.size = w.heap.size := rfl
    exact World.ownsRow_made w.drew cur G (by rw [hd]; exact Nat.le_refl _) HG.out HC.out
set_option maxRecDepth 100000 in
set_option maxHeartbeats 8000000 in
theorem concatSg_any (A : Option Addr) (n c : Nat) (cs : List Value) (B : Nat) (w : World) (hr : Rd w A cs) (hl : cs.length = n * 23) (h1 : ∀ u ∈ cs, u.oneCell' = true) (hn : n ≤ 1000000000) (hc : c ≤ 9223372036854775807) (hb : Blk w B 29 #[.slice A n c, .slice none 0 0]) :
    Calls Try.prog 65 #[.slice (some ⟨B, 0, none⟩) 2 2] w fun e w' => ∃ A' c', e = .returned (.slice A' n c') ∧ w'.ownsRow w.heap.size 45 23 (.slice A' n c') n cs ∧ Ext w w' := by
  have HB := Lib.hid hb
  have HR := Lib.hid hr
  have HL := Lib.hid hl
  have H1 := Lib.hid h1
  have c0 : w.cell? ⟨B, 0, none⟩ = some (.slice A n c) := hb.cell 0
  have c1 : w.cell? ⟨B, 1, none⟩ = some (.slice none 0 0) := hb.cell 1
  clear hb hr hl h1
  go_enter Try.func65, Try.ntmps65
  go_wp2_with fail
  go_loopw [11, 3] (fun vi vs wr => ∃ (k s : Nat), k ≤ 2 ∧ vi = .int .i64 (k : Int) ∧ vs = .int .i64 (s : Int) ∧ s ≤ n ∧ Hid ((k = 0 ∧ s = 0) ∨ (0 < k ∧ s = n)) ∧ w = wr) (fun i _ _ => 2 - (intOf i).toNat)
  case atStart => exact ⟨0, 0, by omega, rfl, rfl, by omega, Lib.hid (.inl ⟨rfl, rfl⟩), rfl⟩
  case round =>
    obtain ⟨k, s, hk, rfl, rfl, hsn, HK, rfl⟩ := hrel
    rcases (by omega : k = 0 ∨ k = 1 ∨ k = 2) with rfl | rfl | rfl
    · obtain rfl : s = 0 := by have := HK.out; omega
      have i1 : ¬ (n : Int) < 0 := by omega
      go_wp2_with fail
      go_roundw
      case rel => exact ⟨1, n, by omega, rfl, by go_num, Nat.le_refl _, Lib.hid (.inr ⟨by omega, rfl⟩), by first | rfl | trivial⟩
      case measure => simp [intOf]
    · obtain rfl : s = n := by have := HK.out; omega
      have i1 : ¬ (s : Int) < 0 := by omega
      go_wp2_with fail
      go_roundw
      case rel => exact ⟨2, s, by omega, rfl, by go_num, Nat.le_refl _, Lib.hid (.inr ⟨by omega, rfl⟩), by first | rfl | trivial⟩
      case measure => simp [intOf]
    · obtain rfl : s = n := by have := HK.out; omega
      have HG := Lib.hid (growSg_any s w hn)
      clear c0 c1
      go_wp2_with fail
      refine HG.out.mono ?_
      rintro e w2 ⟨A2, c2, rfl, ho2, he2⟩
      have HO2 := Lib.hid ho2
      have HE2 := Lib.hid he2
      clear ho2 he2 HG
      go_wp2_with fail
      go_loopw [27, 6] (fun vi vs wr => ∃ (k m : Nat) (A3 : Option Addr) (c3 : Nat) (xs : List Value), k ≤ 2 ∧ vi = .int .i64 (k : Int) ∧ vs = .slice A3 m c3 ∧ m ≤ s ∧ Hid ((k = 0 ∧ m = 0 ∧ xs = []) ∨ (0 < k ∧ m = s ∧ xs = cs)) ∧ Hid (wr.ownsRow w.heap.size 45 23 (.slice A3 m c3) m xs) ∧ Hid (Ext w wr)) (fun i _ _ => 2 - (intOf i).toNat)
      case atStart => exact ⟨0, 0, A2, c2, [], by omega, rfl, rfl, by omega, Lib.hid (.inl ⟨rfl, rfl, rfl⟩), HO2, HE2⟩
      case round =>
        clear HO2 HE2
        obtain ⟨k, m, A3, c3, xs, hk, rfl, rfl, hms, HK, HO, HE⟩ := hrel
        have HB2 := Lib.hid (HB.out.ext HE.out)
        have c0 : _ = some (Value.slice A s c) := HB2.out.cell 0
        have c1 : _ = some (Value.slice none 0 0) := HB2.out.cell 1
        rcases (by omega : k = 0 ∨ k = 1 ∨ k = 2) with rfl | rfl | rfl
        · have HX := Lib.hid (show m = 0 ∧ xs = [] from by rcases HK.out with ⟨_, h⟩ | ⟨h, _⟩; exact h; omega)
          obtain rfl := HX.out.1
          obtain rfl := HX.out.2
          clear HX HK
          go_wp2_with (at_builtin; go_must (refine wpList_app sgE rfl (.tmp 31) (.tmp 32) rfl w.heap.size A3 0 c3 [] rfl ?r0 A s c cs rfl ?r1 HL.out H1.out (by omega) (by omega) ?b1 w ?w1 ?_))
          case r0 => exact HO.out
          case r1 => exact HR.out.ext HE.out
          case b1 => exact HE.out.size
          case w1 => exact HE.out
          intro A4 c4 w4 hO4 hE4 _
          have HO4 := Lib.hid (show w4.ownsRow w.heap.size 45 23 (.slice A4 s c4) s cs from by first | exact hO4 | (rw [Nat.zero_add, List.nil_append] at hO4; exact hO4))
          have HE4 := Lib.hid hE4
          clear hO4 hE4 HO HE HB2 c0 c1
          go_wp2_with fail
          go_roundw
          case rel => exact ⟨1, s, A4, c4, cs, by omega, by go_num, by simp, Nat.le_refl _, Lib.hid (.inr ⟨by omega, rfl, rfl⟩), HO4, HE4⟩
          case measure => simp [intOf]
        · have HX := Lib.hid (show m = s ∧ xs = cs from by rcases HK.out with ⟨h, _⟩ | ⟨_, h⟩; omega; exact h)
          obtain rfl := HX.out.1
          obtain rfl := HX.out.2
          clear HX HK
          go_wp2_with (at_builtin; go_must (refine wpList_app sgE rfl (.tmp 31) (.tmp 32) rfl w.heap.size A3 m c3 xs rfl ?r0 none 0 0 [] rfl ?r1 (by simp) (fun u hu => by cases hu) (by omega) (by omega) ?b1 w ?w1 ?_))
          case r0 => exact HO.out
          case r1 => exact Rd.nil
          case b1 => exact HE.out.size
          case w1 => exact HE.out
          intro A4 c4 w4 hO4 hE4 _
          have HO4 := Lib.hid (show w4.ownsRow w.heap.size 45 23 (.slice A4 m c4) m xs from by first | exact hO4 | (rw [Nat.add_zero, List.append_nil] at hO4; exact hO4))
          have HE4 := Lib.hid hE4
          clear hO4 hE4 HO HE HB2 c0 c1
          go_wp2_with fail
          go_roundw
          case rel => exact ⟨2, m, A4, c4, xs, by omega, by go_num, by simp, Nat.le_refl _, Lib.hid (.inr ⟨by omega, rfl, rfl⟩), HO4, HE4⟩
          case measure => simp [intOf]
        · have HX := Lib.hid (show m = s ∧ xs = cs from by rcases HK.out with ⟨h, _⟩ | ⟨_, h⟩; omega; exact h)
          obtain rfl := HX.out.1
          obtain rfl := HX.out.2
          clear HX HK
          go_wp2_with fail
          go_ret
          exact ⟨A3, c3, rfl, HO.out, HE.out⟩
set_option maxRecDepth 100000 in
set_option maxHeartbeats 8000000 in
theorem growTe_any (n : Nat) (w : World) (hn : n ≤ 1000000000) : Calls Try.prog 97 #[.slice none 0 0, .int .i64 n] w fun e w' => ∃ A' c', e = .returned (.slice A' 0 c') ∧ w'.ownsRow w.heap.size 33 1 (.slice A' 0 c') 0 [] ∧ Ext w w' := by
  rcases Nat.eq_zero_or_pos n with rfl | hpos
  · go_enter Try.func97, Try.ntmps97
    go_wp2_with fail
    go_ret
    exact ⟨_, _, rfl, World.ownsRow_nil _ _ _ _, Ext.refl _⟩
  · obtain ⟨G, cur, h1, h2, h3, hrz⟩ := run_growE teE 3 Try.underlying3 w n hpos (by omega) (by omega)
    have HC := Lib.hid h3
    have i1 : ¬ ((n : Int) < 0) := by omega
    have i2 : (n : Int) > 0 := by omega
    have i3 : (0 : Int) < (n : Int) := by omega
    have g1 : G ≤ 9223372036854775807 := by simp only [maxLen] at h2; omega
    have HG := Lib.hid h2
    clear h3 h2
    go_enter Try.func97, Try.ntmps97
    go_wp2_with (at_builtin; refine Lib.wpList_append_run _ rfl _ _ _ _ rfl _ _ rfl rfl _ _ (hrz _) ?_)
    go_ret
    refine ⟨_, _, rfl, ?_, (Ext.refl w).drew'.trans ((Ext.refl w.drew).alloc' _)⟩
    have hd : w.drew.heap.size = w.heap.size := rfl
    exact World.ownsRow_made w.drew cur G (by rw [hd]; exact Nat.le_refl _) HG.out HC.out
set_option maxRecDepth 100000 in
set_option maxHeartbeats 8000000 in
theorem concatTe_any (A : Option Addr) (n c : Nat) (cs : List Value) (B : Nat) (w : World) (hr : Rd w A cs) (hl : cs.length = n * 1) (h1 : ∀ u ∈ cs, u.oneCell' = true) (hn : n ≤ 1000000000) (hc : c ≤ 9223372036854775807) (hb : Blk w B 30 #[.slice A n c, .slice none 0 0]) :
    Calls Try.prog 66 #[.slice (some ⟨B, 0, none⟩) 2 2] w fun e w' => ∃ A' c', e = .returned (.slice A' n c') ∧ w'.ownsRow w.heap.size 33 1 (.slice A' n c') n cs ∧ Ext w w' := by
  have HB := Lib.hid hb
  have HR := Lib.hid hr
  have HL := Lib.hid hl
  have H1 := Lib.hid h1
  have c0 : w.cell? ⟨B, 0, none⟩ = some (.slice A n c) := hb.cell 0
  have c1 : w.cell? ⟨B, 1, none⟩ = some (.slice none 0 0) := hb.cell 1
  clear hb hr hl h1
  go_enter Try.func66, Try.ntmps66
  go_wp2_with fail
  go_loopw [11, 3] (fun vi vs wr => ∃ (k s : Nat), k ≤ 2 ∧ vi = .int .i64 (k : Int) ∧ vs = .int .i64 (s : Int) ∧ s ≤ n ∧ Hid ((k = 0 ∧ s = 0) ∨ (0 < k ∧ s = n)) ∧ w = wr) (fun i _ _ => 2 - (intOf i).toNat)
  case atStart => exact ⟨0, 0, by omega, rfl, rfl, by omega, Lib.hid (.inl ⟨rfl, rfl⟩), rfl⟩
  case round =>
    obtain ⟨k, s, hk, rfl, rfl, hsn, HK, rfl⟩ := hrel
    rcases (by omega : k = 0 ∨ k = 1 ∨ k = 2) with rfl | rfl | rfl
    · obtain rfl : s = 0 := by have := HK.out; omega
      have i1 : ¬ (n : Int) < 0 := by omega
      go_wp2_with fail
      go_roundw
      case rel => exact ⟨1, n, by omega, rfl, by go_num, Nat.le_refl _, Lib.hid (.inr ⟨by omega, rfl⟩), by first | rfl | trivial⟩
      case measure => simp [intOf]
    · obtain rfl : s = n := by have := HK.out; omega
      have i1 : ¬ (s : Int) < 0 := by omega
      go_wp2_with fail
      go_roundw
      case rel => exact ⟨2, s, by omega, rfl, by go_num, Nat.le_refl _, Lib.hid (.inr ⟨by omega, rfl⟩), by first | rfl | trivial⟩
      case measure => simp [intOf]
    · obtain rfl : s = n := by have := HK.out; omega
      have HG := Lib.hid (growTe_any s w hn)
      clear c0 c1
      go_wp2_with fail
      refine HG.out.mono ?_
      rintro e w2 ⟨A2, c2, rfl, ho2, he2⟩
      have HO2 := Lib.hid ho2
      have HE2 := Lib.hid he2
      clear ho2 he2 HG
      go_wp2_with fail
      go_loopw [27, 6] (fun vi vs wr => ∃ (k m : Nat) (A3 : Option Addr) (c3 : Nat) (xs : List Value), k ≤ 2 ∧ vi = .int .i64 (k : Int) ∧ vs = .slice A3 m c3 ∧ m ≤ s ∧ Hid ((k = 0 ∧ m = 0 ∧ xs = []) ∨ (0 < k ∧ m = s ∧ xs = cs)) ∧ Hid (wr.ownsRow w.heap.size 33 1 (.slice A3 m c3) m xs) ∧ Hid (Ext w wr)) (fun i _ _ => 2 - (intOf i).toNat)
      case atStart => exact ⟨0, 0, A2, c2, [], by omega, rfl, rfl, by omega, Lib.hid (.inl ⟨rfl, rfl, rfl⟩), HO2, HE2⟩
      case round =>
        clear HO2 HE2
        obtain ⟨k, m, A3, c3, xs, hk, rfl, rfl, hms, HK, HO, HE⟩ := hrel
        have HB2 := Lib.hid (HB.out.ext HE.out)
        have c0 : _ = some (Value.slice A s c) := HB2.out.cell 0
        have c1 : _ = some (Value.slice none 0 0) := HB2.out.cell 1
        rcases (by omega : k = 0 ∨ k = 1 ∨ k = 2) with rfl | rfl | rfl
        · have HX := Lib.hid (show m = 0 ∧ xs = [] from by rcases HK.out with ⟨_, h⟩ | ⟨h, _⟩; exact h; omega)
          obtain rfl := HX.out.1
          obtain rfl := HX.out.2
          clear HX HK
          go_wp2_with (at_builtin; go_must (refine wpList_app teE rfl (.tmp 31) (.tmp 32) rfl w.heap.size A3 0 c3 [] rfl ?r0 A s c cs rfl ?r1 HL.out H1.out (by omega) (by omega) ?b1 w ?w1 ?_))
          case r0 => exact HO.out
          case r1 => exact HR.out.ext HE.out
          case b1 => exact HE.out.size
          case w1 => exact HE.out
          intro A4 c4 w4 hO4 hE4 _
          have HO4 := Lib.hid (show w4.ownsRow w.heap.size 33 1 (.slice A4 s c4) s cs from by first | exact hO4 | (rw [Nat.zero_add, List.nil_append] at hO4; exact hO4))
          have HE4 := Lib.hid hE4
          clear hO4 hE4 HO HE HB2 c0 c1
          go_wp2_with fail
          go_roundw
          case rel => exact ⟨1, s, A4, c4, cs, by omega, by go_num, by simp, Nat.le_refl _, Lib.hid (.inr ⟨by omega, rfl, rfl⟩), HO4, HE4⟩
          case measure => simp [intOf]
        · have HX := Lib.hid (show m = s ∧ xs = cs from by rcases HK.out with ⟨h, _⟩ | ⟨_, h⟩; omega; exact h)
          obtain rfl := HX.out.1
          obtain rfl := HX.out.2
          clear HX HK
          go_wp2_with (at_builtin; go_must (refine wpList_app teE rfl (.tmp 31) (.tmp 32) rfl w.heap.size A3 m c3 xs rfl ?r0 none 0 0 [] rfl ?r1 (by simp) (fun u hu => by cases hu) (by omega) (by omega) ?b1 w ?w1 ?_))
          case r0 => exact HO.out
          case r1 => exact Rd.nil
          case b1 => exact HE.out.size
          case w1 => exact HE.out
          intro A4 c4 w4 hO4 hE4 _
          have HO4 := Lib.hid (show w4.ownsRow w.heap.size 33 1 (.slice A4 m c4) m xs from by first | exact hO4 | (rw [Nat.add_zero, List.append_nil] at hO4; exact hO4))
          have HE4 := Lib.hid hE4
          clear hO4 hE4 HO HE HB2 c0 c1
          go_wp2_with fail
          go_roundw
          case rel => exact ⟨2, m, A4, c4, xs, by omega, by go_num, by simp, Nat.le_refl _, Lib.hid (.inr ⟨by omega, rfl, rfl⟩), HO4, HE4⟩
          case measure => simp [intOf]
        · have HX := Lib.hid (show m = s ∧ xs = cs from by rcases HK.out with ⟨h, _⟩ | ⟨_, h⟩; omega; exact h)
          obtain rfl := HX.out.1
          obtain rfl := HX.out.2
          clear HX HK
          go_wp2_with fail
          go_ret
          exact ⟨A3, c3, rfl, HO.out, HE.out⟩
end Go.Proofs.Ytjlnmpjffogpdaa

/- Parcels as values (plain): their bytes, errors, parts. -/
namespace Go.Proofs.Ytjlnmpjffogpdaa
open Go.RowKit
set_option linter.unusedVariables false
set_option linter.unusedSimpArgs false
section
variable {α β : Type}
/-- each ahead of the next -/
def adjB (lt : β → β → Bool) : List β → Bool
  | x :: y :: r => lt x y && adjB lt (y :: r)
  | _ => true
theorem adjB_iff (lt : β → β → Bool) : ∀ (M : List β), adjB lt M = true ↔ ∀ k (h : k + 1 < M.length), lt (M[k]'(Nat.lt_of_succ_lt h)) (M[k + 1]'h) = true
  | [] => by simp [adjB]
  | [x] => by simp [adjB]
  | x :: y :: r => by
    rw [adjB, Bool.and_eq_true, adjB_iff lt (y :: r)]
    constructor
    · rintro ⟨h1, h2⟩ k hk
      cases k with
      | zero => exact h1
      | succ k => exact h2 k (by simpa using hk)
    · intro h
      exact ⟨h 0 (by simp), fun k hk => h (k + 1) (by simpa using hk)⟩
theorem ascG_adj [RowT α] {V : α → β} {lt0 : α → α → Bool} {lt : β → β → Bool} (h : ∀ x y, lt0 x y = lt (V x) (V y)) (L : List α) : ascG lt0 L = adjB lt (L.map V) := by
  rw [Bool.eq_iff_iff, adjB_iff]
  constructor
  · intro hh k hk
    rw [List.length_map] at hk
    have := ascG_of hh hk
    rw [h] at this
    rw [List.getElem_map, List.getElem_map, nthG_eq, nthG_eq]
    exact this
  · intro hh
    refine ascG_yes (fun k hk => ?_)
    have := hh k (by simpa using hk)
    rw [List.getElem_map, List.getElem_map, nthG_eq, nthG_eq] at this
    rw [h]; exact this
theorem allG_all [RowT α] {V : α → β} {f : α → Bool} {g : β → Bool} {L : List α} (h : ∀ x ∈ L, f x = g (V x)) : allG f L = (L.map V).all g := by
  rw [Bool.eq_iff_iff, List.all_map, List.all_eq_true]
  constructor
  · intro hh x hx
    obtain ⟨k, hk, rfl⟩ := List.getElem_of_mem hx
    have := allG_of hh hk
    rw [← nthG_eq hk, h _ hx] at this
    exact this
  · intro hh
    refine allG_yes (fun k hk => ?_)
    rw [h _ (nthG_mem hk)]
    exact hh _ (nthG_mem hk)
end
def vldSv (s : SgV) : Bool := vldVt s.1 && decide (s.2.length = 370)
def encSv (s : SgV) : List UInt8 := encVt s.1 ++ s.2
def okTv (l : List UInt8) : Bool := decide (l.length ≤ 65535)
def encVwV (L : List SgV) (X : List (List UInt8)) : List UInt8 := beI 4 (L.length : Int) ++ L.flatMap encSv ++ (beI 4 (X.length : Int) ++ X.flatMap fun l => blob l)
/-- the error of Encode, by values -/
def vwEV (L : List SgV) (X : List (List UInt8)) : Int := if L.all vldSv = true ∧ X.all okTv = true then (if (adjB ltSv L && adjB lexB X) = true then 0 else 10) else 1
def pcEV (L : List SgV) (X : List (List UInt8)) : Int := if lrgN L.length X.length = true then 5 else vwEV L X
def encPcV (L : List SgV) (X : List (List UInt8)) : List UInt8 := nmb (tagU 89 (encVwV L X)) ++ encVwV L X
theorem vldSg_V {S : SgR} (h : S.sig.length = S.n) : vldSg S = vldSv S.V := by unfold vldSg vldSv SgR.V; rw [h]
theorem vwE_V {L : List SgR} {X : List TeR} (hL : ∀ S ∈ L, S.sig.length = S.n) (hX : ∀ T ∈ X, T.l.length = T.n) : vwE L X = vwEV (L.map SgR.V) (X.map TeR.l) := by
  unfold vwE vwEV ordV
  rw [allG_all (V := SgR.V) (g := vldSv) (fun S hS => vldSg_V (hL S hS)), allG_all (V := TeR.l) (g := okTv) (fun T hT => by unfold okTe okTv; rw [hX T hT]), ascG_adj (V := SgR.V) (lt0 := ltSg) (lt := ltSv) (fun _ _ => rfl), ascG_adj (V := TeR.l) (lt0 := ltTe) (lt := lexB) (fun _ _ => rfl)]
theorem pcE_V {L : List SgR} {X : List TeR} (hL : ∀ S ∈ L, S.sig.length = S.n) (hX : ∀ T ∈ X, T.l.length = T.n) : pcE L X = pcEV (L.map SgR.V) (X.map TeR.l) := by
  unfold pcE pcEV
  rw [vwE_V hL hX, List.length_map, List.length_map]
theorem encVw_V (L : List SgR) (X : List TeR) : encVw L X = encVwV (L.map SgR.V) (X.map TeR.l) := by
  unfold encVw encVwV encSgs encTes
  rw [List.length_map, List.length_map, List.flatMap_map, List.flatMap_map]; rfl
theorem encPc_V (L : List SgR) (X : List TeR) : encPc L X = encPcV (L.map SgR.V) (X.map TeR.l) := by unfold encPc encPcV; rw [encVw_V]
theorem ordV_V (L : List SgR) (X : List TeR) : ordV L X = (adjB ltSv (L.map SgR.V) && adjB lexB (X.map TeR.l)) := by
  unfold ordV
  rw [ascG_adj (V := SgR.V) (lt0 := ltSg) (lt := ltSv) (fun _ _ => rfl), ascG_adj (V := TeR.l) (lt0 := ltTe) (lt := lexB) (fun _ _ => rfl)]
/-! the parts of a view -/
def prt {β : Type} (L : List β) (i : Nat) : List β := (L.drop (i * 64)).take 64
theorem prt_map {α β : Type} (V : α → β) (L : List α) (i : Nat) : (prt L i).map V = prt (L.map V) i := by unfold prt; rw [List.map_take, List.map_drop]
/-- the parcels of a view, from number i on -/
def splF (L : List SgV) (X : List (List UInt8)) : Nat → Nat → List (List UInt8) → List (List UInt8) × Int
  | 0, _, acc => (acc, 0)
  | k + 1, i, acc => if pcEV (prt L i) (prt X i) ≠ 0 then ([], pcEV (prt L i) (prt X i)) else splF L X k (i + 1) (acc ++ [encPcV (prt L i) (prt X i)])
/-- how many -/
def splN (L : List SgV) (X : List (List UInt8)) : Nat := (max L.length X.length + 63) / 64
def splV (L : List SgV) (X : List (List UInt8)) : List (List UInt8) × Int := splF L X (splN L X) 0 []
theorem splF_no {L : List SgV} {X : List (List UInt8)} {i : Nat} {acc : List (List UInt8)} (hi : i < splN L X) (h : pcEV (prt L i) (prt X i) ≠ 0) : splF L X (splN L X - i) i acc = ([], pcEV (prt L i) (prt X i)) := by
  rw [show splN L X - i = (splN L X - i - 1) + 1 from by omega, splF, if_pos h]
theorem splF_yes {L : List SgV} {X : List (List UInt8)} {i : Nat} {acc : List (List UInt8)} (hi : i < splN L X) (h : pcEV (prt L i) (prt X i) = 0) : splF L X (splN L X - i) i acc = splF L X (splN L X - (i + 1)) (i + 1) (acc ++ [encPcV (prt L i) (prt X i)]) := by
  rw [show splN L X - i = (splN L X - (i + 1)) + 1 from by omega, splF, if_neg (by simpa using h)]
theorem splF_end {L : List SgV} {X : List (List UInt8)} {i : Nat} {acc : List (List UInt8)} (hi : splN L X ≤ i) : splF L X (splN L X - i) i acc = (acc, 0) := by
  rw [show splN L X - i = 0 from by omega]; rfl
theorem prt_empty {L : List SgV} {X : List (List UInt8)} {i : Nat} : (prt L i = [] ∧ prt X i = []) ↔ splN L X ≤ i := by
  unfold prt splN
  rw [List.eq_nil_iff_length_eq_zero, List.eq_nil_iff_length_eq_zero, List.length_take, List.length_drop, List.length_take, List.length_drop]
  omega
end Go.Proofs.Ytjlnmpjffogpdaa
