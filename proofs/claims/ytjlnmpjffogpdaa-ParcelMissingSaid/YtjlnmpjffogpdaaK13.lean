/- Decode (the program's): what is read, and the state of the walk. -/
import Derived.Test.YtjlnmpjffogpdaaK12
import Derived.Test.YtjlnmpjffogpdaaK09
import Derived.Test.YtjlnmpjffogpdaaK08
namespace Go.Proofs.Ytjlnmpjffogpdaa
open Go.RowKit
set_option linter.unusedVariables false
set_option linter.unusedSimpArgs false
attribute [local go_sem ↓] Go.wp_at_zero Go.wp_at_succ

/-! what is read: operations, one behind the other -/
/-- rows of different types do not lie in one block -/
theorem own_ne {w : World} {base base' : Nat} {e e' : TypeId} {size size' : Nat} {A A' : Option Addr} {n n' c c' : Nat} {xs xs' : List Value} (h : w.ownsRow base e size (.slice A n c) n xs) (h' : w.ownsRow base' e' size' (.slice A' n' c') n' xs') (hne : e ≠ e') : (Value.slice A n c).ownBlock = none ∨ (Value.slice A n c).ownBlock ≠ (Value.slice A' n' c').ownBlock := by
  rcases h.2 with ⟨hv, _⟩ | ⟨g, cap, cur, hv, _, hh, _⟩
  · exact .inl (by rw [hv]; simp [Value.ownBlock])
  · refine .inr ?_
    have := own_other (t := e) (cs := cur) h' hh hne
    rw [hv]; exact this
section
variable {P : Program} {t e : TypeId} {z : Value} {size bytes : Nat}
/-- append to a row of one's own: what became of the world, whole -/
theorem wpList_appGG {ops : Array Oper} {rest : List Oper} {o : Oper} {a : Act} {w : World} {Q : Exit → Act → World → Prop} (E : Elem P t e z size bytes) (hgd : o.guard = none) (s x : Operand)
    (ho : o.op = .call { callee := .builtin .append, args := #[s, x], argTypes := #[t, t] })
    (base : Nat) (A : Option Addr) (n c : Nat) (xs : List Value) (hs : a.eval s = .slice A n c) (hown : w.ownsRow base e size (.slice A n c) n xs)
    (A2 : Option Addr) (m c2 : Nat) (ys : List Value) (hx : a.eval x = .slice A2 m c2) (hr : Rd w A2 ys) (hl : ys.length = m * size) (h1 : ∀ u ∈ ys, u.oneCell' = true)
    (hb : (n + m) * bytes ≤ 140737488355328) (h63 : n + m ≤ 4611686018427387904) (hbase : base ≤ w.heap.size)
    (h : ∀ A' c' w', w'.ownsRow base e size (.slice A' (n + m) c') (n + m) (xs ++ ys) → w.grownBy w' (Value.ownBlock (.slice A n c)) → wpList P ops Q rest (a.put o.dst (.slice A' (n + m) c')) w') : wpList P ops Q (o :: rest) a w :=
  wpList_plain hgd fun K hK => wp_app E s x ho base A n c xs hs hown A2 m c2 ys hx hr hl h1 hb h63 hbase fun A' c' w' h2 h3 => hK _ _ (h A' c' w' h2 h3)
end
end Go.Proofs.Ytjlnmpjffogpdaa

/- Is a view too large to be examined (the law's heavy)? -/
namespace Go.Proofs.Ytjlnmpjffogpdaa
open Go.RowKit
set_option linter.unusedVariables false
set_option linter.unusedSimpArgs false
attribute [local go_sem ↓] Go.wp_at_zero Go.wp_at_succ

/-- heavy answers something; if it is false, the view has at most 300 votes and texts -/
def HvOut (w : World) (n m : Nat) (e : Ending) (w' : World) : Prop := ∃ b : Bool, e = .returned (.bool b) ∧ (b = false → n + m ≤ 300) ∧ Ext w w'
theorem quo_bd (n : Nat) (a d : Int) (ha : 0 ≤ a) (hd : 0 < d) : 0 ≤ (min (n : Int) a).tdiv d ∧ (min (n : Int) a).tdiv d ≤ a := by
  have h0 : 0 ≤ min (n : Int) a := by omega
  rw [Int.tdiv_eq_ediv_of_nonneg h0]
  have h1 := Int.ediv_nonneg h0 (Int.le_of_lt hd)
  have h2 := Int.ediv_le_self d h0
  omega
set_option maxRecDepth 100000 in
set_option maxHeartbeats 8000000 in
theorem heavy_any (A : Option Addr) (n c : Nat) (L : List SgR) (B : Option Addr) (m d : Nat) (X : List TeR) (w : World) (hS : SlG w A n c L) (hX : SlG w B m d X) (hn : n ≤ 140737488355328) (hm : m ≤ 140737488355328) :
    Calls Try.prog 9 #[.agg (vwA A n c B m d)] w (HvOut w n m) := by
  obtain ⟨W0, hW0⟩ : ∃ W0, w.alloc (.cells (vwA A n c B m d) 32) = W0 := ⟨_, rfl⟩
  have HE0 := Lib.hid (show Ext w W0 from by rw [← hW0]; exact (Ext.refl w).alloc' _)
  have HB := Lib.hid (show Blk W0 w.heap.size 32 (vwA A n c B m d) from by rw [← hW0]; exact Blk.new _ _ _)
  have HS := Lib.hid (hS.ext HE0.out)
  have HX := Lib.hid (hX.ext HE0.out)
  have HSA := Lib.hid (fun (h : 0 < n) => HS.out.at h)
  have HXA := Lib.hid (fun (h : 0 < m) => HX.out.at h)
  clear hS hX
  obtain ⟨c0, c1⟩ := vw_facts HB.out
  go_enter Try.func9, Try.ntmps9
  go_wp2_with fail
  clear hW0
  go_loopw [3, 4] (fun vz vi wr => ∃ (z : Int) (k : Nat), vz = .int .i64 z ∧ vi = .int .i64 (k : Int) ∧ k ≤ n ∧ (n : Int) + (m : Int) ≤ z ∧ z ≤ 400000000000000 ∧ W0 = wr) (fun _ i _ => n - (intOf i).toNat)
  case atStart => exact ⟨(n : Int) + (m : Int), 0, by first | rfl | go_num, rfl, Nat.zero_le _, by omega, by omega, rfl⟩
  case round =>
    obtain ⟨z, k, rfl, rfl, hk, hz1, hz2, rfl⟩ := hrel
    by_cases hlt : k < n
    · have i1 : (k : Int) < (n : Int) := by omega
      by_cases hz : z ≤ 300
      · obtain ⟨b, o, rfl, hr0, hb⟩ := HSA.out (by omega)
        have hr1 := el_at hr0 (k := k) (by rw [HS.out.len]; exact hlt)
        obtain ⟨R, hR⟩ : ∃ R, nthG L k = R := ⟨_, rfl⟩
        rw [hR] at hr1
        have hc : W0.cell? ⟨b, o + k * 23 + 22, none⟩ = some (.slice R.A R.n R.c) := hr1 22 (.slice R.A R.n R.c) rfl
        obtain ⟨q1, q2⟩ := quo_bd R.n 100000 400 (by omega) (by omega)
        clear hr0 hr1 hR
        go_wp2_with fail
        go_roundw
        case rel => exact ⟨z + (min (R.n : Int) 100000) / 400, k + 1, by first | rfl | go_num, by go_num, hlt, by omega, by omega, by first | rfl | trivial⟩
        case measure => simp [intOf]; omega
      · have i2 : ¬ z ≤ 300 := hz
        obtain ⟨z2, hz2'⟩ : ∃ q, q = z := ⟨_, rfl⟩
        go_wp2_with fail
        go_loopw [3, 5] (fun vz vi wr => ∃ (z : Int) (k : Nat), vz = .int .i64 z ∧ vi = .int .i64 (k : Int) ∧ k ≤ m ∧ (n : Int) + (m : Int) ≤ z ∧ z ≤ 400000000000000 ∧ W0 = wr) (fun _ i _ => m - (intOf i).toNat)
        case atStart => exact ⟨z, 0, rfl, rfl, Nat.zero_le _, hz1, hz2, rfl⟩
        case round =>
          clear i1 i2 hz2' hz hlt
          obtain ⟨z, j, rfl, rfl, hj, hz1, hz2, rfl⟩ := hrel
          by_cases hlt : j < m
          · have i1 : (j : Int) < (m : Int) := by omega
            by_cases hz : z ≤ 300
            · obtain ⟨b, o, rfl, hr0, hb⟩ := HXA.out (by omega)
              have hr1 := el_at hr0 (k := j) (by rw [HX.out.len]; exact hlt)
              obtain ⟨T, hT⟩ : ∃ T, nthG X j = T := ⟨_, rfl⟩
              rw [hT] at hr1
              obtain ⟨Ta, Tn, Tc, Tl⟩ := T
              have hc : W0.cell? ⟨b, o + j, none⟩ = some (.slice Ta Tn Tc) := by
                have := hr1 0 (.slice Ta Tn Tc) rfl
                simpa [show RowT.sz TeR = 1 from rfl] using this
              obtain ⟨q1, q2⟩ := quo_bd Tn 1000000 1000 (by omega) (by omega)
              clear hr0 hr1 hT
              go_wp2_with fail
              go_roundw
              case rel => exact ⟨z + (min (Tn : Int) 1000000) / 1000, j + 1, by first | rfl | go_num, by go_num, hlt, by omega, by omega, by first | rfl | trivial⟩
              case measure => simp [intOf]; omega
            · have i2 : ¬ z ≤ 300 := hz
              have i3 : 300 < z := by omega
              go_wp2_with fail
              go_ret
              exact ⟨true, by simp [i3], fun h => (by cases h), HE0.out⟩
          · have i1 : ¬ (j : Int) < (m : Int) := by omega
            by_cases hz : 300 < z
            · go_wp2_with fail
              go_ret
              exact ⟨true, by simp [hz], fun h => (by cases h), HE0.out⟩
            · go_wp2_with fail
              go_ret
              exact ⟨false, by simp [hz], fun _ => by omega, HE0.out⟩
    · obtain rfl : k = n := by omega
      have i1 : ¬ (k : Int) < (k : Int) := by omega
      go_wp2_with fail
      go_loopw [3, 5] (fun vz vi wr => ∃ (z : Int) (j : Nat), vz = .int .i64 z ∧ vi = .int .i64 (j : Int) ∧ j ≤ m ∧ (k : Int) + (m : Int) ≤ z ∧ z ≤ 400000000000000 ∧ W0 = wr) (fun _ i _ => m - (intOf i).toNat)
      case atStart => exact ⟨z, 0, rfl, rfl, Nat.zero_le _, hz1, hz2, rfl⟩
      case round =>
        clear i1 hlt
        obtain ⟨z, j, rfl, rfl, hj, hz1, hz2, rfl⟩ := hrel
        by_cases hlt : j < m
        · have i1 : (j : Int) < (m : Int) := by omega
          by_cases hz : z ≤ 300
          · obtain ⟨b, o, rfl, hr0, hb⟩ := HXA.out (by omega)
            have hr1 := el_at hr0 (k := j) (by rw [HX.out.len]; exact hlt)
            obtain ⟨T, hT⟩ : ∃ T, nthG X j = T := ⟨_, rfl⟩
            rw [hT] at hr1
            obtain ⟨Ta, Tn, Tc, Tl⟩ := T
            have hc : W0.cell? ⟨b, o + j, none⟩ = some (.slice Ta Tn Tc) := by
              have := hr1 0 (.slice Ta Tn Tc) rfl
              simpa [show RowT.sz TeR = 1 from rfl] using this
            obtain ⟨q1, q2⟩ := quo_bd Tn 1000000 1000 (by omega) (by omega)
            clear hr0 hr1 hT
            go_wp2_with fail
            go_roundw
            case rel => exact ⟨z + (min (Tn : Int) 1000000) / 1000, j + 1, by first | rfl | go_num, by go_num, hlt, by omega, by omega, by first | rfl | trivial⟩
            case measure => simp [intOf]; omega
          · have i2 : ¬ z ≤ 300 := hz
            have i3 : 300 < z := by omega
            go_wp2_with fail
            go_ret
            exact ⟨true, by simp [i3], fun h => (by cases h), HE0.out⟩
        · have i1 : ¬ (j : Int) < (m : Int) := by omega
          by_cases hz : 300 < z
          · go_wp2_with fail
            go_ret
            exact ⟨true, by simp [hz], fun h => (by cases h), HE0.out⟩
          · go_wp2_with fail
            go_ret
            exact ⟨false, by simp [hz], fun _ => by omega, HE0.out⟩
end Go.Proofs.Ytjlnmpjffogpdaa

/- Votes: which are valid, their bytes, their order. Plain: no program in sight. -/
namespace Go.Proofs.Ytjlnmpjffogpdaa
open Go.RowKit
set_option linter.unusedVariables false
set_option linter.unusedSimpArgs false

/-- what a set of validators holds beyond the ten -/
def supI (z : Int) : Int := bits .andNot .i64 z 1023
def inI (n lo hi : Int) : Bool := decide (lo ≤ n ∧ n ≤ hi)
/-- a name is chosen just where the choice is to include -/
def chV (v : VtR) : Bool := decide (v.ch = 1 ↔ v.va ≠ 0)
/-- what each kind asks -/
def restV (v : VtR) : Bool :=
  if v.k = 3 then inI v.sl 0 9 && (inI v.ro 1 12 && (inI v.ch 0 1 && (decide (v.ro ≠ 1) || (decide (v.ch ≠ 0) || decide (v.su = 0)))))
  else if v.k = 4 then inI v.sl 0 9 && (inI v.ro 1 12 && inI v.ch 0 2)
  else inI v.sl 0 (if v.k ≤ 2 then 9 else 0) && (decide (v.ro = 0 ∧ v.su = 0) && decide (v.ch = 1))
/-- a vote that may be signed -/
def vldVt (v : VtR) : Bool := (inI v.k 1 7 && inI v.si 0 9) && ((chV v && decide (supI v.su = 0)) && restV v)
/-- the bytes of a vote -/
def encVt (v : VtR) : List UInt8 := [toB v.k, toB v.sl, toB v.ro, toB v.ch, toB v.si] ++ (beI 2 v.su ++ (nmb v.pa ++ nmb v.va))
def byt (l : List UInt8) (i : Nat) : UInt8 := l.getD i 0
/-- the vote that bytes tell -/
def decVt (l : List UInt8) : VtR := ⟨(byt l 0).toNat, (byt l 1).toNat, (byt l 2).toNat, (byt l 3).toNat, (byt l 4).toNat, numAt l 5 2, ofNm ((l.drop 7).take 8), ofNm ((l.drop 15).take 8)⟩
theorem wfI_of {z : Int} (h1 : -9223372036854775808 ≤ z) (h2 : z ≤ 9223372036854775807) : wfI z := by
  unfold wfI
  simp [Lit.wf, IntKind.min, IntKind.max, IntKind.bits, IntKind.signed]
  omega
theorem decVt_wf (l : List UInt8) : (decVt l).wf := by
  have hb : ∀ c : UInt8, wfI (c.toNat : Int) := fun c => by have := c.toNat_lt; exact wfI_of (by omega) (by omega)
  refine ⟨hb _, hb _, hb _, hb _, hb _, ?_⟩
  have h1 := beNat_lt ((l.drop 5).take 2)
  have h2 : ((l.drop 5).take 2).length ≤ 2 := List.length_take_le _ _
  have h3 : 256 ^ ((l.drop 5).take 2).length ≤ 256 ^ 2 := Nat.pow_le_pow_right (by omega) h2
  refine wfI_of ?_ ?_
  · show _ ≤ ((numAt l 5 2 : Nat) : Int); omega
  · show ((numAt l 5 2 : Nat) : Int) ≤ _; unfold numAt; omega
/-! the order -/
/-- numbers, one behind the other -/
def lexI : List Int → List Int → Bool
  | x :: r, y :: s => if x = y then lexI r s else decide (x < y)
  | _, _ => false
theorem lexI_irrefl (l : List Int) : lexI l l = false := by
  induction l with
  | nil => rfl
  | cons x r ih => simp [lexI, ih]
theorem lexI_trans : ∀ (a b c : List Int), lexI a b = true → lexI b c = true → lexI a c = true
  | [], _, _, h, _ => by simp [lexI] at h
  | _ :: _, [], _, h, _ => by simp [lexI] at h
  | _ :: _, _ :: _, [], _, h => by simp [lexI] at h
  | x :: r, y :: s, z :: t, h1, h2 => by
    unfold lexI at h1 h2 ⊢
    have ih := lexI_trans r s t
    by_cases c1 : x = y
    · subst c1
      rw [if_pos rfl] at h1
      by_cases c2 : x = z
      · subst c2; rw [if_pos rfl] at h2 ⊢; exact ih h1 h2
      · rw [if_neg c2] at h2 ⊢; exact h2
    · rw [if_neg c1] at h1
      have h1' := of_decide_eq_true h1
      by_cases c2 : y = z
      · subst c2; rw [if_neg c1]; exact h1
      · rw [if_neg c2] at h2
        have h2' := of_decide_eq_true h2
        rw [if_neg (by omega)]; exact decide_eq_true (by omega)
theorem lexI_total : ∀ (a b : List Int), a.length = b.length → lexI a b = false → lexI b a = false → a = b
  | [], [], _, _, _ => rfl
  | [], _ :: _, h, _, _ => by simp at h
  | _ :: _, [], h, _, _ => by simp at h
  | x :: r, y :: s, h, h1, h2 => by
    unfold lexI at h1 h2
    have ih := lexI_total r s (by simpa using h)
    by_cases e : x = y
    · subst e; simp at h1 h2; rw [ih h1 h2]
    · rw [if_neg e] at h1; rw [if_neg (fun h => e h.symm)] at h2; simp at h1 h2; omega
def vtKey (v : VtR) : List Int := [un v.pa, v.sl, v.ro, v.k, v.si, v.ch, un v.va, v.su]
theorem vtKey_inj {a b : VtR} (h : vtKey a = vtKey b) : a = b := by
  obtain ⟨k, sl, ro, ch, si, su, pa, va⟩ := a
  obtain ⟨k', sl', ro', ch', si', su', pa', va'⟩ := b
  simp only [vtKey, List.cons.injEq, and_true] at h
  obtain ⟨h1, h2, h3, h4, h5, h6, h7, h8⟩ := h
  rw [un_inj h1, un_inj h7, h2, h3, h4, h5, h6, h8]
def ltVt (a b : VtR) : Bool := lexI (vtKey a) (vtKey b)
end Go.Proofs.Ytjlnmpjffogpdaa
