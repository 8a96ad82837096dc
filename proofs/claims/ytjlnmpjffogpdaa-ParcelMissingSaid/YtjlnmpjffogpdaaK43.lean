/- slices.IndexFunc and slices.DeleteFunc over texts. -/
import Derived.Test.YtjlnmpjffogpdaaK20
import Derived.Test.YtjlnmpjffogpdaaK41
namespace Go.Proofs.Ytjlnmpjffogpdaa
open Go.RowKit
set_option linter.unusedVariables false
set_option linter.unusedSimpArgs false
set_option linter.unusedSectionVars false
attribute [local go_sem ↓] Go.wp_at_zero Go.wp_at_succ

/-- a function value that tells of an element whether it is to go, in every world with K -/
structure TstTe (fn B : Nat) (q : TeR → Bool) (K : World → Prop) : Prop where
  eg : ∀ args w, (callFunc fn args).run Try.prog w = .ok (.enter fn args) w
  says : ∀ x W, K W → RowT.ok x W → Calls Try.prog fn #[Value.slice x.A x.n x.c, .pointer (some ⟨B, 0, none⟩)] W fun e w' => e = .returned (.bool (q x)) ∧ Ext W w'
  ext : ∀ W W', K W → Ext W W' → K W'
  row : ∀ W W' g, K W → (∃ cur p, W.heap[g]? = some (.cells cur 33 p)) → W.grownBy W' (some g) → K W'
theorem TstTe.at {fn B : Nat} {q : TeR → Bool} {K : World → Prop} (h : TstTe fn B q K) {w0 w : World} {base n c : Nat} {A : Option Addr} {d : Array TeR} (k : RowS w0 w base 33 A n c d) (hK : K w) {i : Nat} (hi : i < n) {R : TeR} (hR : d[i]! = R) (vx : Value) (hx : Value.slice R.A R.n R.c = vx) (b : Bool) (hb : q d[i]! = b) :
    Hid (∀ W, Ext w W → Calls Try.prog fn #[vx, .pointer (some ⟨B, 0, none⟩)] W fun e w' => e = .returned (.bool b) ∧ Ext W w') := by
  subst hR; rw [← hx, ← hb]
  exact Lib.hid (fun W hW => h.says _ W (h.ext _ _ hK hW) ((RowS.ext k hW).ok hi))
/-- what IndexFunc answers -/
def IxOutTe (w : World) (q : TeR → Bool) (n : Nat) (d : Array TeR) (e : Ending) (w' : World) : Prop := Ext w w' ∧ ((e = .returned (.int .i64 (-1)) ∧ Dl0 q d n) ∨ ∃ k, k < n ∧ e = .returned (.int .i64 (k : Int)) ∧ q d[k]! = true ∧ Dl0 q d k)
set_option maxRecDepth 100000 in
set_option maxHeartbeats 8000000 in
theorem indexTe_any {fn B : Nat} {q : TeR → Bool} {K : World → Prop} (ht : TstTe fn B q K) (w0 w : World) (base : Nat) (A : Option Addr) (n c : Nat) (d : Array TeR) (h : RowS w0 w base 33 A n c d) (hK : K w) (hn : n ≤ 1000000000) :
    Calls Try.prog 74 #[.slice A n c, .func (.func fn) #[] #[.pointer (some ⟨B, 0, none⟩)]] w (IxOutTe w q n d) := by
  have eg := ht.eg
  have HT := Lib.hid ht
  have HD0 := Lib.hid h
  have HK0 := Lib.hid hK
  have HSZ := Lib.hid (RowS.size h)
  clear ht hK
  go_enter Try.func74, Try.ntmps74
  go_wp2_with fail
  go_loopw [8] (fun vi wr => ∃ k : Nat, vi = .int .i64 (k : Int) ∧ k ≤ n ∧ Hid (Dl0 q d k) ∧ Hid (Ext w wr)) (fun i _ => n - (intOf i).toNat)
  case atStart => exact ⟨0, rfl, Nat.zero_le _, Lib.hid (Dl0.start d), Lib.hid (Ext.refl w)⟩
  case round =>
    obtain ⟨k, rfl, hk, HN, HE⟩ := hrel
    by_cases hlt : k < n
    · have HD := Lib.hid (RowS.ext HD0.out HE.out)
      have HK := Lib.hid (HT.out.ext _ _ HK0.out HE.out)
      obtain ⟨g, rfl, -, -⟩ := RowS.at HD.out (by omega)
      have i1 : (k : Int) < (n : Int) := by omega
      cases hb : q d[k]! with
      | false =>
        have HB := Lib.hid hb
        obtain ⟨R, hR⟩ : ∃ R, d[k]! = R := ⟨_, rfl⟩
        obtain ⟨vx, hvx⟩ : ∃ v, Value.slice R.A R.n R.c = v := ⟨_, rfl⟩
        have HVX := Lib.hid hvx
        have HKR := Lib.hid hR
        have L1 := Lib.hid (fun (W : World) (he : Ext wr W) => show W.cell? ⟨g, k, none⟩ = some vx from by rw [← HVX.out]; exact RowTe.load HD.out rfl hlt hR he)
        have HCM := HT.out.at HD.out HK.out hlt hR vx hvx false hb
        clear hvx hR
        clear hb
        have hc1 := L1.out wr (Ext.refl _)
        go_wp2_with fail
        refine (HCM.out _ (Ext.refl _)).mono ?_
        rintro e w3 ⟨rfl, he3⟩
        have HN2 := Lib.hid (HN.out.next (by rw [HSZ.out]; exact hlt) HB.out)
        have HE2 := Lib.hid (HE.out.trans he3)
        clear HCM L1 HVX hc1 he3
        go_wp2_with fail
        go_roundw
        case rel => exact ⟨k + 1, by go_num, hlt, HN2, HE2⟩
        case measure => simp [intOf]; omega
      | true =>
        have HB := Lib.hid hb
        obtain ⟨R, hR⟩ : ∃ R, d[k]! = R := ⟨_, rfl⟩
        obtain ⟨vx, hvx⟩ : ∃ v, Value.slice R.A R.n R.c = v := ⟨_, rfl⟩
        have HVX := Lib.hid hvx
        have HKR := Lib.hid hR
        have L1 := Lib.hid (fun (W : World) (he : Ext wr W) => show W.cell? ⟨g, k, none⟩ = some vx from by rw [← HVX.out]; exact RowTe.load HD.out rfl hlt hR he)
        have HCM := HT.out.at HD.out HK.out hlt hR vx hvx true hb
        clear hvx hR
        clear hb
        have hc1 := L1.out wr (Ext.refl _)
        go_wp2_with fail
        refine (HCM.out _ (Ext.refl _)).mono ?_
        rintro e w3 ⟨rfl, he3⟩
        have HE2 := Lib.hid (HE.out.trans he3)
        clear HCM L1 HVX hc1 he3
        go_wp2_with fail
        go_ret
        exact ⟨HE2.out, .inr ⟨k, hlt, rfl, HB.out, HN.out⟩⟩
    · obtain ⟨k2, hk2⟩ : ∃ q, q = k := ⟨_, rfl⟩
      have i1 : ¬ (k : Int) < (n : Int) := by omega
      have HF := Lib.hid (show Dl0 q d n from by rw [show n = k from by omega]; exact HN.out)
      go_wp2_with fail
      go_ret
      exact ⟨HE.out, .inl ⟨rfl, HF.out⟩⟩
theorem own_typed2T {w : World} {base : Nat} {e : TypeId} {size g n c : Nat} {xs : List Value} (h : w.ownsRow base e size (.slice (some ⟨g, 0, none⟩) n c) n xs) : ∃ cur p, w.heap[g]? = some (.cells cur e p) := by
  rcases h.2 with ⟨hv, _⟩ | ⟨g', cap, cur, hv, _, hh, _⟩
  · cases hv
  · cases hv; exact ⟨_, _, hh⟩
/-- what DeleteFunc answers -/
def DfOutTe (w0 : World) (base : Nat) (q : TeR → Bool) (K : World → Prop) (A : Option Addr) (n c : Nat) (d : Array TeR) (e : Ending) (w' : World) : Prop := ∃ (m : Nat) (d' : Array TeR), e = .returned (.slice A m c) ∧ m ≤ n ∧ RowS w0 w' base 33 A m c d' ∧ d'.toList = keepL q d.toList ∧ K w'
set_option maxRecDepth 100000 in
set_option maxHeartbeats 8000000 in
theorem deleteTe_any {fn B : Nat} {q : TeR → Bool} {K : World → Prop} (ht : TstTe fn B q K) (w0 w : World) (base : Nat) (A : Option Addr) (n c : Nat) (d : Array TeR) (h : RowS w0 w base 33 A n c d) (hK : K w) (hn : n ≤ 1000000000) (hnc : n ≤ c) (hc : c ≤ 9223372036854775807) :
    Calls Try.prog 33 #[.slice A n c, .func (.func fn) #[] #[.pointer (some ⟨B, 0, none⟩)]] w (DfOutTe w0 base q K A n c d) := by
  have HIX := Lib.hid (indexTe_any ht w0 w base A n c d h hK hn)
  have eg := ht.eg
  have HT := Lib.hid ht
  have HD0 := Lib.hid h
  have HK0 := Lib.hid hK
  have HSZ := Lib.hid (RowS.size h)
  clear ht hK
  go_enter Try.func33, Try.ntmps33
  go_wp2_with fail
  refine HIX.out.mono ?_
  rintro e w1 ⟨he1, ⟨rfl, hno⟩ | ⟨k, hk, rfl, hyes, hno⟩⟩
  · have HF := Lib.hid (show d.toList = keepL q d.toList from (hno.all (by rw [HSZ.out]; exact Nat.le_refl _)).symm)
    have HD1 := Lib.hid (RowS.ext HD0.out he1)
    have HK1 := Lib.hid (HT.out.ext _ _ HK0.out he1)
    clear hno he1 HIX h
    go_wp2_with fail
    go_ret
    exact ⟨n, d, rfl, Nat.le_refl _, HD1.out, HF.out, HK1.out⟩
  · have HC1 := Lib.hid (hno.hit (by rw [HSZ.out]; exact hk) hyes)
    have HD1 := Lib.hid (RowS.ext HD0.out he1)
    have HK1 := Lib.hid (HT.out.ext _ _ HK0.out he1)
    obtain ⟨g, rfl, -, -⟩ := RowS.at HD1.out (by omega)
    clear hno hyes he1 HIX h HD0 HK0
    go_wp2_with fail
    go_loopw [5, 6] (fun vi vj wr => ∃ (i j : Nat) (dk : Array TeR), vi = .int .i64 (i : Int) ∧ vj = .int .i64 (j : Int) ∧ i < j ∧ j ≤ n ∧ Hid (Dls q d dk i j) ∧ Hid (RowS w0 wr base 33 (some ⟨g, 0, none⟩) n c dk) ∧ Hid (K wr)) (fun _ j _ => n - (intOf j).toNat)
    case atStart => exact ⟨k, k + 1, d, rfl, by go_num, by omega, by omega, HC1, HD1, HK1⟩
    case round =>
      clear HC1 HD1 HK1
      obtain ⟨i, j, dk, rfl, rfl, hij, hjn, HC, HD, HK⟩ := hrel
      by_cases hlt : j < n
      · have hin : i < n := by omega
        have i1 : (j : Int) < (n : Int) := by omega
        have i2 : (i : Int) < (n : Int) := by omega
        have HR1 := Lib.hid (HC.out.rest j (by omega))
        cases hb : q dk[j]! with
        | false =>
          have HB := Lib.hid hb
          obtain ⟨R, hR⟩ : ∃ R, dk[j]! = R := ⟨_, rfl⟩
          obtain ⟨vx, hvx⟩ : ∃ v, Value.slice R.A R.n R.c = v := ⟨_, rfl⟩
          have HVX := Lib.hid hvx
          have HKR := Lib.hid hR
          have L1 := Lib.hid (fun (W : World) (he : Ext wr W) => show W.cell? ⟨g, j, none⟩ = some vx from by rw [← HVX.out]; exact RowTe.load HD.out rfl hlt hR he)
          have HCM := HT.out.at HD.out HK.out hlt hR vx hvx false hb
          clear hvx hR
          clear hb
          have hc1 := L1.out wr (Ext.refl _)
          go_wp2_with fail
          refine (HCM.out _ (Ext.refl _)).mono ?_
          rintro e w6 ⟨rfl, he6⟩
          have HE6 := Lib.hid he6
          clear hc1 he6
          have HD6 := Lib.hid (RowS.ext HD.out HE6.out)
          have HK6 := Lib.hid (HT.out.ext _ _ HK.out HE6.out)
          have HJS : j < d.size := by rw [HSZ.out]; exact hlt
          have HC2 := Lib.hid (show Dls q d (dk.setIfInBounds i R) (i + 1) (j + 1) from by have h1 := HC.out.keep HJS (by have := HB.out; rw [HR1.out] at this; exact this); rw [← HR1.out, HKR.out] at h1; exact h1)
          have HD7 := Lib.hid (RowTe.set HD6.out rfl hin R (by rw [← HKR.out]; exact HD6.out.owAt hlt))
          obtain rfl := HVX.out
          obtain ⟨c8, c8f⟩ := RowTe.there HD6.out rfl hin
          have HK7 := Lib.hid (fun (W : World) (hg : w6.grownBy W (some g)) => HT.out.row _ W g HK6.out (own_typed2T HD6.out.own) hg)
          clear HC HCM L1 HE6 HJS HK HKR
          have HD8 := Lib.hid HD7.out
          have HK8 := Lib.hid (HK7.out _ (grown_set w6 g i (.slice R.A R.n R.c)))
          clear HD7 HD6 HK6 HK7 HD
          obtain ⟨W8, hW8⟩ : ∃ W, w6.setCell ⟨g, i, none⟩ (.slice R.A R.n R.c) = W := ⟨_, rfl⟩
          rw [hW8] at HD8 HK8
          go_wp2_with fail
          go_roundw
          case rel => (repeat apply Exists.intro); exact ⟨⟨i + 1, j + 1, dk.setIfInBounds i R, by go_num, by go_num, by omega, by omega, HC2, HD8, HK8⟩, rfl⟩
          case measure => simp [intOf]; omega
        | true =>
          have HB := Lib.hid hb
          obtain ⟨R, hR⟩ : ∃ R, dk[j]! = R := ⟨_, rfl⟩
          obtain ⟨vx, hvx⟩ : ∃ v, Value.slice R.A R.n R.c = v := ⟨_, rfl⟩
          have HVX := Lib.hid hvx
          have HKR := Lib.hid hR
          have L1 := Lib.hid (fun (W : World) (he : Ext wr W) => show W.cell? ⟨g, j, none⟩ = some vx from by rw [← HVX.out]; exact RowTe.load HD.out rfl hlt hR he)
          have HCM := HT.out.at HD.out HK.out hlt hR vx hvx true hb
          clear hvx hR
          clear hb
          have hc1 := L1.out wr (Ext.refl _)
          go_wp2_with fail
          refine (HCM.out _ (Ext.refl _)).mono ?_
          rintro e w6 ⟨rfl, he6⟩
          have HE6 := Lib.hid he6
          clear hc1 he6
          have HD6 := Lib.hid (RowS.ext HD.out HE6.out)
          have HK6 := Lib.hid (HT.out.ext _ _ HK.out HE6.out)
          have HJS : j < d.size := by rw [HSZ.out]; exact hlt
          have HC2 := Lib.hid (HC.out.skip HJS (by have := HB.out; rw [HR1.out] at this; exact this))
          clear HD HC HCM L1 HVX HK HE6 HJS
          go_wp2_with fail
          go_roundw
          case rel => (repeat apply Exists.intro); exact ⟨⟨i, j + 1, dk, rfl, by go_num, by omega, by omega, HC2, HD6, HK6⟩, rfl⟩
          case measure => simp [intOf]; omega
      · have i3 : ¬ (j : Int) < (n : Int) := by omega
        have y1 : i ≤ n := by omega
        have y2 : i ≤ c := by omega
        have y3 : ¬ c = i := by omega
        have y4 : ¬ n = i := by omega
        have y5 : 0 < n - i := by omega
        have HF := Lib.hid (show dk.toList.take i = keepL q d.toList from HC.out.all (by rw [HSZ.out]; omega))
        have hcl := fun ty => run_clearG teE te0_one wr ty g (i) (n - i) (c - i) y5 (RowTe.clearOk HD.out rfl y1).1 (RowTe.clearOk HD.out rfl y1).2
        have HD2 := Lib.hid (RowTe.cutClear HD.out rfl y1 (Builtin.zeroCells (Value.slice none 0 0).cells (n - i)).toList)
        have HK2 := Lib.hid (HT.out.row _ _ g HK.out (own_typed2T HD.out.own) (grown_setCells' wr g (Builtin.zeroCells (Value.slice none 0 0).cells (n - i)).toList (i)))
        have HLE := Lib.hid y1
        clear HD HC HK
        obtain ⟨W8, hW8⟩ : ∃ W, wr.setCells g (i) (Builtin.zeroCells (Value.slice none 0 0).cells (n - i)).toList = W := ⟨_, rfl⟩
        simp only [hW8] at hcl
        have HD3 := Lib.hid (show RowS w0 W8 base 33 (some ⟨g, 0, none⟩) i c (dk.toList.take i).toArray from by rw [← hW8]; exact HD2.out)
        have HK3 := Lib.hid (show K W8 from by rw [← hW8]; exact HK2.out)
        clear HD2 HK2 hW8
        go_wp2_with fail
        go_ret
        exact ⟨i, _, rfl, HLE.out, HD3.out, HF.out, HK3.out⟩
end Go.Proofs.Ytjlnmpjffogpdaa
