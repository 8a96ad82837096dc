/- Views compared (both sides). -/
import Derived.Test.YtjlnmpjffogpdaaK10
import Derived.Test.YtjlnmpjffogpdaaK01
import Derived.Test.YtjlnmpjffogpdaaK11
import Derived.Test.YtjlnmpjffogpdaaLay
namespace Go.Proofs.Ytjlnmpjffogpdaa
open Go.RowKit
set_option linter.unusedVariables false
set_option linter.unusedSimpArgs false
attribute [local go_sem ↓] Go.wp_at_zero Go.wp_at_succ

def eqVw (L : List SgR) (X : List TeR) (L' : List SgR) (X' : List TeR) : Bool := eqG eqSg L L' && eqG eqTe X X'
theorem vw_facts {w : World} {g : Nat} {t : TypeId} {A : Option Addr} {n c : Nat} {B : Option Addr} {m d : Nat} (h : Blk w g t (vwA A n c B m d)) : w.cell? ⟨g, 0, none⟩ = some (.slice A n c) ∧ w.cell? ⟨g, 1, none⟩ = some (.slice B m d) := ⟨h.cell 0, h.cell 1⟩

set_option maxRecDepth 100000 in
set_option maxHeartbeats 4000000 in
theorem sameSigned_any (R Q : SgR) (w : World) (hR : R.ok w) (hQ : Q.ok w) :
    Calls Try.prog 35 #[.agg (sgA R), .agg (sgA Q)] w fun e w' => e = .returned (.bool (eqSg R Q)) ∧ Ext w w' := by
  have hE := ((Ext.refl w).alloc' (.cells (sgA R) 45)).alloc' (.cells (sgA Q) 45)
  have HB1 := Lib.hid ((Blk.new w 45 (sgA R)).alloc (.cells (sgA Q) 45))
  have HB2 := Lib.hid (show Blk ((w.alloc (.cells (sgA R) 45)).alloc (.cells (sgA Q) 45)) (w.heap.size + 1) 45 (sgA Q) from Blk.newAt _ _ _ _ (by simp))
  have HE := Lib.hid hE
  have y8 := strV_eq' R.sig Q.sig
  have r8 := run_strV (hR.sig.ext hE)
  have t8 := run_strV (hQ.sig.ext hE)
  have hq := fun W => run_eqVt R.v Q.v hR.v hQ.v W
  have hqi := fun W => eqIn_Vt R.v Q.v hR.v hQ.v W
  have HV := Lib.hid (show eqSg R Q = (decide (R.v = Q.v) && decide (R.sig = Q.sig)) from rfl)
  obtain ⟨w0, hw0⟩ : ∃ w0, (w.alloc (.cells (sgA R) 45)).alloc (.cells (sgA Q) 45) = w0 := ⟨_, rfl⟩
  rw [hw0] at HB1 HB2 HE r8 t8
  have r1 : w0.rangeAt w.heap.size 0 (vtL R.v) := rangeAt_take (k := 22) (rangeAt_of_blk HB1.out)
  have r2 : w0.rangeAt (w.heap.size + 1) 0 (vtL Q.v) := rangeAt_take (k := 22) (rangeAt_of_blk HB2.out)
  have p1 : w0.cell? ⟨w.heap.size, 22, none⟩ = some (.slice R.A R.n R.c) := HB1.out.cell 22
  have p2 : w0.cell? ⟨w.heap.size + 1, 22, none⟩ = some (.slice Q.A Q.n Q.c) := HB2.out.cell 22
  clear hR hQ hE
  by_cases hv : R.v = Q.v
  · have HV' := Lib.hid (show eqSg R Q = decide (R.sig = Q.sig) by rw [HV.out]; simp [hv])
    rw [decide_eq_true hv] at hq hqi
    obtain ⟨bb, hbb⟩ : ∃ bb, decide (R.sig = Q.sig) = bb := ⟨_, rfl⟩
    rw [hbb] at y8 HV'
    clear hbb
    clear hv HV
    go_enter Try.func35, Try.ntmps35
    go_wp2_with (first | (with_reducible refine wpList_loadVt rfl (.tmp 5) rfl w.heap.size 0 rfl R.v r1 ?_) | (with_reducible refine wpList_loadVt rfl (.tmp 7) rfl (w.heap.size + 1) 0 rfl Q.v r2 ?_))
    go_ret
    exact ⟨by rw [HV'.out]; rfl, HE.out⟩
  · have HV' := Lib.hid (show eqSg R Q = false by rw [HV.out]; simp [hv])
    rw [decide_eq_false hv] at hq hqi
    clear y8 r8 t8
    clear hv HV
    go_enter Try.func35, Try.ntmps35
    go_wp2_with (first | (with_reducible refine wpList_loadVt rfl (.tmp 5) rfl w.heap.size 0 rfl R.v r1 ?_) | (with_reducible refine wpList_loadVt rfl (.tmp 7) rfl (w.heap.size + 1) 0 rfl Q.v r2 ?_))
    go_ret
    exact ⟨by rw [HV'.out]; rfl, HE.out⟩
set_option maxRecDepth 100000 in
set_option maxHeartbeats 4000000 in
theorem sameTexts_any (A : Option Addr) (n c : Nat) (L : List TeR) (A' : Option Addr) (n' c' : Nat) (M : List TeR) (w : World) (hS : SlG w A n c L) (hS' : SlG w A' n' c' M) :
    Calls Try.prog 15 #[.slice A n c, .slice A' n' c'] w fun e w' => e = .returned (.bool (eqG eqTe L M)) ∧ Ext w w' := by
  have hle := hS.le
  have hcap := hS.cap
  have hle' := hS'.le
  have hcap' := hS'.cap
  have HL := Lib.hid hS.len
  have HM := Lib.hid hS'.len
  by_cases hn : n = n'
  · subst hn
    have HS := Lib.hid hS
    have HS' := Lib.hid hS'
    have HCA := Lib.hid (show n = 0 ∨ ((∃ b o, A = some ⟨b, o, none⟩ ∧ w.rangeAt b o (gcs L) ∧ b < w.heap.size) ∧ ∃ b o, A' = some ⟨b, o, none⟩ ∧ w.rangeAt b o (gcs M) ∧ b < w.heap.size) from by
      rcases Nat.eq_zero_or_pos n with h0 | h0
      · exact .inl h0
      · exact .inr ⟨HS.out.at h0, HS'.out.at h0⟩)
    clear hS hS'
    go_enter Try.func15, Try.ntmps15
    go_wp2_with fail
    go_loopw [5] (fun i wr => ∃ k : Nat, k ≤ n ∧ i = .int .i64 (k : Int) ∧ Hid (∀ j, j < k → eqTe (nthG L j) (nthG M j) = true) ∧ Ext w wr) (fun i _ => n - (intOf i).toNat)
    case atStart => exact ⟨0, Nat.zero_le _, rfl, Lib.hid (fun j hj => by omega), Ext.refl _⟩
    case round =>
      obtain ⟨k, hk, rfl, HP, hX⟩ := hrel
      have HX := Lib.hid hX
      clear hX
      by_cases hlt : k < n
      · rcases HCA.out with h0 | ⟨⟨b, of, rfl, hr, hb⟩, b', of', rfl, hr', hb'⟩
        · omega
        have hr1 : wr.rangeAt b (of + k * 1) (teL (nthG L k)) := el_at (rangeAt_keep hr (HX.out.block b hb)) (k := k) (by rw [HL.out]; exact hlt)
        have hr2 : wr.rangeAt b' (of' + k * 1) (teL (nthG M k)) := el_at (rangeAt_keep hr' (HX.out.block b' hb')) (k := k) (by rw [HM.out]; exact hlt)
        clear hr hr' hb hb' HCA
        have HOK := Lib.hid (HS.out.nth hlt : (nthG L k).ok w)
        have HOK' := Lib.hid (HS'.out.nth hlt : (nthG M k).ok w)
        have HQ := Lib.hid (fun (hx : eqTe (nthG L k) (nthG M k) = true) => show ∀ j, j < k + 1 → eqTe (nthG L j) (nthG M j) = true from fun j hj => by
          rcases Nat.lt_or_ge j k with h | h
          · exact HP.out j h
          · obtain rfl : j = k := by omega
            exact hx)
        have HN := Lib.hid (fun (hx : eqTe (nthG L k) (nthG M k) = false) => show eqG eqTe L M = false from eqG_at (by rw [HL.out]; exact hlt) hx)
        have i0 : (0 : Int) ≤ (k : Int) := by omega
        have i1 : (k : Int) < (n : Int) := by omega
        obtain ⟨R, hR⟩ : ∃ R, nthG L k = R := ⟨_, rfl⟩
        obtain ⟨Q, hQ⟩ : ∃ Q, nthG M k = Q := ⟨_, rfl⟩
        rw [hR, hQ] at HQ HN
        rw [hR] at hr1 HOK
        rw [hQ] at hr2 HOK'
        clear hR hQ
        obtain ⟨RA, Rn, Rc, Rl⟩ := R
        obtain ⟨QA, Qn, Qc, Ql⟩ := Q
        have HC := Lib.hid (fun (W : World) (h : Ext wr W) => (⟨by have := rangeAt_keep hr1 (h.block b (rangeAt_lt hr1 (by intro e; cases e))) 0 _ rfl; rwa [Nat.mul_one, Nat.add_zero] at this, by have := rangeAt_keep hr2 (h.block b' (rangeAt_lt hr2 (by intro e; cases e))) 0 _ rfl; rwa [Nat.mul_one, Nat.add_zero] at this, run_strV (SlB.ext HOK.out (HX.out.trans h)), run_strV (SlB.ext HOK'.out (HX.out.trans h))⟩ : W.cell? ⟨b, of + k, none⟩ = some (.slice RA Rn Rc) ∧ W.cell? ⟨b', of' + k, none⟩ = some (.slice QA Qn Qc) ∧ (convert 33 9 (.slice RA Rn Rc)).run Try.prog W = .ok (.string (strV Rl)) W ∧ (convert 33 9 (.slice QA Qn Qc)).run Try.prog W = .ok (.string (strV Ql)) W))
        have y8 := strV_eq' Rl Ql
        obtain ⟨bb, hbb⟩ : ∃ bb, decide (Rl = Ql) = bb := ⟨_, rfl⟩
        rw [hbb] at y8
        clear hr1 hr2
        go_wp2_with fail
        refine wp_region_plan (S := fun W => Ext wr W) (by kernel_rfl) (by kernel_rfl) ((Ext.refl wr).drew') ?_
        (refine plan_take (i := 0) (oi := ⟨some 17, .move (.tmp 0), 30, "items.go:273", #[], none⟩) (v := ?_) rfl (by kernel_rfl) (by kernel_rfl) (fx_read (Or.inl ⟨by rfl, ?hy0⟩)) ?_; case hy0 => (intro W hSW; go_simp <;> with_reducible rfl))
        try simp only [lays]
        (refine plan_take (i := 1) (oi := ⟨some 18, .move (.tmp 5), 3, "items.go:273", #[], none⟩) (v := ?_) rfl (by kernel_rfl) (by kernel_rfl) (fx_read (Or.inl ⟨by rfl, ?hy1⟩)) ?_; case hy1 => (intro W hSW; go_simp <;> with_reducible rfl))
        try simp only [lays]
        (refine plan_take (i := 2) (oi := ⟨some 19, .indexAddr 30 (.tmp 17) (.tmp 18), 0, "items.go:273", #[⟨0, .data⟩, ⟨1, .data⟩], none⟩) (v := ?_) rfl (by kernel_rfl) (by kernel_rfl) (fx_read (Or.inl ⟨by rfl, ?hy2⟩)) ?_; case hy2 => (intro W hSW; go_simp <;> with_reducible rfl))
        try simp only [lays]
        (refine plan_take (i := 3) (oi := ⟨some 20, .load 33 (.tmp 19), 33, "items.go:273", #[⟨2, .data⟩], none⟩) (v := ?_) rfl (by kernel_rfl) (by kernel_rfl) (fx_read (Or.inl ⟨by rfl, ?hy3⟩)) ?_; case hy3 => (intro W hSW; obtain ⟨s1, s2, s3, s4⟩ := HC.out W hSW; go_simp <;> with_reducible rfl))
        try simp only [lays]
        (refine plan_take (i := 4) (oi := ⟨some 21, .convert 33 9 (.tmp 20), 9, "items.go:273", #[⟨3, .data⟩], none⟩) (v := ?_) rfl (by kernel_rfl) (by kernel_rfl) (fx_read (Or.inl ⟨by rfl, ?hy4⟩)) ?_; case hy4 => (intro W hSW; obtain ⟨s1, s2, s3, s4⟩ := HC.out W hSW; go_simp <;> with_reducible rfl))
        try simp only [lays]
        (refine plan_take (i := 5) (oi := ⟨some 22, .move (.tmp 1), 30, "items.go:273", #[], none⟩) (v := ?_) rfl (by kernel_rfl) (by kernel_rfl) (fx_read (Or.inl ⟨by rfl, ?hy5⟩)) ?_; case hy5 => (intro W hSW; go_simp <;> with_reducible rfl))
        try simp only [lays]
        (refine plan_take (i := 6) (oi := ⟨some 23, .move (.tmp 5), 3, "items.go:273", #[], none⟩) (v := ?_) rfl (by kernel_rfl) (by kernel_rfl) (fx_read (Or.inl ⟨by rfl, ?hy6⟩)) ?_; case hy6 => (intro W hSW; go_simp <;> with_reducible rfl))
        try simp only [lays]
        (refine plan_take (i := 7) (oi := ⟨some 24, .indexAddr 30 (.tmp 22) (.tmp 23), 0, "items.go:273", #[⟨5, .data⟩, ⟨6, .data⟩], none⟩) (v := ?_) rfl (by kernel_rfl) (by kernel_rfl) (fx_read (Or.inl ⟨by rfl, ?hy7⟩)) ?_; case hy7 => (intro W hSW; go_simp <;> with_reducible rfl))
        try simp only [lays]
        (refine plan_take (i := 8) (oi := ⟨some 25, .load 33 (.tmp 24), 33, "items.go:273", #[⟨7, .data⟩], none⟩) (v := ?_) rfl (by kernel_rfl) (by kernel_rfl) (fx_read (Or.inl ⟨by rfl, ?hy8⟩)) ?_; case hy8 => (intro W hSW; obtain ⟨s1, s2, s3, s4⟩ := HC.out W hSW; go_simp <;> with_reducible rfl))
        try simp only [lays]
        (refine plan_take (i := 9) (oi := ⟨some 26, .convert 33 9 (.tmp 25), 9, "items.go:273", #[⟨8, .data⟩], none⟩) (v := ?_) rfl (by kernel_rfl) (by kernel_rfl) (fx_read (Or.inl ⟨by rfl, ?hy9⟩)) ?_; case hy9 => (intro W hSW; obtain ⟨s1, s2, s3, s4⟩ := HC.out W hSW; go_simp <;> with_reducible rfl))
        try simp only [lays]
        (refine plan_take (i := 10) (oi := ⟨some 27, .binOp .neq 9 (.tmp 21) (.tmp 26) 9, 4, "items.go:273", #[⟨4, .data⟩, ⟨9, .data⟩], none⟩) (v := ?_) rfl (by kernel_rfl) (by kernel_rfl) (fx_read (Or.inl ⟨by rfl, ?hy10⟩)) ?_; case hy10 => (intro W hSW; go_simp <;> with_reducible rfl))
        try simp only [lays]
        refine Plan.done (by kernel_rfl) (fun W hSW => ?_)
        have HX1 := Lib.hid (HX.out.trans hSW)
        clear hSW
        cases bb with
        | true =>
          have HQ' := Lib.hid (HQ.out hbb)
          clear hbb
          go_wp2_with fail
          go_roundw
          case rel => exact ⟨k + 1, by omega, by go_num, HQ', HX1.out⟩
          case measure => simp [intOf]; omega
        | false =>
          have HN' := Lib.hid (HN.out hbb)
          clear hbb
          go_wp2_with fail
          go_ret
          exact ⟨by rw [HN'.out]; rfl, HX1.out⟩
      · obtain rfl : k = n := by omega
        have HV := Lib.hid (show eqG eqTe L M = true from eqG_yes (by rw [HL.out, HM.out]) (fun j hj => HP.out j (by rw [HL.out] at hj; exact hj)))
        go_wp2_with fail
        go_ret
        exact ⟨by rw [HV.out]; rfl, HX.out⟩
  · have HV := Lib.hid (show eqG eqTe L M = false from eqG_len (by rw [HL.out, HM.out]; exact hn))
    have d1 : ((n : Int) == (n' : Int)) = false := by simp; omega
    have d2 : decide ((n : Int) = (n' : Int)) = false := decide_eq_false (by omega)
    clear hS hS' hn
    go_enter Try.func15, Try.ntmps15
    go_wp2_with fail
    go_ret
    exact ⟨by rw [HV.out]; rfl, Ext.refl _⟩
end Go.Proofs.Ytjlnmpjffogpdaa

/- readOp (the program's). -/
namespace Go.Proofs.Ytjlnmpjffogpdaa
open Go.RowKit
set_option linter.unusedVariables false
set_option linter.unusedSimpArgs false
attribute [local go_sem ↓] Go.wp_at_zero Go.wp_at_succ

/-- an operation as a plain value -/
theorem nb8_nil (i : Nat) (hi : i < 8) : nb8 0 i = 0 := by
  match i, hi with
  | 0, _ | 1, _ | 2, _ | 3, _ | 4, _ | 5, _ | 6, _ | 7, _ => rfl
theorem retC {fn : Func} {p : Tmp} {ty : TypeId} (hres : fn.results = #[.cell p ty]) (tmps : Array Value) (w1 : World) (g : Nat) (cs : Array Value) (hp : tmps.getD p undef = .pointer (some ⟨g, 0, none⟩)) (hl : (loadVar ty ⟨g, 0, none⟩).run Try.prog w1 = .ok (.agg cs) w1) :
    (results fn tmps).run Try.prog w1 = .ok (.agg cs) w1 := by
  have hp' : tmps[p]?.getD undef = .pointer (some ⟨g, 0, none⟩) := by simpa using hp
  simp [results, hres, hp', asAddr, hl]
end Go.Proofs.Ytjlnmpjffogpdaa

/- SameView (the reference's). -/
namespace Go.Proofs.Ytjlnmpjffogpdaa
open Go.RowKit
set_option linter.unusedVariables false
set_option linter.unusedSimpArgs false
attribute [local go_sem ↓] Go.wp_at_zero Go.wp_at_succ

theorem yields_loadSg {ops : Array Oper} {S : World → Prop} {o : Oper} {a : Act} (hw : Region.wanted o (yielded ops a.tmps) = true) (x : Operand) (ho : o.op = .load 45 x) (b of : Nat) (hx : a.eval x = .pointer (some ⟨b, of, none⟩)) (R : SgR) (hS : ∀ w, S w → w.rangeAt b of (sgL R)) : YieldsIf Try.prog ops S o (.agg (sgA R)) a := by
  have := yieldsIf_load_mid (P := Try.prog) (S := S) hw 45 x ho b of hx (sgL R) _ hS Try.underlying45 rfl (by rw [sgL_length]; kernel_rfl)
  rw [sgL_arr] at this
  exact this
set_option maxRecDepth 100000 in
set_option maxHeartbeats 4000000 in
theorem sameView_any (A : Option Addr) (n c : Nat) (L : List SgR) (B : Option Addr) (m d : Nat) (X : List TeR) (A' : Option Addr) (n' c' : Nat) (L' : List SgR) (B' : Option Addr) (m' d' : Nat) (X' : List TeR) (w : World) (h1 : SlG w A n c L) (h2 : SlG w B m d X) (h1' : SlG w A' n' c' L') (h2' : SlG w B' m' d' X') :
    Calls Try.prog 12 #[.agg (vwA A n c B m d), .agg (vwA A' n' c' B' m' d')] w fun e w' => e = .returned (.bool (eqVw L X L' X')) ∧ Ext w w' := by
  have hle := h1.le
  have hcap := h1.cap
  have hle' := h1'.le
  have hcap' := h1'.cap
  have HL := Lib.hid h1.len
  have HM := Lib.hid h1'.len
  have hE := ((Ext.refl w).alloc' (.cells (vwA A n c B m d) 32)).alloc' (.cells (vwA A' n' c' B' m' d') 32)
  have HB1 := Lib.hid ((Blk.new w 32 (vwA A n c B m d)).alloc (.cells (vwA A' n' c' B' m' d') 32))
  have HB2 := Lib.hid (show Blk ((w.alloc (.cells (vwA A n c B m d) 32)).alloc (.cells (vwA A' n' c' B' m' d') 32)) (w.heap.size + 1) 32 (vwA A' n' c' B' m' d') from Blk.newAt _ _ _ _ (by simp))
  have HE := Lib.hid hE
  have HS := Lib.hid (h1.ext hE)
  have HS' := Lib.hid (h1'.ext hE)
  have HG := Lib.hid (fun (W : World) (h : Ext w W) => sameTexts_any B m d X B' m' d' X' W (h2.ext h) (h2'.ext h))
  have HV := Lib.hid (show eqVw L X L' X' = (eqG eqSg L L' && eqG eqTe X X') from rfl)
  obtain ⟨w0, hw0⟩ : ∃ w0, (w.alloc (.cells (vwA A n c B m d) 32)).alloc (.cells (vwA A' n' c' B' m' d') 32) = w0 := ⟨_, rfl⟩
  rw [hw0] at HB1 HB2 HE HS HS'
  have HQ := Lib.hid (fun (W : World) (h : Ext w0 W) => (⟨vw_facts (HB1.out.ext h), vw_facts (HB2.out.ext h)⟩ : (W.cell? ⟨w.heap.size, 0, none⟩ = some (.slice A n c) ∧ W.cell? ⟨w.heap.size, 1, none⟩ = some (.slice B m d)) ∧ (W.cell? ⟨w.heap.size + 1, 0, none⟩ = some (.slice A' n' c') ∧ W.cell? ⟨w.heap.size + 1, 1, none⟩ = some (.slice B' m' d'))))
  obtain ⟨⟨p1, p2⟩, q1, q2⟩ := HQ.out _ (Ext.refl _)
  clear h1 h2 h1' h2' hE
  by_cases hn : n = n'
  · subst hn
    have HCA := Lib.hid (show n = 0 ∨ ((∃ b o, A = some ⟨b, o, none⟩ ∧ w0.rangeAt b o (gcs L) ∧ b < w0.heap.size) ∧ ∃ b o, A' = some ⟨b, o, none⟩ ∧ w0.rangeAt b o (gcs L') ∧ b < w0.heap.size) from by
      rcases Nat.eq_zero_or_pos n with h0 | h0
      · exact .inl h0
      · exact .inr ⟨HS.out.at h0, HS'.out.at h0⟩)
    go_enter Try.func12, Try.ntmps12
    go_wp2_with fail
    clear p1 p2 q1 q2
    go_loopw [5] (fun i wr => ∃ k : Nat, k ≤ n ∧ i = .int .i64 (k : Int) ∧ Hid (∀ j, j < k → eqSg (nthG L j) (nthG L' j) = true) ∧ Hid (Ext w0 wr)) (fun i _ => n - (intOf i).toNat)
    case atStart => exact ⟨0, Nat.zero_le _, rfl, Lib.hid (fun j hj => by omega), Lib.hid (Ext.refl _)⟩
    case round =>
      obtain ⟨k, hk, rfl, HP, HX⟩ := hrel
      obtain ⟨⟨p1, p2⟩, q1, q2⟩ := HQ.out _ HX.out
      by_cases hlt : k < n
      · rcases HCA.out with h0 | ⟨⟨b, of, rfl, hr, hb⟩, b', of', rfl, hr', hb'⟩
        · omega
        have hr1 : wr.rangeAt b (of + k * 23) (sgL (nthG L k)) := el_at (rangeAt_keep hr (HX.out.block b hb)) (k := k) (by rw [HL.out]; exact hlt)
        have hr2 : wr.rangeAt b' (of' + k * 23) (sgL (nthG L' k)) := el_at (rangeAt_keep hr' (HX.out.block b' hb')) (k := k) (by rw [HM.out]; exact hlt)
        clear hr hr' hb hb' HCA
        have HOK := Lib.hid (HS.out.nth hlt : (nthG L k).ok w0)
        have HOK' := Lib.hid (HS'.out.nth hlt : (nthG L' k).ok w0)
        have HY := Lib.hid (fun (hx : eqSg (nthG L k) (nthG L' k) = true) => show ∀ j, j < k + 1 → eqSg (nthG L j) (nthG L' j) = true from fun j hj => by
          rcases Nat.lt_or_ge j k with h | h
          · exact HP.out j h
          · obtain rfl : j = k := by omega
            exact hx)
        have HN := Lib.hid (fun (hx : eqSg (nthG L k) (nthG L' k) = false) => show eqVw L X L' X' = false by rw [HV.out, eqG_at (by rw [HL.out]; exact hlt) hx, Bool.false_and])
        have i0 : (0 : Int) ≤ (k : Int) := by omega
        have i1 : (k : Int) < (n : Int) := by omega
        obtain ⟨R, hR⟩ : ∃ R, nthG L k = R := ⟨_, rfl⟩
        obtain ⟨Q, hQ⟩ : ∃ Q, nthG L' k = Q := ⟨_, rfl⟩
        rw [hR, hQ] at HY HN
        rw [hR] at hr1 HOK
        rw [hQ] at hr2 HOK'
        clear hR hQ
        have HR1 := Lib.hid (fun (W : World) (h : Ext wr W) => rangeAt_keep hr1 (h.block b (rangeAt_lt hr1 (by intro e; cases e))))
        have HR2 := Lib.hid (fun (W : World) (h : Ext wr W) => rangeAt_keep hr2 (h.block b' (rangeAt_lt hr2 (by intro e; cases e))))
        clear hr1 hr2
        go_wp2_with fail
        clear p1 p2 q1 q2
        refine wp_region_plan (S := fun W => Ext wr W) (by kernel_rfl) (by kernel_rfl) ((Ext.refl wr).drew') ?_
        (refine plan_take (i := 0) (oi := ⟨some 20, .fieldAddr 32 (.tmp 2) 0, 0, "snapshot.go:72", #[], none⟩) (v := ?_) rfl (by kernel_rfl) (by kernel_rfl) (fx_read (Or.inl ⟨by rfl, ?hy0⟩)) ?_; case hy0 => (intro W hSW; go_simp <;> with_reducible rfl))
        try simp only [lays]
        (refine plan_take (i := 1) (oi := ⟨some 21, .load 29 (.tmp 20), 29, "snapshot.go:72", #[⟨0, .data⟩], none⟩) (v := ?_) rfl (by kernel_rfl) (by kernel_rfl) (fx_read (Or.inl ⟨by rfl, ?hy1⟩)) ?_; case hy1 => (intro W hSW; obtain ⟨⟨s1, s2⟩, s3, s4⟩ := HQ.out W (HX.out.trans hSW); go_simp <;> with_reducible rfl))
        try simp only [lays]
        (refine plan_take (i := 2) (oi := ⟨some 22, .move (.tmp 5), 3, "snapshot.go:72", #[], none⟩) (v := ?_) rfl (by kernel_rfl) (by kernel_rfl) (fx_read (Or.inl ⟨by rfl, ?hy2⟩)) ?_; case hy2 => (intro W hSW; go_simp <;> with_reducible rfl))
        try simp only [lays]
        (refine plan_take (i := 3) (oi := ⟨some 23, .indexAddr 29 (.tmp 21) (.tmp 22), 0, "snapshot.go:72", #[⟨1, .data⟩, ⟨2, .data⟩], none⟩) (v := ?_) rfl (by kernel_rfl) (by kernel_rfl) (fx_read (Or.inl ⟨by rfl, ?hy3⟩)) ?_; case hy3 => (intro W hSW; go_simp <;> with_reducible rfl))
        try simp only [lays]
        (refine plan_take (i := 4) (oi := ⟨some 24, .load 45 (.tmp 23), 45, "snapshot.go:72", #[⟨3, .data⟩], none⟩) (v := .agg (sgA R)) rfl (by kernel_rfl) (by kernel_rfl) (fx_read ?hy4) ?_; case hy4 => (refine yields_loadSg ?hw (.tmp 23) rfl b (of + k * 23) ?hx R HR1.out; (case hw => rfl); (case hx => rfl)))
        try simp only [lays]
        (refine plan_take (i := 5) (oi := ⟨some 25, .fieldAddr 32 (.tmp 3) 0, 0, "snapshot.go:72", #[], none⟩) (v := ?_) rfl (by kernel_rfl) (by kernel_rfl) (fx_read (Or.inl ⟨by rfl, ?hy5⟩)) ?_; case hy5 => (intro W hSW; go_simp <;> with_reducible rfl))
        try simp only [lays]
        (refine plan_take (i := 6) (oi := ⟨some 26, .load 29 (.tmp 25), 29, "snapshot.go:72", #[⟨5, .data⟩], none⟩) (v := ?_) rfl (by kernel_rfl) (by kernel_rfl) (fx_read (Or.inl ⟨by rfl, ?hy6⟩)) ?_; case hy6 => (intro W hSW; obtain ⟨⟨s1, s2⟩, s3, s4⟩ := HQ.out W (HX.out.trans hSW); go_simp <;> with_reducible rfl))
        try simp only [lays]
        (refine plan_take (i := 7) (oi := ⟨some 27, .move (.tmp 5), 3, "snapshot.go:72", #[], none⟩) (v := ?_) rfl (by kernel_rfl) (by kernel_rfl) (fx_read (Or.inl ⟨by rfl, ?hy7⟩)) ?_; case hy7 => (intro W hSW; go_simp <;> with_reducible rfl))
        try simp only [lays]
        (refine plan_take (i := 8) (oi := ⟨some 28, .indexAddr 29 (.tmp 26) (.tmp 27), 0, "snapshot.go:72", #[⟨6, .data⟩, ⟨7, .data⟩], none⟩) (v := ?_) rfl (by kernel_rfl) (by kernel_rfl) (fx_read (Or.inl ⟨by rfl, ?hy8⟩)) ?_; case hy8 => (intro W hSW; go_simp <;> with_reducible rfl))
        try simp only [lays]
        (refine plan_take (i := 9) (oi := ⟨some 29, .load 45 (.tmp 28), 45, "snapshot.go:72", #[⟨8, .data⟩], none⟩) (v := .agg (sgA Q)) rfl (by kernel_rfl) (by kernel_rfl) (fx_read ?hy9) ?_; case hy9 => (refine yields_loadSg ?hw (.tmp 28) rfl b' (of' + k * 23) ?hx Q HR2.out; (case hw => rfl); (case hx => rfl)))
        try simp only [lays]
        (refine plan_take (i := 10) (oi := ⟨some 30, .call { callee := .value (.func 35), args := #[.tmp 24, .tmp 29], argTypes := #[45, 45] }, 4, "snapshot.go:72", #[⟨4, .data⟩, ⟨9, .data⟩], none⟩) (v := ?_) rfl (by kernel_rfl) (by kernel_rfl) (fx_call (by rfl) (fun W hSW K hK => ?hy10)) ?_; case hy10 => (go_simp; go_at_call 35; (with_reducible refine (sameSigned_any R Q W (SgR.ok.ext HOK.out (HX.out.trans hSW)) (SgR.ok.ext HOK'.out (HX.out.trans hSW))).mono ?_); rintro e w1 ⟨rfl, he1⟩; exact hK.out _ (hSW.trans he1)))
        try simp only [lays]
        (refine plan_take (i := 11) (oi := ⟨some 31, .unOp .not 4 (.tmp 30), 4, "snapshot.go:72", #[⟨10, .data⟩], none⟩) (v := ?_) rfl (by kernel_rfl) (by kernel_rfl) (fx_read (Or.inl ⟨by rfl, ?hy11⟩)) ?_; case hy11 => (intro W hSW; go_simp <;> with_reducible rfl))
        try simp only [lays]
        refine Plan.done (by kernel_rfl) (fun W hSW => ?_)
        have HX1 := Lib.hid (HX.out.trans hSW)
        clear hSW
        cases hv : eqSg R Q with
        | true =>
          have HY' := Lib.hid (HY.out hv)
          clear hv
          go_wp2_with fail
          go_roundw
          case rel => exact ⟨k + 1, by omega, by go_num, HY', HX1⟩
          case measure => simp [intOf]; omega
        | false =>
          have HN' := Lib.hid (HN.out hv)
          clear hv
          go_wp2_with fail
          go_ret
          exact ⟨by rw [HN'.out]; rfl, HE.out.trans HX1.out⟩
      · obtain rfl : k = n := by omega
        have HV' := Lib.hid (show eqVw L X L' X' = eqG eqTe X X' by rw [HV.out, eqG_yes (by rw [HL.out, HM.out]) (fun j hj => HP.out j (by rw [HL.out] at hj; exact hj)), Bool.true_and])
        go_wp2_with fail
        refine (HG.out _ (HE.out.trans HX.out)).mono ?_
        rintro e w2 ⟨rfl, he2⟩
        have HX2 := Lib.hid (HE.out.trans (HX.out.trans he2))
        clear he2
        go_wp2_with fail
        go_ret
        exact ⟨by rw [HV'.out]; rfl, HX2.out⟩
  · have HV' := Lib.hid (show eqVw L X L' X' = false by rw [HV.out, eqG_len (by rw [HL.out, HM.out]; exact hn), Bool.false_and])
    have d1 : ((n : Int) == (n' : Int)) = false := by simp; omega
    have d2 : decide ((n : Int) = (n' : Int)) = false := decide_eq_false (by omega)
    clear hn
    go_enter Try.func12, Try.ntmps12
    go_wp2_with fail
    go_ret
    exact ⟨by rw [HV'.out]; rfl, HE.out⟩
end Go.Proofs.Ytjlnmpjffogpdaa
