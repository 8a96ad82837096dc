/- The two tests of parcel.Missing: is this vote (this text) in the set? -/
import Derived.Test.YtjlnmpjffogpdaaK10
import Derived.Test.YtjlnmpjffogpdaaK40
import Derived.Test.YtjlnmpjffogpdaaK43
import Derived.Test.YtjlnmpjffogpdaaK44
import Derived.Test.YtjlnmpjffogpdaaK39
namespace Go.Proofs.Ytjlnmpjffogpdaa
open Go.RowKit
set_option linter.unusedVariables false
set_option linter.unusedSimpArgs false
attribute [local go_sem ↓] Go.wp_at_zero Go.wp_at_succ

/-- cell B leads to the map M, which holds the votes S -/
structure SetV (B M n : Nat) (S : List VtR) (w : World) : Prop where
  blk : Blk w B 75 #[.map (some M)]
  map : w.ownsMap Try.prog 28 (plainElem Try.prog 4) M n (Maps.setOf yesD (S.map vtKl))
structure SetT (B M n : Nat) (S : List (List UInt8)) (w : World) : Prop where
  blk : Blk w B 76 #[.map (some M)]
  map : w.ownsMap Try.prog 9 (plainElem Try.prog 4) M n (Maps.setOf yesD (S.map teKl))
section
variable {H : Type} {P : Program} {k : TypeId} {R : Value → Option (DataW H × List MemPlace)} {B M n b : Nat} {D : DataW H} {w w' : World}
theorem map_block (h : w.ownsMap P k R b n D) : ∃ es clock, w.heap[b]? = some (.map es clock) := by
  obtain ⟨es, clock, hb, _⟩ := h
  exact ⟨es, clock, hb⟩
theorem map_ext (h : w.ownsMap P k R b n D) (he : Ext w w') : w'.ownsMap P k R b n D := h.kept (Ext.grown he none) (by simp)
theorem map_row (h : w.ownsMap P k R b n D) {g : Nat} (hr : ∃ cur e p, w.heap[g]? = some (.cells cur e p)) (hg : w.grownBy w' (some g)) : w'.ownsMap P k R b n D := h.kept hg (fun e => by
  injection e with e; subst e
  obtain ⟨es, clock, h1⟩ := map_block h
  obtain ⟨cur, e, p, h2⟩ := hr
  rw [h1] at h2; cases h2)
end
section
variable {B M n : Nat} {S : List VtR} {S' : List (List UInt8)} {w w' : World}
theorem SetV.ext (h : SetV B M n S w) (he : Ext w w') : SetV B M n S w' := ⟨h.blk.ext he, map_ext h.map he⟩
theorem SetT.ext (h : SetT B M n S' w) (he : Ext w w') : SetT B M n S' w' := ⟨h.blk.ext he, map_ext h.map he⟩
theorem SetV.row (h : SetV B M n S w) {g : Nat} {e : TypeId} (hr : ∃ cur p, w.heap[g]? = some (.cells cur e p)) (he : e ≠ 75) (hg : w.grownBy w' (some g)) : SetV B M n S w' := by
  obtain ⟨cur, p, h2⟩ := hr
  refine ⟨h.blk.grown hg (fun q => ?_), map_row h.map ⟨cur, e, p, h2⟩ hg⟩
  injection q with q; subst q
  have h1 := h.blk
  unfold Blk at h1
  rw [h2] at h1; injection h1 with h1; injection h1 with _ h1; exact he h1
theorem SetT.row (h : SetT B M n S' w) {g : Nat} {e : TypeId} (hr : ∃ cur p, w.heap[g]? = some (.cells cur e p)) (he : e ≠ 76) (hg : w.grownBy w' (some g)) : SetT B M n S' w' := by
  obtain ⟨cur, p, h2⟩ := hr
  refine ⟨h.blk.grown hg (fun q => ?_), map_row h.map ⟨cur, e, p, h2⟩ hg⟩
  injection q with q; subst q
  have h1 := h.blk
  unfold Blk at h1
  rw [h2] at h1; injection h1 with h1; injection h1 with _ h1; exact he h1
end
theorem zeroBool (w : World) : (zeroValue 4).run Try.prog w = .ok (.bool false) w := by kernel_rfl
theorem wpList_loadVtV {o : Oper} {a : Act} {w : World} {ops : Array Oper} {rest : List Oper} {Q : Exit → Act → World → Prop} (hgd : o.guard = none) (x : Operand) (ho : o.op = .load 28 x) (b of : Nat) (hx : a.eval x = .pointer (some ⟨b, of, none⟩)) (R : VtR) (v : Value) (hv : Value.agg (vtA R) = v) (hc : w.rangeAt b of (vtL R))
    (h : wpList Try.prog ops Q rest (a.put o.dst v) w) : wpList Try.prog ops Q (o :: rest) a w := wpList_loadVt hgd x ho b of hx R hc (by rw [hv]; exact h)
theorem SetV.look {B M n : Nat} {S : List VtR} {w : World} (h : SetV B M n S w) (hS : ∀ x ∈ S, x.wf) (v : VtR) (hv : v.wf) (vv : Value) (hvv : Value.agg (vtA v) = vv) : (Instr.lookup 75 (.map (some M)) vv false).run Try.prog w = .ok (.bool (decide (v ∈ S))) w := by
  have := look_set lawVt Try.underlying75 Try.underlying4 (zeroBool w) h.map (keyOf_vt v hv)
  rw [← hvv, this, any_vt hS hv]
theorem SetT.look {B M n : Nat} {S : List (List UInt8)} {w : World} (h : SetT B M n S w) (l : List UInt8) (hl : l.length ≤ maxLen) (vv : ByteArray) (hvv : strV l = vv) : (Instr.lookup 76 (.map (some M)) (.string vv) false).run Try.prog w = .ok (.bool (decide (l ∈ S))) w := by
  have := look_set lawStr Try.underlying76 Try.underlying4 (zeroBool w) h.map (keyOf_te l hl)
  rw [← hvv]; unfold strV; rw [this, any_te]
set_option maxRecDepth 100000 in
set_option maxHeartbeats 4000000 in
theorem miss1_any {B M n : Nat} {S : List VtR} (hS : ∀ x ∈ S, x.wf) (x : SgR) (w : World) (hK : SetV B M n S w) (hx : x.ok w) : Calls Try.prog 32 #[.agg (sgA x), .pointer (some ⟨B, 0, none⟩)] w fun e w' => e = .returned (.bool (decide (x.v ∈ S))) ∧ Ext w w' := by
  obtain ⟨W5, hW5⟩ : ∃ W5, w.alloc (.cells (sgA x) 45) = W5 := ⟨_, rfl⟩
  obtain ⟨vv, hvv⟩ : ∃ v, Value.agg (vtA x.v) = v := ⟨_, rfl⟩
  have HVV := Lib.hid hvv
  have HE := Lib.hid (show Ext w W5 from by rw [← hW5]; exact (Ext.refl w).alloc' _)
  have HB := Lib.hid (show Blk W5 w.heap.size 45 (sgA x) from by rw [← hW5]; exact Blk.new _ _ _)
  have HK := Lib.hid (hK.ext HE.out)
  have hc : W5.cell? ⟨B, 0, none⟩ = some (.map (some M)) := HK.out.blk.cell 0
  have hr : W5.rangeAt w.heap.size 0 (vtL x.v) := rangeAt_take (k := 22) (rangeAt_of_blk HB.out)
  have hlk := HK.out.look hS x.v hx.v vv hvv
  obtain ⟨r, hR⟩ : ∃ r, decide (x.v ∈ S) = r := ⟨_, rfl⟩
  rw [hR] at hlk ⊢
  clear hvv hK hx hR
  go_enter Try.func32, Try.ntmps32
  go_wp2_with (first | (with_reducible refine wpList_loadVtV rfl (.tmp 5) rfl w.heap.size 0 rfl x.v vv HVV.out hr ?_))
  go_ret
  exact ⟨rfl, HE.out⟩
set_option maxRecDepth 100000 in
set_option maxHeartbeats 4000000 in
theorem miss2_any {B M n : Nat} {S : List (List UInt8)} (x : TeR) (w : World) (hK : SetT B M n S w) (hx : x.ok w) : Calls Try.prog 34 #[.slice x.A x.n x.c, .pointer (some ⟨B, 0, none⟩)] w fun e w' => e = .returned (.bool (decide (x.l ∈ S))) ∧ Ext w w' := by
  have hst := run_strV hx
  have hlen : x.l.length ≤ maxLen := by have := hx.len; have h2 := SlB.le hx; have h3 := SlB.cap hx; simp only [maxLen]; omega
  obtain ⟨vv, hvv⟩ : ∃ v, strV x.l = v := ⟨_, rfl⟩
  have hlk := hK.look x.l hlen vv hvv
  rw [hvv] at hst
  have hc : w.cell? ⟨B, 0, none⟩ = some (.map (some M)) := hK.blk.cell 0
  obtain ⟨r, hR⟩ : ∃ r, decide (x.l ∈ S) = r := ⟨_, rfl⟩
  rw [hR] at hlk ⊢
  clear hvv hK hx hR
  go_enter Try.func34, Try.ntmps34
  go_wp2_with fail
  go_ret
  exact ⟨rfl, Ext.refl _⟩
/-- the two tests, for DeleteFunc -/
theorem miss1_tst (B M n B2 M2 n2 : Nat) (S : List VtR) (S2 : List (List UInt8)) (hS : ∀ x ∈ S, x.wf) : TstSg 32 B (fun x => decide (x.v ∈ S)) (fun W => SetV B M n S W ∧ SetT B2 M2 n2 S2 W) where
  eg := enters_of Try.func32 (by kernel_rfl) rfl
  says x W hK hx := miss1_any hS x W hK.1 hx
  ext W W' hK he := ⟨hK.1.ext he, hK.2.ext he⟩
  row W W' g hK hr hg := ⟨hK.1.row hr (by decide) hg, hK.2.row hr (by decide) hg⟩
theorem miss2_tst (B M n B2 M2 n2 : Nat) (S : List VtR) (S2 : List (List UInt8)) : TstTe 34 B2 (fun x => decide (x.l ∈ S2)) (fun W => SetV B M n S W ∧ SetT B2 M2 n2 S2 W) where
  eg := enters_of Try.func34 (by kernel_rfl) rfl
  says x W hK hx := miss2_any x W hK.2 hx
  ext W W' hK he := ⟨hK.1.ext he, hK.2.ext he⟩
  row W W' g hK hr hg := ⟨hK.1.row hr (by decide) hg, hK.2.row hr (by decide) hg⟩
end Go.Proofs.Ytjlnmpjffogpdaa

/- Parcels joined (parcel.Join). -/
namespace Go.Proofs.Ytjlnmpjffogpdaa
open Go.RowKit
set_option linter.unusedVariables false
set_option linter.unusedSimpArgs false
attribute [local go_sem ↓] Go.wp_at_zero Go.wp_at_succ

section
variable {w0 w w' : World} {VB : Nat} {A : Option Addr} {n n2 c : Nat} {L L2 : List SgR} {B : Option Addr} {m m2 d : Nat} {X X2 : List TeR}
/-- votes are appended, and the row stored -/
theorem ClS.app1 (h : ClS w0 w VB A n c L B m d X) {A' : Option Addr} {c' : Nat} (hS : ∀ S ∈ L2, OwnB w w0.heap.size 5 S.A S.n S.c S.sig ∧ S.v.wf) (hg : w.grownBy w' (Value.ownBlock (.slice A n c))) (ho : w'.ownsRow w0.heap.size 45 23 (.slice A' (n + n2) c') (n + n2) (gcs L ++ gcs L2)) :
    ClS w0 (w'.setCell ⟨VB, 0, none⟩ (.slice A' (n + n2) c')) VB A' (n + n2) c' (L ++ L2) B m d X ∧ (∀ g cs, g ≠ VB → Blk w g 32 cs → Blk (w'.setCell ⟨VB, 0, none⟩ (.slice A' (n + n2) c')) g 32 cs) ∧
    (∀ T : TeR, OwnB w w0.heap.size 5 T.A T.n T.c T.l → OwnB (w'.setCell ⟨VB, 0, none⟩ (.slice A' (n + n2) c')) w0.heap.size 5 T.A T.n T.c T.l) ∧ ∀ (B2 : Option Addr) (m2 d2 : Nat) (xs : List Value), w.ownsRow w0.heap.size 33 1 (.slice B2 m2 d2) m2 xs → (w'.setCell ⟨VB, 0, none⟩ (.slice A' (n + n2) c')).ownsRow w0.heap.size 33 1 (.slice B2 m2 d2) m2 xs := by
  have h2 : Blk w' VB 32 (vwA A n c B m d) := h.blk.grown hg (own_other h.vw.own1 h.blk (by decide))
  have h3 := grown_set w' VB 0 (.slice A' (n + n2) c')
  have h4 : Ext w0 w' := Below.grown h.low hg h.low.size (fun k hk => (World.ownsRow.lt h.vw.own1 k hk).1)
  have h5 : Ext w0 (w'.setCell ⟨VB, 0, none⟩ (.slice A' (n + n2) c')) := h4.setCell (p := ⟨VB, 0, none⟩) (Nat.le_of_lt h.hV) _
  have hB1 : ∀ {A0 : Option Addr} {n0 c0 : Nat} {l0 : List UInt8}, OwnB w w0.heap.size 5 A0 n0 c0 l0 → OwnB (w'.setCell ⟨VB, 0, none⟩ (.slice A' (n + n2) c')) w0.heap.size 5 A0 n0 c0 l0 := fun hQ => by
    have hq : OwnB w' w0.heap.size 5 _ _ _ _ := World.ownsRow.kept hQ hg (own_ne hQ h.vw.own1 (by decide))
    exact World.ownsRow.kept hq h3 (.inr (Ne.symm (own_other hq h2 (by decide))))
  have hR : ∀ (B2 : Option Addr) (m2 d2 : Nat) (xs : List Value), w.ownsRow w0.heap.size 33 1 (.slice B2 m2 d2) m2 xs → (w'.setCell ⟨VB, 0, none⟩ (.slice A' (n + n2) c')).ownsRow w0.heap.size 33 1 (.slice B2 m2 d2) m2 xs := fun B2 m2 d2 xs hr => by
    have hq := World.ownsRow.kept hr hg (own_ne hr h.vw.own1 (by decide))
    exact hq.kept h3 (.inr (Ne.symm (own_other hq h2 (by decide))))
  refine ⟨⟨h2.set 0 _, ⟨?_, hR _ _ _ _ h.vw.own2, ?_, fun T hT => hB1 (h.vw.tex T hT)⟩, h5, h.hV⟩, fun g cs hne hb => (hb.grown hg (own_other h.vw.own1 hb (by decide))).far (p := ⟨VB, 0, none⟩) hne _, fun T hT => hB1 hT, hR⟩
  · have := ho.kept h3 (.inr (Ne.symm (own_other ho h2 (by decide))))
    rw [gcs_append]
    exact this
  · intro Q hQ
    rcases List.mem_append.1 hQ with hQ | hQ
    · exact ⟨hB1 (h.vw.sig Q hQ).1, (h.vw.sig Q hQ).2⟩
    · exact ⟨hB1 (hS Q hQ).1, (hS Q hQ).2⟩
/-- texts are appended, and the row stored -/
theorem ClS.app2 (h : ClS w0 w VB A n c L B m d X) {B' : Option Addr} {d' : Nat} (hT : ∀ T ∈ X2, OwnB w w0.heap.size 5 T.A T.n T.c T.l) (hg : w.grownBy w' (Value.ownBlock (.slice B m d))) (ho : w'.ownsRow w0.heap.size 33 1 (.slice B' (m + m2) d') (m + m2) (gcs X ++ gcs X2)) :
    ClS w0 (w'.setCell ⟨VB, 1, none⟩ (.slice B' (m + m2) d')) VB A n c L B' (m + m2) d' (X ++ X2) ∧ ∀ g cs, g ≠ VB → Blk w g 32 cs → Blk (w'.setCell ⟨VB, 1, none⟩ (.slice B' (m + m2) d')) g 32 cs := by
  have h2 : Blk w' VB 32 (vwA A n c B m d) := h.blk.grown hg (own_other h.vw.own2 h.blk (by decide))
  have h3 := grown_set w' VB 1 (.slice B' (m + m2) d')
  have h4 : Ext w0 w' := Below.grown h.low hg h.low.size (fun k hk => (World.ownsRow.lt h.vw.own2 k hk).1)
  have h5 : Ext w0 (w'.setCell ⟨VB, 1, none⟩ (.slice B' (m + m2) d')) := h4.setCell (p := ⟨VB, 1, none⟩) (Nat.le_of_lt h.hV) _
  have hB1 : ∀ {A0 : Option Addr} {n0 c0 : Nat} {l0 : List UInt8}, OwnB w w0.heap.size 5 A0 n0 c0 l0 → OwnB (w'.setCell ⟨VB, 1, none⟩ (.slice B' (m + m2) d')) w0.heap.size 5 A0 n0 c0 l0 := fun hQ => by
    have hq : OwnB w' w0.heap.size 5 _ _ _ _ := World.ownsRow.kept hQ hg (own_ne hQ h.vw.own2 (by decide))
    exact World.ownsRow.kept hq h3 (.inr (Ne.symm (own_other hq h2 (by decide))))
  refine ⟨⟨h2.set 1 _, ⟨?_, ?_, fun Q hQ => ⟨hB1 (h.vw.sig Q hQ).1, (h.vw.sig Q hQ).2⟩, ?_⟩, h5, h.hV⟩, fun g cs hne hb => (hb.grown hg (own_other h.vw.own2 hb (by decide))).far (p := ⟨VB, 1, none⟩) hne _⟩
  · have hq := World.ownsRow.kept h.vw.own1 hg (own_ne h.vw.own1 h.vw.own2 (by decide))
    exact hq.kept h3 (.inr (Ne.symm (own_other hq h2 (by decide))))
  · have := ho.kept h3 (.inr (Ne.symm (own_other ho h2 (by decide))))
    rw [gcs_append]
    exact this
  · intro Q hQ
    rcases List.mem_append.1 hQ with hQ | hQ
    · exact hB1 (h.vw.tex Q hQ)
    · exact hB1 (hT Q hQ)
end
/-- what Join answers -/
def JnOut (w : World) (ls : List (List UInt8)) (e : Ending) (w' : World) : Prop := ∃ (A' : Option Addr) (n' c' : Nat) (L' : List SgR) (B' : Option Addr) (m' d' : Nat) (X' : List TeR), e = .returned (.tuple #[.agg (vwA A' n' c' B' m' d'), .int .i64 ((joV ls).2 : Int)]) ∧ VwO w' w.heap.size A' n' c' L' B' m' d' X' ∧ L'.map SgR.V = canonO ltSv (joV ls).1.1 ∧ X'.map TeR.l = canonO lexB (joV ls).1.2 ∧ Ext w w'
set_option maxRecDepth 100000 in
set_option maxHeartbeats 16000000 in
theorem join_any (B : Option Addr) (m d : Nat) (X : List TeR) (w : World) (hX : SlG w B m d X) (hm : m ≤ 1000) (hXn : ∀ T, T ∈ X → T.n ≤ 100000000) :
    Calls Try.prog 29 #[.slice B m d] w (JnOut w (X.map TeR.l)) := by
  have hcap2 := hX.cap
  have hle2 := hX.le
  obtain ⟨W2, hW2⟩ : ∃ W2, (w.alloc (.cells (vwA none 0 0 none 0 0) 32)).alloc (.cells (vwA none 0 0 none 0 0) 32) = W2 := ⟨_, rfl⟩
  have HR := Lib.hid (show Blk W2 w.heap.size 32 (vwA none 0 0 none 0 0) from by rw [← hW2]; exact (Blk.new _ _ _).alloc _)
  have HC := Lib.hid (show ClS w W2 (w.heap.size + 1) none 0 0 [] none 0 0 [] from by
    rw [← hW2]
    exact ⟨Blk.newAt _ _ _ _ (by simp), VwO.nil _ _, ((Ext.refl w).alloc' _).alloc' _, by omega⟩)
  have HX := Lib.hid hX
  have HXA := Lib.hid (fun (h : 0 < m) => HX.out.at h)
  have HXn := Lib.hid hXn
  clear hX hXn
  go_enter Try.func29, Try.ntmps29
  go_wp2_with fail
  clear hW2
  go_loopw [5, 12] (fun vb vi wr => ∃ (k bad : Nat) (A : Option Addr) (n c : Nat) (L : List SgR) (B2 : Option Addr) (m2 d2 : Nat) (X2 : List TeR), vi = .int .i64 (k : Int) ∧ vb = .int .i64 (bad : Int) ∧ k ≤ m ∧ bad ≤ k ∧ n ≤ 64 * k ∧ m2 ≤ 64 * k ∧ Hid (joV ((X.take k).map TeR.l) = ((L.map SgR.V, X2.map TeR.l), bad)) ∧ Hid (ClS w wr (w.heap.size + 1) A n c L B2 m2 d2 X2) ∧ Hid (Blk wr w.heap.size 32 (vwA none 0 0 none 0 0)) ∧ Hid ((∀ S ∈ L, S.n ≤ 140737488355328) ∧ ∀ T ∈ X2, T.n ≤ 140737488355328)) (fun _ i _ => m - (intOf i).toNat)
  case atStart => exact ⟨0, 0, none, 0, 0, [], none, 0, 0, [], rfl, rfl, Nat.zero_le _, Nat.le_refl _, Nat.zero_le _, Nat.zero_le _, Lib.hid rfl, HC, HR, Lib.hid ⟨fun S hS => (by cases hS), fun T hT => (by cases hT)⟩⟩
  case round =>
    clear HC HR
    obtain ⟨k, bad, A, n, c, L, B2, m2, d2, X2, rfl, rfl, hk, hbad, hn64, hm64, HJ, HC, HR, HN⟩ := hrel
    by_cases hlt : k < m
    · obtain ⟨b, o, rfl, hr0, hb⟩ := HXA.out (by omega)
      have i1 : (k : Int) < (m : Int) := by omega
      obtain ⟨T, hT⟩ : ∃ T, nthG X k = T := ⟨_, rfl⟩
      have hr1 := el_at (rangeAt_keep hr0 (HC.out.low.block b hb)) (k := k) (by rw [HX.out.len]; exact hlt)
      have hok := (HX.out.ext HC.out.low).nth (k := k) hlt
      have hTn := HXn.out _ (nthG_mem (L := X) (k := k) (by rw [HX.out.len]; exact hlt))
      have HTK := Lib.hid (show (X.take (k + 1)).map TeR.l = (X.take k).map TeR.l ++ [T.l] from by rw [take_nthG (L := X) (k := k) (by rw [HX.out.len]; exact hlt), List.map_append, hT]; rfl)
      rw [hT] at hr1 hok hTn
      obtain ⟨Ta, Tn, Tc, Tl⟩ := T
      have hc1 : wr.cell? ⟨b, o + k, none⟩ = some (.slice Ta Tn Tc) := by
        have := hr1 0 (.slice Ta Tn Tc) rfl
        simpa [show RowT.sz TeR = 1 from rfl] using this
      have HPD := Lib.hid (pcDec2_any Ta Tn Tc Tl wr hok hTn)
      clear hr0 hr1 hok hT
      go_wp2_with fail
      refine HPD.out.mono ?_
      rintro e w6 ⟨A6, n6, c6, L6, B6, m6, d6, X6, z, rfl, hv6, he6, hcase⟩
      have HV6 := Lib.hid (hv6.mono HC.out.low.size)
      have HC6 := Lib.hid (HC.out.ext he6)
      have HR6 := Lib.hid (HR.out.ext he6)
      clear hv6 he6 HC HR HPD hc1
      rcases hcase with ⟨hz, hno⟩ | ⟨rfl, hyes, h64, h64', hS370, hT65⟩
      · have HJ2 := Lib.hid (show joV ((X.take (k + 1)).map TeR.l) = ((L.map SgR.V, X2.map TeR.l), bad + 1) from by rw [HTK.out, joV_snoc, HJ.out]; unfold joS; rw [hno])
        have hz' : ¬ z = 0 := hz
        have HC7 := Lib.hid (HC6.out.ext ((Ext.refl w6).alloc' (.cells (vwA A6 n6 c6 B6 m6 d6) 32)))
        have HR7 := Lib.hid (HR6.out.alloc (.cells (vwA A6 n6 c6 B6 m6 d6) 32))
        clear HV6 HC6 HR6 hno hz
        go_wp2_with fail
        go_roundw
        case rel => exact ⟨k + 1, bad + 1, A, n, c, L, B2, m2, d2, X2, by go_num, by go_num, by omega, by omega, by omega, by omega, HJ2, HC7, HR7, HN⟩
        case measure => simp [intOf]; omega
      · have HJ2 := Lib.hid (show joV ((X.take (k + 1)).map TeR.l) = (((L ++ L6).map SgR.V, (X2 ++ X6).map TeR.l), bad) from by rw [HTK.out, joV_snoc, HJ.out]; unfold joS; rw [hyes, List.map_append, List.map_append])
        have HN2 := Lib.hid (show (∀ S ∈ L ++ L6, S.n ≤ 140737488355328) ∧ ∀ T ∈ X2 ++ X6, T.n ≤ 140737488355328 from by
          constructor
          · intro S hS
            rcases List.mem_append.1 hS with hS | hS
            · exact HN.out.1 S hS
            · have := hS370 S hS; omega
          · intro T hT
            rcases List.mem_append.1 hT with hT | hT
            · exact HN.out.2 T hT
            · have := hT65 T hT; omega)
        obtain ⟨g8, hg8⟩ : ∃ q, w6.heap.size = q := ⟨_, rfl⟩
        obtain ⟨W7, hW7⟩ : ∃ W, w6.alloc (.cells (vwA A6 n6 c6 B6 m6 d6) 32) = W := ⟨_, rfl⟩
        have HE7 := Lib.hid (show Ext w6 W7 from by rw [← hW7]; exact (Ext.refl w6).alloc' _)
        have HB7 := Lib.hid (show Blk W7 g8 32 (vwA A6 n6 c6 B6 m6 d6) from by rw [← hW7, ← hg8]; exact Blk.new _ _ _)
        have HG8 := Lib.hid (show w.heap.size + 1 < g8 from by rw [← hg8]; exact HC6.out.blk.lt)
        have HC7 := Lib.hid (HC6.out.ext HE7.out)
        have HV7 := Lib.hid (HV6.out.ext HE7.out)
        have HR7 := Lib.hid (HR6.out.ext HE7.out)
        have HL6 := Lib.hid (show (gcs L6).length = n6 * 23 from HV7.out.own1.1)
        have HX6 := Lib.hid (show (gcs X6).length = m6 * 1 from HV7.out.own2.1)
        obtain ⟨p0, p1⟩ := vw_facts HC7.out.blk
        obtain ⟨z0, z1⟩ := vw_facts HB7.out
        clear HV6 HC6 HR6 hyes hS370 hT65 HE7 HJ HN
        go_upto_region 9 with (fail)
        try rw [hW7]
        try rw [hg8]
        clear hW7
        go_wp2_with (at_builtin; go_must (refine wpList_appGG sgE rfl (.tmp 26) (.tmp 28) rfl w.heap.size A n c (gcs L) rfl ?r0 A6 n6 c6 (gcs L6) rfl ?r1 HL6.out (gcs_cell L6) (by omega) (by omega) ?b1 ?_))
        case r0 => exact HC7.out.vw.own1
        case r1 => exact Rd.of_own HV7.out.own1
        case b1 => exact HC7.out.low.size
        intro A8 c8 w8 ho8 hgr8
        have hb8 := HC7.out.blk.grown hgr8 (own_other HC7.out.vw.own1 HC7.out.blk (by decide))
        have y0 : w8.cell? ⟨w.heap.size + 1, 0, none⟩ = some (.slice A n c) := hb8.cell 0
        have yf := hb8.frozen 0
        have HA1 := Lib.hid (HC7.out.app1 (L2 := L6) HV7.out.sig hgr8 ho8)
        clear ho8 hgr8 hb8 p0 p1 z0 z1
        go_upto_region 10 with (fail)
        obtain ⟨W8, hW8⟩ : ∃ W, w8.setCell ⟨w.heap.size + 1, 0, none⟩ (.slice A8 (n + n6) c8) = W := ⟨_, rfl⟩
        rw [hW8] at HA1 ⊢
        have HC8 := Lib.hid HA1.out.1
        have HR8 := Lib.hid (HA1.out.2.1 _ _ (by omega) HR7.out)
        have HB8 := Lib.hid (HA1.out.2.1 _ _ (by have := HG8.out; omega) HB7.out)
        have HT8 := Lib.hid (fun T hT => HA1.out.2.2.1 T (HV7.out.tex T hT))
        have HO8 := Lib.hid (HA1.out.2.2.2 _ _ _ _ HV7.out.own2)
        clear hW8 HA1 HC7 HR7 HB7 HV7 y0 yf
        obtain ⟨p0, p1⟩ := vw_facts HC8.out.blk
        obtain ⟨z0, z1⟩ := vw_facts HB8.out
        go_wp2_with (at_builtin; go_must (refine wpList_appGG teE rfl (.tmp 32) (.tmp 34) rfl w.heap.size B2 m2 d2 (gcs X2) rfl ?r0 B6 m6 d6 (gcs X6) rfl ?r1 HX6.out (gcs_cell X6) (by omega) (by omega) ?b1 ?_))
        case r0 => exact HC8.out.vw.own2
        case r1 => exact Rd.of_own HO8.out
        case b1 => exact HC8.out.low.size
        intro B9 d9 w9 ho9 hgr9
        have hb9 := HC8.out.blk.grown hgr9 (own_other HC8.out.vw.own2 HC8.out.blk (by decide))
        have y0 : w9.cell? ⟨w.heap.size + 1, 1, none⟩ = some (.slice B2 m2 d2) := hb9.cell 1
        have yf := hb9.frozen 1
        have HA2 := Lib.hid (HC8.out.app2 (X2 := X6) HT8.out hgr9 ho9)
        clear ho9 hgr9 hb9 p0 p1 z0 z1
        have HC9 := Lib.hid HA2.out.1
        have HR9 := Lib.hid (HA2.out.2 _ _ (by omega) HR8.out)
        clear HA2 HC8 HR8 HB8 HT8 HO8
        go_wp2_with fail
        go_roundw
        case rel => exact ⟨k + 1, bad, A8, n + n6, c8, L ++ L6, B9, m2 + m6, d9, X2 ++ X6, by go_num, rfl, by omega, by omega, by omega, by omega, HJ2, HC9, HR9, HN2⟩
        case measure => simp [intOf]; omega
    · obtain rfl : k = m := by omega
      have i1 : ¬ (k : Int) < (k : Int) := by omega
      have HJ1 := Lib.hid (show joV (X.map TeR.l) = ((L.map SgR.V, X2.map TeR.l), bad) from by have := HJ.out; rwa [List.take_of_length_le (by rw [HX.out.len]; exact Nat.le_refl _)] at this)
      have HU := Lib.hid (union_any A n c L B2 m2 d2 X2 wr HC.out.vw.sl1 HC.out.vw.sl2 (by omega) (by omega) HN.out.1 HN.out.2)
      obtain ⟨p0, p1⟩ := vw_facts HC.out.blk
      clear HXA HX HXn HJ
      go_wp2_with fail
      refine HU.out.mono ?_
      rintro e w3 ⟨A3, n3, c3, L3, B3, m3, d3, X3, rfl, hv3, hL3, hX3, hn3, hm3, he3⟩
      have HV3 := Lib.hid (hv3.mono HC.out.low.size)
      have HR3 := Lib.hid (HR.out.ext he3)
      have HE3 := Lib.hid (HC.out.low.trans he3)
      have HL3 := Lib.hid hL3
      have HX3 := Lib.hid hX3
      have ht : w3.there w.heap.size 0 2 := there_of_blk HR3.out
      have hst := blk_whole (ds := vwA A3 n3 c3 B3 m3 d3) HR3.out rfl
      clear hv3 he3 hL3 hX3 HU p0 p1
      go_wp2_with (first | (with_reducible refine wpList_storeVw rfl (.tmp 2) (.tmp 40) rfl w.heap.size A3 n3 c3 B3 m3 d3 rfl rfl ht ?_))
      exact bodyPost_ret (v := .tuple #[.agg (vwA A3 n3 c3 B3 m3 d3), .int .i64 (bad : Int)]) (retCV rfl _ _ w.heap.size _ _ rfl rfl (run_loadVar_row _ _ _ _ _ (0, 0) _ hst Try.underlying32 rfl (by kernel_rfl))) rfl ⟨A3, n3, c3, L3, B3, m3, d3, X3, by rw [HJ1.out], HV3.out.set HR3.out _, by rw [HJ1.out]; exact HL3.out, by rw [HJ1.out]; exact HX3.out, Below.setCells' HE3.out (Nat.le_refl _) _ _⟩
end Go.Proofs.Ytjlnmpjffogpdaa
