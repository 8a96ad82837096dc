/- Copies of signed votes and of views (snapshot.cloneVote, Clone). -/
import Derived.Test.YtjlnmpjffogpdaaK32
import Derived.Lib.LazyBuf
namespace Go.Proofs.Ytjlnmpjffogpdaa
open Go.RowKit
set_option linter.unusedVariables false
set_option linter.unusedSimpArgs false
attribute [local go_sem ↓] Go.wp_at_zero Go.wp_at_succ

set_option maxRecDepth 100000 in
set_option maxHeartbeats 1000000 in
theorem bClone2_any (A : Option Addr) (n c : Nat) (l : List UInt8) (w : World) (h : SlB w A n c l) (hn : n ≤ 140737488355328) :
    Calls Try.prog 84 #[.slice A n c] w fun e w' => ∃ A' c', e = .returned (.slice A' n c') ∧ OwnB w' w.heap.size 5 A' n c' l ∧ Ext w w' := by
  rcases A with _ | ad
  · have hl : l = [] := by
      rcases h.rd with h | ⟨b, o, h, _⟩
      · have := congrArg List.length h; rw [bcs_length] at this; exact List.length_eq_zero_iff.1 this
      · cases h
    subst hl
    obtain rfl : n = 0 := by have := h.len; simpa using this.symm
    have hq := run_eql_slice_nil (P := Try.prog) w 33 5 none 0 c Try.underlying33
    go_enter Try.func84, Try.ntmps84
    go_wp2_with fail
    go_ret
    exact ⟨_, _, rfl, OwnB.nil _ _ _, Ext.refl _⟩
  · have hq := run_eql_slice_nil (P := Try.prog) w 33 5 (some ad) n c Try.underlying33
    go_enter Try.func84, Try.ntmps84
    go_wp2_with (at_builtin; go_must (refine wpList_appB bytesE rfl (.tmp 5) (.tmp 6) rfl w.heap.size _ _ _ [] rfl ?r0 _ _ _ l rfl ?r1 (by omega) ?b1 w ?w1 ?_))
    case r0 => exact OwnB.made w w.heap.size _ 0 w.heap.size rfl (Nat.le_refl _) (by omega) rfl
    case r1 => exact h.ext ((Ext.refl w).alloc' _)
    case b1 => exact ((Ext.refl w).alloc' _).size
    case w1 => exact (Ext.refl w).alloc' _
    intro A' c' w' hO hB hs
    go_wp2_with fail
    go_ret
    exact ⟨_, _, rfl, hO, hB⟩
/-- the copy of a signed vote, its signature elsewhere -/
def sgC (S : SgR) (A : Option Addr) (c : Nat) : SgR := ⟨S.v, A, S.n, c, S.sig⟩
set_option maxRecDepth 100000 in
set_option maxHeartbeats 8000000 in
theorem cloneVote_any (S : SgR) (w : World) (h : S.ok w) (hn : S.n ≤ 140737488355328) :
    Calls Try.prog 95 #[.agg (sgA S)] w fun e w' => ∃ A' c', e = .returned (.agg (sgA (sgC S A' c'))) ∧ OwnB w' w.heap.size 5 A' S.n c' S.sig ∧ Ext w w' := by
  have HB0 := Lib.hid (Blk.new w 45 (sgA S))
  have HX0 := Lib.hid ((Ext.refl w).alloc' (.cells (sgA S) 45))
  have HB1 := Lib.hid (HB0.out.alloc (.cells sg0 45))
  have HR1 := Lib.hid (show Blk ((w.alloc (.cells (sgA S) 45)).alloc (.cells sg0 45)) (w.heap.size + 1) 45 sg0 from Blk.newAt _ _ _ _ (by simp))
  have HX1 := Lib.hid (HX0.out.alloc' (.cells sg0 45))
  have HS1 := Lib.hid (h.sig.ext HX1.out)
  have q0 : ((w.alloc (.cells (sgA S) 45)).alloc (.cells sg0 45)).cell? ⟨w.heap.size, 22, none⟩ = some (.slice S.A S.n S.c) := HB1.out.cell 22
  clear h
  go_enter Try.func95, Try.ntmps95
  go_wp2_with fail
  refine (bClone2_any S.A S.n S.c S.sig _ HS1.out hn).mono ?_
  rintro e w2 ⟨A', c', rfl, hO2, he2⟩
  have HB2 := Lib.hid (HB1.out.ext he2)
  have HR2 := Lib.hid (HR1.out.ext he2)
  have HX2 := Lib.hid (HX1.out.trans he2)
  have HB3 := Lib.hid (show Blk (w2.setCell ⟨w.heap.size, 22, none⟩ (.slice A' S.n c')) w.heap.size 45 (sgA (sgC S A' c')) from HB2.out.set 22 _)
  have hr3 : (w2.setCell ⟨w.heap.size, 22, none⟩ (.slice A' S.n c')).rangeAt w.heap.size 0 (sgL (sgC S A' c')) := rangeAt_of_blk HB3.out
  have f2 := HB2.out.frozen 22
  have q2 : w2.cell? ⟨w.heap.size, 22, none⟩ = some (.slice S.A S.n S.c) := HB2.out.cell 22
  have ht : (w2.setCell ⟨w.heap.size, 22, none⟩ (.slice A' S.n c')).there (w.heap.size + 1) 0 23 := there_of_blk (HR2.out.far (p := ⟨w.heap.size, 22, none⟩) (by simp) _)
  have HX3 := Lib.hid (show Ext w (w2.setCell ⟨w.heap.size, 22, none⟩ (.slice A' S.n c')) from HX2.out.setCell (p := ⟨w.heap.size, 22, none⟩) (Nat.le_refl _) _)
  have HR3 := Lib.hid (HR2.out.far (p := ⟨w.heap.size, 22, none⟩) (by simp) (.slice A' S.n c'))
  have hst := blk_whole (ds := sgA (sgC S A' c')) HR3.out rfl
  have HO3 := Lib.hid (show OwnB (w2.setCell ⟨w.heap.size, 22, none⟩ (.slice A' S.n c')) w.heap.size 5 A' S.n c' S.sig from by
    have hq := own_mono hO2 HX1.out.size
    exact World.ownsRow.kept hq (grown_set w2 w.heap.size 22 _) (.inr (Ne.symm (own_other hq HB2.out (by decide)))))
  clear hO2 he2
  go_wp2_with (first | (with_reducible refine wpList_loadSg rfl (.tmp 1) rfl w.heap.size 0 rfl (sgC S A' c') hr3 ?_) | (with_reducible refine wpList_storeSg rfl (.tmp 2) (.tmp 7) rfl (w.heap.size + 1) (sgC S A' c') rfl rfl ht ?_))
  exact bodyPost_ret (v := .agg (sgA (sgC S A' c'))) (retC rfl _ _ (w.heap.size + 1) _ rfl (run_loadVar_row _ _ _ _ _ (0, 0) _ hst Try.underlying45 rfl (by kernel_rfl))) rfl ⟨A', c', rfl, World.ownsRow.kept HO3.out (grown_setCells' _ (w.heap.size + 1) _ 0) (.inr (Ne.symm (own_other HO3.out HR3.out (by decide)))), Below.setCells' HX3.out (Nat.le_succ _) _ _⟩
/-- the state of Clone: the copy in VB, its rows the call's own -/
structure ClS (w0 w : World) (VB : Nat) (A : Option Addr) (n c : Nat) (L : List SgR) (B : Option Addr) (m d : Nat) (X : List TeR) : Prop where
  blk : Blk w VB 32 (vwA A n c B m d)
  vw : VwO w w0.heap.size A n c L B m d X
  low : Ext w0 w
  hV : w0.heap.size < VB
section
variable {w0 w w' : World} {VB : Nat} {A : Option Addr} {n c : Nat} {L : List SgR} {B : Option Addr} {m d : Nat} {X : List TeR}
theorem ClS.ext (h : ClS w0 w VB A n c L B m d X) (he : Ext w w') : ClS w0 w' VB A n c L B m d X := ⟨h.blk.ext he, h.vw.ext he, h.low.trans he, h.hV⟩
/-- a vote is appended, and the row stored -/
theorem ClS.push1 (h : ClS w0 w VB A n c L B m d X) {A' : Option Addr} {c' : Nat} {S : SgR} (hS : OwnB w w0.heap.size 5 S.A S.n S.c S.sig ∧ S.v.wf) (hg : w.grownBy w' (Value.ownBlock (.slice A n c))) (ho : w'.ownsRow w0.heap.size 45 23 (.slice A' (n + 1) c') (n + 1) (gcs L ++ sgL S)) :
    ClS w0 (w'.setCell ⟨VB, 0, none⟩ (.slice A' (n + 1) c')) VB A' (n + 1) c' (L ++ [S]) B m d X ∧ ∀ g cs, g ≠ VB → Blk w g 32 cs → Blk (w'.setCell ⟨VB, 0, none⟩ (.slice A' (n + 1) c')) g 32 cs := by
  have h2 : Blk w' VB 32 (vwA A n c B m d) := h.blk.grown hg (own_other h.vw.own1 h.blk (by decide))
  have h3 := grown_set w' VB 0 (.slice A' (n + 1) c')
  have h4 : Ext w0 w' := Below.grown h.low hg h.low.size (fun k hk => (World.ownsRow.lt h.vw.own1 k hk).1)
  have h5 : Ext w0 (w'.setCell ⟨VB, 0, none⟩ (.slice A' (n + 1) c')) := h4.setCell (p := ⟨VB, 0, none⟩) (Nat.le_of_lt h.hV) _
  have hB1 : ∀ {A0 : Option Addr} {n0 c0 : Nat} {l0 : List UInt8}, OwnB w w0.heap.size 5 A0 n0 c0 l0 → OwnB (w'.setCell ⟨VB, 0, none⟩ (.slice A' (n + 1) c')) w0.heap.size 5 A0 n0 c0 l0 := fun hQ => by
    have hq : OwnB w' w0.heap.size 5 _ _ _ _ := World.ownsRow.kept hQ hg (own_ne hQ h.vw.own1 (by decide))
    exact World.ownsRow.kept hq h3 (.inr (Ne.symm (own_other hq h2 (by decide))))
  refine ⟨⟨h2.set 0 _, ⟨?_, ?_, ?_, fun T hT => hB1 (h.vw.tex T hT)⟩, h5, h.hV⟩, fun g cs hne hb => (hb.grown hg (own_other h.vw.own1 hb (by decide))).far (p := ⟨VB, 0, none⟩) hne _⟩
  · have := ho.kept h3 (.inr (Ne.symm (own_other ho h2 (by decide))))
    rw [gcs_append, gcs_one]
    exact this
  · have hq := World.ownsRow.kept h.vw.own2 hg (own_ne h.vw.own2 h.vw.own1 (by decide))
    exact hq.kept h3 (.inr (Ne.symm (own_other hq h2 (by decide))))
  · intro Q hQ
    rcases List.mem_append.1 hQ with hQ | hQ
    · exact ⟨hB1 (h.vw.sig Q hQ).1, (h.vw.sig Q hQ).2⟩
    · rw [List.mem_singleton.1 hQ]; exact ⟨hB1 hS.1, hS.2⟩
/-- a text is appended, and the row stored -/
theorem ClS.push2 (h : ClS w0 w VB A n c L B m d X) {B' : Option Addr} {d' : Nat} {T : TeR} (hT : OwnB w w0.heap.size 5 T.A T.n T.c T.l) (hg : w.grownBy w' (Value.ownBlock (.slice B m d))) (ho : w'.ownsRow w0.heap.size 33 1 (.slice B' (m + 1) d') (m + 1) (gcs X ++ teL T)) :
    ClS w0 (w'.setCell ⟨VB, 1, none⟩ (.slice B' (m + 1) d')) VB A n c L B' (m + 1) d' (X ++ [T]) ∧ ∀ g cs, g ≠ VB → Blk w g 32 cs → Blk (w'.setCell ⟨VB, 1, none⟩ (.slice B' (m + 1) d')) g 32 cs := by
  have h2 : Blk w' VB 32 (vwA A n c B m d) := h.blk.grown hg (own_other h.vw.own2 h.blk (by decide))
  have h3 := grown_set w' VB 1 (.slice B' (m + 1) d')
  have h4 : Ext w0 w' := Below.grown h.low hg h.low.size (fun k hk => (World.ownsRow.lt h.vw.own2 k hk).1)
  have h5 : Ext w0 (w'.setCell ⟨VB, 1, none⟩ (.slice B' (m + 1) d')) := h4.setCell (p := ⟨VB, 1, none⟩) (Nat.le_of_lt h.hV) _
  have hB1 : ∀ {A0 : Option Addr} {n0 c0 : Nat} {l0 : List UInt8}, OwnB w w0.heap.size 5 A0 n0 c0 l0 → OwnB (w'.setCell ⟨VB, 1, none⟩ (.slice B' (m + 1) d')) w0.heap.size 5 A0 n0 c0 l0 := fun hQ => by
    have hq : OwnB w' w0.heap.size 5 _ _ _ _ := World.ownsRow.kept hQ hg (own_ne hQ h.vw.own2 (by decide))
    exact World.ownsRow.kept hq h3 (.inr (Ne.symm (own_other hq h2 (by decide))))
  refine ⟨⟨h2.set 1 _, ⟨?_, ?_, fun Q hQ => ⟨hB1 (h.vw.sig Q hQ).1, (h.vw.sig Q hQ).2⟩, ?_⟩, h5, h.hV⟩, fun g cs hne hb => (hb.grown hg (own_other h.vw.own2 hb (by decide))).far (p := ⟨VB, 1, none⟩) hne _⟩
  · have hq := World.ownsRow.kept h.vw.own1 hg (own_ne h.vw.own1 h.vw.own2 (by decide))
    exact hq.kept h3 (.inr (Ne.symm (own_other hq h2 (by decide))))
  · have := ho.kept h3 (.inr (Ne.symm (own_other ho h2 (by decide))))
    rw [gcs_append, gcs_one]
    exact this
  · intro Q hQ
    rcases List.mem_append.1 hQ with hQ | hQ
    · exact hB1 (h.vw.tex Q hQ)
    · rw [List.mem_singleton.1 hQ]; exact hB1 hT
end
end Go.Proofs.Ytjlnmpjffogpdaa

/- The bytes of a parcel (parcel.Encode). -/
namespace Go.Proofs.Ytjlnmpjffogpdaa
open Go.RowKit
set_option linter.unusedVariables false
set_option linter.unusedSimpArgs false
attribute [local go_sem ↓] Go.wp_at_zero Go.wp_at_succ

def lrgN (n m : Nat) : Bool := decide (64 < n) || decide (64 < m)
set_option maxRecDepth 100000 in
set_option maxHeartbeats 4000000 in
theorem parLarge_any (A : Option Addr) (n c : Nat) (B : Option Addr) (m d : Nat) (w : World) (hn : n ≤ 9223372036854775807) (hm : m ≤ 9223372036854775807) :
    Calls Try.prog 58 #[.agg (vwA A n c B m d)] w fun e w' => e = .returned (.bool (lrgN n m)) ∧ Ext w w' := by
  have HE := Lib.hid ((Ext.refl w).alloc' (.cells (vwA A n c B m d) 32))
  obtain ⟨c0, c1⟩ := vw_facts (Blk.new w 32 (vwA A n c B m d))
  by_cases h1 : 64 < n
  · have HV := Lib.hid (show lrgN n m = true by unfold lrgN; rw [decide_eq_true h1]; rfl)
    have i1 : (64 : Int) < (n : Int) := by omega
    go_enter Try.func58, Try.ntmps58
    go_wp2_with fail
    go_ret
    exact ⟨by rw [HV.out]; rfl, HE.out⟩
  · have i1 : ¬ (64 : Int) < (n : Int) := by omega
    by_cases h2 : 64 < m
    · have HV := Lib.hid (show lrgN n m = true by unfold lrgN; rw [decide_eq_true h2, Bool.or_true])
      have i2 : (64 : Int) < (m : Int) := by omega
      go_enter Try.func58, Try.ntmps58
      go_wp2_with fail
      go_ret
      exact ⟨by rw [HV.out]; rfl, HE.out⟩
    · have HV := Lib.hid (show lrgN n m = false by unfold lrgN; rw [decide_eq_false h1, decide_eq_false h2]; rfl)
      have i2 : ¬ (64 : Int) < (m : Int) := by omega
      go_enter Try.func58, Try.ntmps58
      go_wp2_with fail
      go_ret
      exact ⟨by rw [HV.out]; rfl, HE.out⟩
/-- what parcel.Encode answers -/
def pcE (L : List SgR) (X : List TeR) : Int := if lrgN L.length X.length = true then 5 else vwE L X
/-- the bytes of a parcel -/
def encPc (L : List SgR) (X : List TeR) : List UInt8 := nmb (tagU 89 (encVw L X)) ++ encVw L X
def PcEnc (w : World) (L : List SgR) (X : List TeR) (e : Ending) (w' : World) : Prop :=
  ((pcE L X ≠ 0 ∧ e = .returned (.tuple #[.slice none 0 0, .int .i64 (pcE L X)])) ∨ (pcE L X = 0 ∧ ∃ A' n' c', e = .returned (.tuple #[.slice A' n' c', .int .i64 0]) ∧ OwnB w' w.heap.size 5 A' n' c' (encPc L X) ∧ n' ≤ 10000000)) ∧ Ext w w'
theorem encVw_pos (L : List SgR) (X : List TeR) : 8 ≤ (encVw L X).length := by
  unfold encVw; simp only [List.length_append, beI_length]; omega
theorem tagged89 (A : Option Addr) (n c : Nat) (l : List UInt8) (w : World) (h : SlB w A n c l) (hm : n < 140737488355328) :
    Calls Try.prog 60 #[.int .u8 89, .slice A n c] w fun e w' => e = .returned (.agg (nmc (tagU 89 l))) ∧ Ext w w' := tagged_any 89 A n c l w h hm
set_option maxRecDepth 100000 in
set_option maxHeartbeats 8000000 in
theorem pcEnc_any (A : Option Addr) (n c : Nat) (L : List SgR) (B : Option Addr) (m d : Nat) (X : List TeR) (w : World) (hS : SlG w A n c L) (hX : SlG w B m d X) :
    Calls Try.prog 26 #[.agg (vwA A n c B m d)] w (PcEnc w L X) := by
  have hcap := hS.cap
  have hle := hS.le
  have hcap2 := hX.cap
  have hle2 := hX.le
  have hE := (Ext.refl w).alloc' (.cells (vwA A n c B m d) 32)
  have HB := Lib.hid (Blk.new w 32 (vwA A n c B m d))
  have HE := Lib.hid hE
  have HS := Lib.hid (hS.ext hE)
  have HX := Lib.hid (hX.ext hE)
  have HL := Lib.hid hS.len
  have HM := Lib.hid hX.len
  obtain ⟨W0, hW0⟩ : ∃ W0, w.alloc (.cells (vwA A n c B m d) 32) = W0 := ⟨_, rfl⟩
  rw [hW0] at HB HE HS HX
  have HC := Lib.hid (fun (W : World) (h : Ext W0 W) => vw_facts (HB.out.ext h))
  clear hS hX hE
  obtain ⟨c0, c1⟩ := HC.out W0 (Ext.refl _)
  go_enter Try.func26, Try.ntmps26
  go_wp2_with fail
  refine (parLarge_any A n c B m d W0 (by omega) (by omega)).mono ?_
  rintro e w1 ⟨rfl, he1⟩
  have HX1 := Lib.hid he1
  clear he1 c0 c1
  cases hv : lrgN n m with
  | true =>
    have HN := Lib.hid (show pcE L X = 5 by unfold pcE; rw [HL.out, HM.out, hv]; rfl)
    have HF := Lib.hid (HE.out.trans HX1.out)
    clear hv
    go_wp2_with fail
    go_ret2
    exact ⟨.inl ⟨by rw [HN.out]; decide, by rw [HN.out]; rfl⟩, HF.out⟩
  | false =>
    have HN := Lib.hid (show pcE L X = vwE L X by unfold pcE; rw [HL.out, HM.out, hv]; rfl)
    have hbd : n ≤ 64 ∧ m ≤ 64 := by
      unfold lrgN at hv
      simp only [Bool.or_eq_false_iff, decide_eq_false_iff_not] at hv
      omega
    obtain ⟨b1, b2⟩ := hbd
    obtain ⟨c0, c1⟩ := HC.out w1 HX1.out
    clear hv
    go_wp2_with fail
    refine (snEnc_any A n c L B m d X w1 (HS.out.ext HX1.out) (HX.out.ext HX1.out) (by omega) (by omega)).mono ?_
    intro e w2 h2
    obtain ⟨hcase, he2⟩ := h2
    have HX2 := Lib.hid (HE.out.trans (HX1.out.trans he2))
    have HXZ := Lib.hid he2.size
    clear he2 c0 c1
    rcases hcase with ⟨hne, rfl⟩ | ⟨h0, A2, n2, c2, rfl, hO2, hn2⟩
    · obtain ⟨z, hz⟩ : ∃ z, vwE L X = z := ⟨_, rfl⟩
      rw [hz] at hne HN ⊢
      have z1 : (z != 0) = true := bne_iff_ne.2 hne
      have HNE := Lib.hid hne
      clear hne hz
      go_wp2_with fail
      go_ret2
      exact ⟨.inl ⟨by rw [HN.out]; exact HNE.out, by rw [HN.out]; rfl⟩, HX2.out⟩
    · rw [h0] at HN
      rw [HL.out, HM.out] at hn2
      have HO2 := Lib.hid hO2
      have HLE := Lib.hid (show (encVw L X).length = n2 from hO2.len)
      have HPO := Lib.hid (encVw_pos L X)
      clear h0 hO2
      go_wp2_with fail
      refine (tagged89 A2 n2 c2 (encVw L X) w2 HO2.out.sl (by omega)).mono ?_
      rintro e w3 ⟨rfl, he3⟩
      have HX3 := Lib.hid (HX2.out.trans he3)
      have HO3 := Lib.hid (HO2.out.ext he3)
      obtain ⟨N, hN⟩ : ∃ N, tagU 89 (encVw L X) = N := ⟨_, rfl⟩
      have HNN := Lib.hid hN
      rw [hN]
      clear he3 hN
      have hp : 8 ≤ n2 := by have := HPO.out; have := HLE.out; omega
      have HZ := Lib.hid hp
      have HBN := Lib.hid (slB_at (n := 8) (c := 8) (rangeNm (Blk.new w3 26 (nmc N))) (nmb_length _) (by omega) (by omega))
      have HO4 := Lib.hid (HO3.out.sl.ext ((Ext.refl w3).alloc' (.cells (nmc N) 26)))
      have HX4 := Lib.hid (HX3.out.alloc' (.cells (nmc N) 26))
      go_wp2_with (first | (with_reducible refine wpList_storeNew rfl (.tmp 6) (.tmp 18) rfl w3.heap.size N rfl rfl rfl ?_) | (at_builtin; go_must (refine wpList_growB bytesE rfl (.tmp 19) (.tmp 20) rfl _ 8 8 (nmb N) rfl HBN.out (by omega) A2 n2 c2 (encVw L X) rfl HO4.out (by omega) (by omega) (by omega) ?_; intro A5 c5 w5 hO5 hx5)))
      have HX5 := Lib.hid (Ext.trans HX4.out hx5)
      have HF := Lib.hid (show OwnB w5 w.heap.size 5 A5 (8 + n2) c5 (encPc L X) from by
        unfold encPc; rw [HNN.out]; exact own_mono hO5 HX4.out.size)
      clear hO5 hx5
      go_wp2_with fail
      go_ret2
      exact ⟨.inr ⟨HN.out, A5, 8 + n2, c5, rfl, HF.out, by omega⟩, HX5.out⟩
end Go.Proofs.Ytjlnmpjffogpdaa
