/- Parcels joined (parcel.Join). -/
import Derived.Test.YtbfepgjeecndiaaGreatK47
import Derived.Test.YtbfepgjeecndiaaGreatK49
namespace Go.Proofs.YtbfepgjeecndiaaGreat
set_option maxRecDepth 100000
set_option maxHeartbeats 16000000
open Go.RowKit
set_option linter.unusedVariables false
set_option linter.unusedSimpArgs false
attribute [local go_sem ↓] Go.wp_at_zero Go.wp_at_succ
section
variable {w0 w w' : World} {VB : Nat} {A : Option Addr} {n n2 c : Nat} {L L2 : List SgR} {B : Option Addr} {m m2 d : Nat} {X X2 : List TeR}
theorem ClS.app1 (h : ClS w0 w VB A n c L B m d X) {A' : Option Addr} {c' : Nat} (hS : ∀ S ∈ L2, OwnB w w0.heap.size 5 S.A S.n S.c S.sig ∧ S.v.wf) (hg : w.grownBy w' (Value.ownBlock (.slice A n c))) (ho : w'.ownsRow w0.heap.size 48 23 (.slice A' (n + n2) c') (n + n2) (gcs L ++ gcs L2)) :
  ClS w0 (w'.setCell ⟨VB, 0, none⟩ (.slice A' (n + n2) c')) VB A' (n + n2) c' (L ++ L2) B m d X ∧ (∀ g cs, g ≠ VB → Blk w g 25 cs → Blk (w'.setCell ⟨VB, 0, none⟩ (.slice A' (n + n2) c')) g 25 cs) ∧
  (∀ T : TeR, OwnB w w0.heap.size 5 T.A T.n T.c T.l → OwnB (w'.setCell ⟨VB, 0, none⟩ (.slice A' (n + n2) c')) w0.heap.size 5 T.A T.n T.c T.l) ∧ ∀ (B2 : Option Addr) (m2 d2 : Nat) (xs : List Value), w.ownsRow w0.heap.size 28 1 (.slice B2 m2 d2) m2 xs → (w'.setCell ⟨VB, 0, none⟩ (.slice A' (n + n2) c')).ownsRow w0.heap.size 28 1 (.slice B2 m2 d2) m2 xs := by
 have h2 : Blk w' VB 25 (vwA A n c B m d) := h.blk.grown hg (own_other h.vw.own1 h.blk (by decide))
 have h3 := grown_set w' VB 0 (.slice A' (n + n2) c')
 have h4 : Ext w0 w' := Below.grown h.low hg h.low.size (fun k hk => (World.ownsRow.lt h.vw.own1 k hk).1)
 have h5 : Ext w0 (w'.setCell ⟨VB, 0, none⟩ (.slice A' (n + n2) c')) := h4.setCell (p := ⟨VB, 0, none⟩) (Nat.le_of_lt h.hV) _
 have hB1 : ∀ {A0 : Option Addr} {n0 c0 : Nat} {l0 : List UInt8}, OwnB w w0.heap.size 5 A0 n0 c0 l0 → OwnB (w'.setCell ⟨VB, 0, none⟩ (.slice A' (n + n2) c')) w0.heap.size 5 A0 n0 c0 l0 := fun hQ => by
  have hq : OwnB w' w0.heap.size 5 _ _ _ _ := World.ownsRow.kept hQ hg (own_ne hQ h.vw.own1 (by decide))
  exact World.ownsRow.kept hq h3 (.inr (Ne.symm (own_other hq h2 (by decide))))
 have hR : ∀ (B2 : Option Addr) (m2 d2 : Nat) (xs : List Value), w.ownsRow w0.heap.size 28 1 (.slice B2 m2 d2) m2 xs → (w'.setCell ⟨VB, 0, none⟩ (.slice A' (n + n2) c')).ownsRow w0.heap.size 28 1 (.slice B2 m2 d2) m2 xs := fun B2 m2 d2 xs hr => by
  have hq := World.ownsRow.kept hr hg (own_ne hr h.vw.own1 (by decide))
  exact hq.kept h3 (.inr (Ne.symm (own_other hq h2 (by decide))))
 refine ⟨⟨h2.set 0 _, ⟨?_, hR _ _ _ _ h.vw.own2, ?_, fun T hT => hB1 (h.vw.tex T hT)⟩, h5, h.hV⟩, fun g cs hne hb => (hb.grown hg (own_other h.vw.own1 hb (by decide))).far (p := ⟨VB, 0, none⟩) hne _, fun T hT => hB1 hT, hR⟩
 ·have := ho.kept h3 (.inr (Ne.symm (own_other ho h2 (by decide))))
  rw [gcs_append]
  exact this
 ·intro Q hQ
  rcases List.mem_append.1 hQ with hQ | hQ
  ·exact ⟨hB1 (h.vw.sig Q hQ).1, (h.vw.sig Q hQ).2⟩
  ·exact ⟨hB1 (hS Q hQ).1, (hS Q hQ).2⟩
theorem ClS.app2 (h : ClS w0 w VB A n c L B m d X) {B' : Option Addr} {d' : Nat} (hT : ∀ T ∈ X2, OwnB w w0.heap.size 5 T.A T.n T.c T.l) (hg : w.grownBy w' (Value.ownBlock (.slice B m d))) (ho : w'.ownsRow w0.heap.size 28 1 (.slice B' (m + m2) d') (m + m2) (gcs X ++ gcs X2)) :
  ClS w0 (w'.setCell ⟨VB, 1, none⟩ (.slice B' (m + m2) d')) VB A n c L B' (m + m2) d' (X ++ X2) ∧ ∀ g cs, g ≠ VB → Blk w g 25 cs → Blk (w'.setCell ⟨VB, 1, none⟩ (.slice B' (m + m2) d')) g 25 cs := by
 have h2 : Blk w' VB 25 (vwA A n c B m d) := h.blk.grown hg (own_other h.vw.own2 h.blk (by decide))
 have h3 := grown_set w' VB 1 (.slice B' (m + m2) d')
 have h4 : Ext w0 w' := Below.grown h.low hg h.low.size (fun k hk => (World.ownsRow.lt h.vw.own2 k hk).1)
 have h5 : Ext w0 (w'.setCell ⟨VB, 1, none⟩ (.slice B' (m + m2) d')) := h4.setCell (p := ⟨VB, 1, none⟩) (Nat.le_of_lt h.hV) _
 have hB1 : ∀ {A0 : Option Addr} {n0 c0 : Nat} {l0 : List UInt8}, OwnB w w0.heap.size 5 A0 n0 c0 l0 → OwnB (w'.setCell ⟨VB, 1, none⟩ (.slice B' (m + m2) d')) w0.heap.size 5 A0 n0 c0 l0 := fun hQ => by
  have hq : OwnB w' w0.heap.size 5 _ _ _ _ := World.ownsRow.kept hQ hg (own_ne hQ h.vw.own2 (by decide))
  exact World.ownsRow.kept hq h3 (.inr (Ne.symm (own_other hq h2 (by decide))))
 refine ⟨⟨h2.set 1 _, ⟨?_, ?_, fun Q hQ => ⟨hB1 (h.vw.sig Q hQ).1, (h.vw.sig Q hQ).2⟩, ?_⟩, h5, h.hV⟩, fun g cs hne hb => (hb.grown hg (own_other h.vw.own2 hb (by decide))).far (p := ⟨VB, 1, none⟩) hne _⟩
 ·have hq := World.ownsRow.kept h.vw.own1 hg (own_ne h.vw.own1 h.vw.own2 (by decide))
  exact hq.kept h3 (.inr (Ne.symm (own_other hq h2 (by decide))))
 ·have := ho.kept h3 (.inr (Ne.symm (own_other ho h2 (by decide))))
  rw [gcs_append]
  exact this
 ·intro Q hQ
  rcases List.mem_append.1 hQ with hQ | hQ
  ·exact hB1 (h.vw.tex Q hQ)
  ·exact hB1 (hT Q hQ)
end
def JnOut (w : World) (ls : List (List UInt8)) (e : Ending) (w' : World) : Prop := ∃ (A' : Option Addr) (n' c' : Nat) (L' : List SgR) (B' : Option Addr) (m' d' : Nat) (X' : List TeR), e = .returned (.tuple #[.agg (vwA A' n' c' B' m' d'), .int .i64 ((joV ls).2 : Int)]) ∧ VwO w' w.heap.size A' n' c' L' B' m' d' X' ∧ L'.map SgR.V = canonO ltSv (joV ls).1.1 ∧ X'.map TeR.l = canonO lexB (joV ls).1.2 ∧ Ext w w'
theorem join_any (B : Option Addr) (m d : Nat) (X : List TeR) (w : World) (hX : SlG w B m d X) (hm : m ≤ 1000) (hXn : ∀ T, T ∈ X → T.n ≤ 100000000) :
  Calls Tryz.prog 17 #[.slice B m d] w (JnOut w (X.map TeR.l)) := by
 have hcap2 := hX.cap
 have hle2 := hX.le
 obtain ⟨W2, hW2⟩ : ∃ W2, (w.alloc (.cells (vwA none 0 0 none 0 0) 25)).alloc (.cells (vwA none 0 0 none 0 0) 25) = W2 := ⟨_, rfl⟩
 have HR := Lib.hid (show Blk W2 w.heap.size 25 (vwA none 0 0 none 0 0) from by rw [← hW2]; exact (Blk.new _ _ _).alloc _)
 have HC := Lib.hid (show ClS w W2 (w.heap.size + 1) none 0 0 [] none 0 0 [] from by
  rw [← hW2]
  exact ⟨Blk.newAt _ _ _ _ (by simp), VwO.nil _ _, ((Ext.refl w).alloc' _).alloc' _, by omega⟩)
 have HX := Lib.hid hX
 have HXA := Lib.hid (fun (h : 0 < m) => HX.out.at h)
 have HXn := Lib.hid hXn
 clear hX hXn
 go_enter Tryz.func17, Tryz.ntmps17
 go_wp2_with fail
 clear hW2
 go_loopw [5, 12] (fun vb vi wr => ∃ (k bad : Nat) (A : Option Addr) (n c : Nat) (L : List SgR) (B2 : Option Addr) (m2 d2 : Nat) (X2 : List TeR), vi = .int .i64 (k : Int) ∧ vb = .int .i64 (bad : Int) ∧ k ≤ m ∧ bad ≤ k ∧ n ≤ 64 * k ∧ m2 ≤ 64 * k ∧ Hid (joV ((X.take k).map TeR.l) = ((L.map SgR.V, X2.map TeR.l), bad)) ∧ Hid (ClS w wr (w.heap.size + 1) A n c L B2 m2 d2 X2) ∧ Hid (Blk wr w.heap.size 25 (vwA none 0 0 none 0 0)) ∧ Hid ((∀ S ∈ L, S.n ≤ 140737488355328) ∧ ∀ T ∈ X2, T.n ≤ 140737488355328)) (fun _ i _ => m - (intOf i).toNat)
 case atStart => exact ⟨0, 0, none, 0, 0, [], none, 0, 0, [], rfl, rfl, Nat.zero_le _, Nat.le_refl _, Nat.zero_le _, Nat.zero_le _, Lib.hid rfl, HC, HR, Lib.hid ⟨fun S hS => (by cases hS), fun T hT => (by cases hT)⟩⟩
 case round =>
  clear HC HR
  obtain ⟨k, bad, A, n, c, L, B2, m2, d2, X2, rfl, rfl, hk, hbad, hn64, hm64, HJ, HC, HR, HN⟩ := hrel
  by_cases hlt : k < m
  ·obtain ⟨b, o, rfl, hr0, hb⟩ := HXA.out (by omega)
   have i1 : (k : Int) < (m : Int) := by omega
   obtain ⟨T, hT⟩ : ∃ T, nthG X k = T := ⟨_, rfl⟩
   have hr1 := el_at (rangeAt_keep hr0 (HC.out.low.block b hb)) (k := k) (by rw [HX.out.len]; exact hlt)
   have hok := (HX.out.ext HC.out.low).nth (k := k) hlt
   have hTn := HXn.out _ (nthG_mem (L := X) (k := k) (by rw [HX.out.len]; exact hlt))
   have HTK := Lib.hid (show (X.take (k + 1)).map TeR.l = (X.take k).map TeR.l ++ [T.l] from by rw [take_nthG (L := X) (k := k) (by rw [HX.out.len]; exact hlt), List.map_append, hT]; rfl)
   rw [hT] at hr1 hok hTn
   obtain ⟨Ta, Tn, Tc, Tl⟩ := T
   have hc1 : wr.cell? ⟨b, o + k, none⟩ = some (.slice Ta Tn Tc) := by
    have := hr1 0 (.slice Ta Tn Tc) rfl
    simpa [show RowT.sz TeR = 1 from rfl] using this
   have HPD := Lib.hid (pcDec2_any Ta Tn Tc Tl wr hok hTn)
   clear hr0 hr1 hok hT
   go_wp2_with fail
   refine HPD.out.mono ?_
   rintro e w6 ⟨A6, n6, c6, L6, B6, m6, d6, X6, z, rfl, hv6, he6, hcase⟩
   have HV6 := Lib.hid (hv6.mono HC.out.low.size)
   have HC6 := Lib.hid (HC.out.ext he6)
   have HR6 := Lib.hid (HR.out.ext he6)
   clear hv6 he6 HC HR HPD hc1
   rcases hcase with ⟨hz, hno⟩ | ⟨rfl, hyes, h64, h64', hS370, hT65⟩
   ·have HJ2 := Lib.hid (show joV ((X.take (k + 1)).map TeR.l) = ((L.map SgR.V, X2.map TeR.l), bad + 1) from by rw [HTK.out, joV_snoc, HJ.out]; unfold joS; rw [hno])
    have hz' : ¬ z = 0 := hz
    have HC7 := Lib.hid (HC6.out.ext ((Ext.refl w6).alloc' (.cells (vwA A6 n6 c6 B6 m6 d6) 25)))
    have HR7 := Lib.hid (HR6.out.alloc (.cells (vwA A6 n6 c6 B6 m6 d6) 25))
    clear HV6 HC6 HR6 hno hz
    go_wp2_with fail
    go_roundw
    case rel => exact ⟨k + 1, bad + 1, A, n, c, L, B2, m2, d2, X2, by go_num, by go_num, by omega, by omega, by omega, by omega, HJ2, HC7, HR7, HN⟩
    case measure => simp [intOf]; omega
   ·have HJ2 := Lib.hid (show joV ((X.take (k + 1)).map TeR.l) = (((L ++ L6).map SgR.V, (X2 ++ X6).map TeR.l), bad) from by rw [HTK.out, joV_snoc, HJ.out]; unfold joS; rw [hyes, List.map_append, List.map_append])
    have HN2 := Lib.hid (show (∀ S ∈ L ++ L6, S.n ≤ 140737488355328) ∧ ∀ T ∈ X2 ++ X6, T.n ≤ 140737488355328 from by
     constructor
     ·intro S hS
      rcases List.mem_append.1 hS with hS | hS
      ·exact HN.out.1 S hS
      ·have := hS370 S hS; omega
     ·intro T hT
      rcases List.mem_append.1 hT with hT | hT
      ·exact HN.out.2 T hT
      ·have := hT65 T hT; omega)
    obtain ⟨g8, hg8⟩ : ∃ q, w6.heap.size = q := ⟨_, rfl⟩
    obtain ⟨W7, hW7⟩ : ∃ W, w6.alloc (.cells (vwA A6 n6 c6 B6 m6 d6) 25) = W := ⟨_, rfl⟩
    have HE7 := Lib.hid (show Ext w6 W7 from by rw [← hW7]; exact (Ext.refl w6).alloc' _)
    have HB7 := Lib.hid (show Blk W7 g8 25 (vwA A6 n6 c6 B6 m6 d6) from by rw [← hW7, ← hg8]; exact Blk.new _ _ _)
    have HG8 := Lib.hid (show w.heap.size + 1 < g8 from by rw [← hg8]; exact HC6.out.blk.lt)
    have HC7 := Lib.hid (HC6.out.ext HE7.out)
    have HV7 := Lib.hid (HV6.out.ext HE7.out)
    have HR7 := Lib.hid (HR6.out.ext HE7.out)
    have HL6 := Lib.hid (show (gcs L6).length = n6 * 23 from HV7.out.own1.1)
    have HX6 := Lib.hid (show (gcs X6).length = m6 * 1 from HV7.out.own2.1)
    obtain ⟨p0, p1⟩ := vw_facts HC7.out.blk
    obtain ⟨z0, z1⟩ := vw_facts HB7.out
    clear HV6 HC6 HR6 hyes hS370 hT65 HE7 HJ HN
    go_upto_region 9 with (fail)
    try rw [hW7]
    try rw [hg8]
    clear hW7
    go_wp2_with (at_builtin; go_must (refine wpList_appGG sgE rfl (.tmp 26) (.tmp 28) rfl w.heap.size A n c (gcs L) rfl ?r0 A6 n6 c6 (gcs L6) rfl ?r1 HL6.out (gcs_cell L6) (by omega) (by omega) ?b1 ?_))
    case r0 => exact HC7.out.vw.own1
    case r1 => exact Rd.of_own HV7.out.own1
    case b1 => exact HC7.out.low.size
    intro A8 c8 w8 ho8 hgr8
    have hb8 := HC7.out.blk.grown hgr8 (own_other HC7.out.vw.own1 HC7.out.blk (by decide))
    have y0 : w8.cell? ⟨w.heap.size + 1, 0, none⟩ = some (.slice A n c) := hb8.cell 0
    have yf := hb8.frozen 0
    have HA1 := Lib.hid (HC7.out.app1 (L2 := L6) HV7.out.sig hgr8 ho8)
    clear ho8 hgr8 hb8 p0 p1 z0 z1
    go_upto_region 10 with (fail)
    obtain ⟨W8, hW8⟩ : ∃ W, w8.setCell ⟨w.heap.size + 1, 0, none⟩ (.slice A8 (n + n6) c8) = W := ⟨_, rfl⟩
    rw [hW8] at HA1 ⊢
    have HC8 := Lib.hid HA1.out.1
    have HR8 := Lib.hid (HA1.out.2.1 _ _ (by omega) HR7.out)
    have HB8 := Lib.hid (HA1.out.2.1 _ _ (by have := HG8.out; omega) HB7.out)
    have HT8 := Lib.hid (fun T hT => HA1.out.2.2.1 T (HV7.out.tex T hT))
    have HO8 := Lib.hid (HA1.out.2.2.2 _ _ _ _ HV7.out.own2)
    clear hW8 HA1 HC7 HR7 HB7 HV7 y0 yf
    obtain ⟨p0, p1⟩ := vw_facts HC8.out.blk
    obtain ⟨z0, z1⟩ := vw_facts HB8.out
    go_wp2_with (at_builtin; go_must (refine wpList_appGG teE rfl (.tmp 32) (.tmp 34) rfl w.heap.size B2 m2 d2 (gcs X2) rfl ?r0 B6 m6 d6 (gcs X6) rfl ?r1 HX6.out (gcs_cell X6) (by omega) (by omega) ?b1 ?_))
    case r0 => exact HC8.out.vw.own2
    case r1 => exact Rd.of_own HO8.out
    case b1 => exact HC8.out.low.size
    intro B9 d9 w9 ho9 hgr9
    have hb9 := HC8.out.blk.grown hgr9 (own_other HC8.out.vw.own2 HC8.out.blk (by decide))
    have y0 : w9.cell? ⟨w.heap.size + 1, 1, none⟩ = some (.slice B2 m2 d2) := hb9.cell 1
    have yf := hb9.frozen 1
    have HA2 := Lib.hid (HC8.out.app2 (X2 := X6) HT8.out hgr9 ho9)
    clear ho9 hgr9 hb9 p0 p1 z0 z1
    have HC9 := Lib.hid HA2.out.1
    have HR9 := Lib.hid (HA2.out.2 _ _ (by omega) HR8.out)
    clear HA2 HC8 HR8 HB8 HT8 HO8
    go_wp2_with fail
    go_roundw
    case rel => exact ⟨k + 1, bad, A8, n + n6, c8, L ++ L6, B9, m2 + m6, d9, X2 ++ X6, by go_num, rfl, by omega, by omega, by omega, by omega, HJ2, HC9, HR9, HN2⟩
    case measure => simp [intOf]; omega
  ·obtain rfl : k = m := by omega
   have i1 : ¬ (k : Int) < (k : Int) := by omega
   have HJ1 := Lib.hid (show joV (X.map TeR.l) = ((L.map SgR.V, X2.map TeR.l), bad) from by have := HJ.out; rwa [List.take_of_length_le (by rw [HX.out.len]; exact Nat.le_refl _)] at this)
   have HU := Lib.hid (union_any A n c L B2 m2 d2 X2 wr HC.out.vw.sl1 HC.out.vw.sl2 (by omega) (by omega) HN.out.1 HN.out.2)
   obtain ⟨p0, p1⟩ := vw_facts HC.out.blk
   clear HXA HX HXn HJ
   go_wp2_with fail
   refine HU.out.mono ?_
   rintro e w3 ⟨A3, n3, c3, L3, B3, m3, d3, X3, rfl, hv3, hL3, hX3, hn3, hm3, he3⟩
   have HV3 := Lib.hid (hv3.mono HC.out.low.size)
   have HR3 := Lib.hid (HR.out.ext he3)
   have HE3 := Lib.hid (HC.out.low.trans he3)
   have HL3 := Lib.hid hL3
   have HX3 := Lib.hid hX3
   have ht : w3.there w.heap.size 0 2 := there_of_blk HR3.out
   have hst := blk_whole (ds := vwA A3 n3 c3 B3 m3 d3) HR3.out rfl
   clear hv3 he3 hL3 hX3 HU p0 p1
   go_wp2_with (first | (with_reducible refine wpList_storeVw rfl (.tmp 2) (.tmp 40) rfl w.heap.size A3 n3 c3 B3 m3 d3 rfl rfl ht ?_))
   exact bodyPost_ret (v := .tuple #[.agg (vwA A3 n3 c3 B3 m3 d3), .int .i64 (bad : Int)]) (retCV rfl _ _ w.heap.size _ _ rfl rfl (run_loadVar_row _ _ _ _ _ (0, 0) _ hst Tryz.underlying25 rfl (by kernel_rfl))) rfl ⟨A3, n3, c3, L3, B3, m3, d3, X3, by rw [HJ1.out], HV3.out.set HR3.out _, by rw [HJ1.out]; exact HL3.out, by rw [HJ1.out]; exact HX3.out, Below.setCells' HE3.out (Nat.le_refl _) _ _⟩
end Go.Proofs.YtbfepgjeecndiaaGreat

/- The law's sanity check: the parcel of a small view. -/
namespace Go.Proofs.YtbfepgjeecndiaaGreat
set_option maxRecDepth 100000
set_option maxHeartbeats 16000000
open Go.RowKit
set_option linter.unusedVariables false
set_option linter.unusedSimpArgs false
attribute [local go_sem ↓] Go.wp_at_zero Go.wp_at_succ
def awX (h : Nat) : List TeR := [⟨some ⟨h, 0, none⟩, 1, 1, [1]⟩, ⟨some ⟨h + 1, 0, none⟩, 1, 1, [2]⟩]
theorem awX_n (h : Nat) : ∀ T, T ∈ awX h → T.n ≤ 1 := fun T hT => by
 rcases List.mem_cons.1 hT with rfl | hT
 ·exact Nat.le_refl _
 ·rw [List.mem_singleton.1 hT]; exact Nat.le_refl _
theorem awake37_any (w : World) : Calls Tryz.prog 8 #[] w fun e w' => e = .returned (.bool true) ∧ Ext w w' := by
 obtain ⟨W1, hW1⟩ : ∃ W1, (((w.alloc (.cells #[.int .u8 1] 5)).alloc (.cells #[.int .u8 2] 5)).alloc (.cells #[.slice (some ⟨w.heap.size, 0, none⟩) 1 1, .slice (some ⟨w.heap.size + 1, 0, none⟩) 1 1] 28)).alloc (.cells (vwA none 0 0 (some ⟨w.heap.size + 1 + 1, 0, none⟩) 2 2) 25) = W1 := ⟨_, rfl⟩
 have HE1 := Lib.hid (show Ext w W1 from by rw [← hW1]; exact ((((Ext.refl w).alloc' _).alloc' _).alloc' _).alloc' _)
 have HBV := Lib.hid (show Blk W1 (w.heap.size + 1 + 1 + 1) 25 (vwA none 0 0 (some ⟨w.heap.size + 1 + 1, 0, none⟩) 2 2) from by rw [← hW1]; exact Blk.newAt _ _ _ _ (by simp))
 have HB1 := Lib.hid (show Blk W1 w.heap.size 5 #[.int .u8 1] from by rw [← hW1]; exact (((Blk.new w _ _).alloc _).alloc _).alloc _)
 have HB2 := Lib.hid (show Blk W1 (w.heap.size + 1) 5 #[.int .u8 2] from by rw [← hW1]; exact ((Blk.newAt (w.alloc _) _ _ (w.heap.size + 1) (by simp)).alloc _).alloc _)
 have HBX := Lib.hid (show Blk W1 (w.heap.size + 1 + 1) 28 #[.slice (some ⟨w.heap.size, 0, none⟩) 1 1, .slice (some ⟨w.heap.size + 1, 0, none⟩) 1 1] from by rw [← hW1]; exact (Blk.newAt ((w.alloc _).alloc _) _ _ (w.heap.size + 1 + 1) (by simp)).alloc _)
 have HX := Lib.hid (show SlG W1 (some ⟨w.heap.size + 1 + 1, 0, none⟩) 2 2 (awX w.heap.size) from by
  refine ⟨rfl, Nat.le_refl _, by omega, Rd.of_blk HBX.out, fun T hT => ?_⟩
  rcases List.mem_cons.1 hT with rfl | hT
  ·exact ⟨rfl, Nat.le_refl _, by show 1 ≤ 9223372036854775807; omega, Rd.of_blk HB1.out⟩
  ·rw [List.mem_singleton.1 hT]
   exact ⟨rfl, Nat.le_refl _, by show 1 ≤ 9223372036854775807; omega, Rd.of_blk HB2.out⟩)
 have hn9 := awX_n w.heap.size
 have HXV := Lib.hid (show (awX w.heap.size).map TeR.l = [[1], [2]] from rfl)
 have HPE := Lib.hid (pcEnc_any none 0 0 [] (some ⟨w.heap.size + 1 + 1, 0, none⟩) 2 2 (awX w.heap.size) W1 (SlG.nil _) HX.out)
 have HN9 := Lib.hid hn9
 clear hn9
 obtain ⟨b0, b1⟩ := vw_facts HBV.out
 go_enter Tryz.func8, Tryz.ntmps8
 go_wp2_with fail
 refine HPE.out.mono ?_
 rintro e w2 ⟨hc2, he2⟩
 have hz0 : pcE [] (awX w.heap.size) = 0 := by
  rw [pcE_V (fun S hS => by cases hS) (fun T hT => SlB.len (HX.out.ok T hT)), HXV.out]; exact aw_err
 have hen : encPc [] (awX w.heap.size) = encPcV [] [[1], [2]] := by rw [encPc_V, HXV.out]; rfl
 rcases hc2 with ⟨hne, -⟩ | ⟨-, A2, n2, c2, rfl, ho2, hn2⟩
 ·exact absurd hz0 hne
 rw [hen] at ho2
 obtain rfl : n2 = 22 := by rw [← ho2.sl.len]; exact aw_len
 have HE2 := Lib.hid he2
 have HO2 := Lib.hid ho2.sl
 have HPD := Lib.hid (pcDec2_any A2 22 c2 _ w2 ho2.sl (by omega))
 clear hz0 hen ho2 he2 hn2 HPE b0 b1 hW1
 go_wp2_with fail
 refine HPD.out.mono ?_
 rintro e w3 ⟨A3, n3, c3, L3, B3, m3, d3, X3, z, rfl, hv3, he3, hc3⟩
 rw [aw_dec] at hc3
 rcases hc3 with ⟨-, hc3⟩ | ⟨rfl, hc3, -⟩
 ·cases hc3
 obtain rfl : m3 = 2 := by
  have h1 := hv3.sl2.len
  injection hc3 with hc3; injection hc3 with _ hc3
  have h2 := congrArg List.length hc3
  rw [List.length_map, h1] at h2; exact h2.symm
 have HE3 := Lib.hid (HE2.out.trans he3)
 clear he3 hv3 hc3 HPD
 obtain ⟨g4, hg4⟩ : ∃ q, w3.heap.size = q := ⟨_, rfl⟩
 obtain ⟨W4, hW4⟩ : ∃ W, w3.alloc (.cells (vwA A3 n3 c3 B3 2 d3) 25) = W := ⟨_, rfl⟩
 have HB4 := Lib.hid (show Blk W4 g4 25 (vwA A3 n3 c3 B3 2 d3) from by rw [← hW4, ← hg4]; exact Blk.new _ _ _)
 have HE4 := Lib.hid (show Ext W1 W4 from by rw [← hW4]; exact HE3.out.alloc' _)
 have HPD := Lib.hid (pcDec_any none 0 0 [] W4 ⟨rfl, Nat.le_refl _, by omega, .nil⟩ (by omega))
 go_wp2_with fail
 refine HPD.out.mono ?_
 rintro e w5 ⟨A5, n5, c5, L5, B5, m5, d5, X5, z5, rfl, -, he5, hc5⟩
 obtain rfl : z5 = 2 := by
  rcases hc5 with ⟨h, -⟩ | ⟨-, h, -⟩ | ⟨-, h, -⟩ | ⟨-, h, -⟩ | ⟨-, h, -⟩
  ·exact h
  all_goals exact absurd h (by decide)
 try rw [hW4]
 try rw [hg4]
 obtain ⟨W6, hW6⟩ : ∃ W, w5.alloc (.cells (vwA A5 n5 c5 B5 m5 d5) 25) = W := ⟨_, rfl⟩
 have HE6 := Lib.hid (show Ext W1 W6 from by rw [← hW6]; exact (HE4.out.trans he5).alloc' _)
 have HB4' := Lib.hid (show Blk W6 g4 25 (vwA A3 n3 c3 B3 2 d3) from by rw [← hW6]; exact (HB4.out.ext he5).alloc _)
 have HSP := Lib.hid (split_any none 0 0 [] (some ⟨w.heap.size + 1 + 1, 0, none⟩) 2 2 (awX w.heap.size) W6 (SlG.nil _) (HX.out.ext HE6.out) (by omega) (by omega) (fun S hS => by cases hS) (fun T hT => by have := HN9.out T hT; omega))
 obtain ⟨b0, b1⟩ := vw_facts (HBV.out.ext HE6.out)
 clear hW4 HE3 HB4 HPD he5 hc5 HE4
 go_wp2_with fail
 refine HSP.out.mono ?_
 rintro e w7 ⟨A7, n7, c7, D, he, hr7, hD, hDn, he7⟩
 rw [HXV.out, List.map_nil, aw_split] at he hD
 subst he
 obtain rfl : n7 = 1 := by
  have h1 := hr7.len
  have h2 := congrArg List.length hD
  rw [List.length_map, h1] at h2; exact h2
 have HE67 := Lib.hid he7
 have HRW := Lib.hid hr7
 have HD := Lib.hid hD
 have HDn := Lib.hid hDn
 have HS6 := Lib.hid he7.size
 clear hr7 hD hDn he7 HSP b0 b1 hW6
 go_wp2_with (at_builtin; go_must (refine wpList_appGG teE rfl (.tmp 37) (.tmp 38) rfl W6.heap.size A7 1 c7 (gcs D) rfl ?r0 (some ⟨w7.heap.size, 0, none⟩) 1 1 [.slice none 0 0] rfl ?r1 (by rfl) (fun u hu => by rw [List.mem_singleton.1 hu]; rfl) (by omega) (by omega) ?b1 ?_))
 case r0 => exact (HRW.out.ext ((Ext.refl w7).alloc' _)).own
 case r1 => exact Rd.of_blk (Blk.new w7 28 #[.slice none 0 0])
 case b1 => have := HS6.out; simp; omega
 intro A8 c8 w8 ho8 hg8
 have HRA := Lib.hid (HRW.out.ext ((Ext.refl w7).alloc' (.cells #[.slice none 0 0] 28)))
 have HEA := Lib.hid (HE67.out.alloc' (.cells #[.slice none 0 0] 28))
 have HE68 := Lib.hid (Below.grown HEA.out hg8 HEA.out.size (fun k hk => (World.ownsRow.lt HRA.out.own k hk).1))
 have HR8 := Lib.hid (HRA.out.push (T := ⟨none, 0, 0, []⟩) (World.ownsRow_nil _ _ _ _) hg8 ho8)
 have HJN := Lib.hid (join_any A8 2 c8 (D ++ [⟨none, 0, 0, []⟩]) w8 HR8.out.sl (by omega) (fun T hT => by
  rcases List.mem_append.1 hT with hT | hT
  ·have := HDn.out T hT; omega
  ·rw [List.mem_singleton.1 hT]; decide))
 have HJV := Lib.hid (show joV ((D ++ [(⟨none, 0, 0, []⟩ : TeR)]).map TeR.l) = (([], [[1], [2]]), 1) from by rw [List.map_append, HD.out]; exact aw_join)
 clear ho8 hg8 HRA HEA HRW HE67 HS6
 go_wp2_with fail
 refine HJN.out.mono ?_
 rintro e w9 ⟨A9, n9, c9, L9, B9, m9, d9, X9, he, hv9, -, hX9, he9⟩
 rw [HJV.out] at he hX9
 subst he
 obtain rfl : m9 = 2 := by
  have h1 := hv9.sl2.len
  have h2 := congrArg List.length hX9
  rw [List.length_map, h1] at h2; rw [h2]; exact congrArg List.length aw_canon
 obtain ⟨g10, hg10⟩ : ∃ q, w9.heap.size = q := ⟨_, rfl⟩
 obtain ⟨W10, hW10⟩ : ∃ W, w9.alloc (.cells (vwA A9 n9 c9 B9 2 d9) 25) = W := ⟨_, rfl⟩
 have HB10 := Lib.hid (show Blk W10 g10 25 (vwA A9 n9 c9 B9 2 d9) from by rw [← hW10, ← hg10]; exact Blk.new _ _ _)
 have HE10 := Lib.hid (show Ext W6 W10 from by rw [← hW10]; exact (Ext.trans HE68.out he9).alloc' _)
 obtain ⟨q, hq⟩ : ∃ q, W10.heap.size = q := ⟨_, rfl⟩
 obtain ⟨W12, hW12⟩ : ∃ W, (W10.alloc (.cells #[.int .u8 1] 5)).alloc (.cells #[.slice (some ⟨q, 0, none⟩) 1 1] 28) = W := ⟨_, rfl⟩
 have HE12 := Lib.hid (show Ext W10 W12 from by rw [← hW12]; exact ((Ext.refl _).alloc' _).alloc' _)
 have HX1 := Lib.hid (show SlG W12 (some ⟨q + 1, 0, none⟩) 1 1 [(⟨some ⟨q, 0, none⟩, 1, 1, [1]⟩ : TeR)] from by
  have h1 : Blk W12 q 5 #[.int .u8 1] := by rw [← hW12]; exact (Blk.newAt W10 _ _ _ hq).alloc _
  have h2 : Blk W12 (q + 1) 28 #[.slice (some ⟨q, 0, none⟩) 1 1] := by rw [← hW12]; exact Blk.newAt _ _ _ _ (by rw [← hq]; simp)
  refine ⟨rfl, Nat.le_refl _, by omega, Rd.of_blk h2, fun T hT => ?_⟩
  rw [List.mem_singleton.1 hT]
  exact ⟨rfl, Nat.le_refl _, by show 1 ≤ 9223372036854775807; omega, Rd.of_blk h1⟩)
 have HEM := Lib.hid (HE6.out.trans (HE10.out.trans HE12.out))
 have HMI := Lib.hid (missing_any none 0 0 [] (some ⟨q + 1, 0, none⟩) 1 1 [(⟨some ⟨q, 0, none⟩, 1, 1, [1]⟩ : TeR)] none 0 0 [] (some ⟨w.heap.size + 1 + 1, 0, none⟩) 2 2 (awX w.heap.size) W12 (SlG.nil _) HX1.out (SlG.nil _) (HX.out.ext HEM.out) (by omega) (by omega) (by omega) (by omega) (fun T hT => by rw [List.mem_singleton.1 hT]; show 1 ≤ 140737488355328; omega) (fun S hS => by cases hS) (fun T hT => by have := HN9.out T hT; omega))
 obtain ⟨b0, b1⟩ := vw_facts (HBV.out.ext HEM.out)
 clear HJN hv9 hX9 he9 HE68 HR8
 go_wp2_with fail
 refine HMI.out.mono ?_
 rintro e w13 ⟨A13, n13, c13, L13, B13, m13, d13, X13, rfl, hv13, -, hX13, -, -, he13⟩
 rw [HXV.out] at hX13
 obtain rfl : m13 = 1 := by
  have h1 := hv13.sl2.len
  have h2 := congrArg List.length hX13
  rw [List.length_map, h1] at h2; rw [h2]; exact congrArg List.length aw_miss
 obtain ⟨g12, hg12⟩ : ∃ q, w13.heap.size = q := ⟨_, rfl⟩
 obtain ⟨W14, hW14⟩ : ∃ W, w13.alloc (.cells (vwA A13 n13 c13 B13 1 d13) 25) = W := ⟨_, rfl⟩
 have HB14 := Lib.hid (show Blk W14 g12 25 (vwA A13 n13 c13 B13 1 d13) from by rw [← hW14, ← hg12]; exact Blk.new _ _ _)
 have HE14 := Lib.hid (show Ext W12 W14 from by rw [← hW14]; exact he13.alloc' _)
 try rw [hW10]
 try rw [hg10]
 obtain ⟨x0, x1⟩ := vw_facts (HB4'.out.ext (HE10.out.trans (HE12.out.trans HE14.out)))
 obtain ⟨y0, y1⟩ := vw_facts (HB10.out.ext (HE12.out.trans HE14.out))
 obtain ⟨z0, z1⟩ := vw_facts HB14.out
 clear b0 b1 HMI hv13 hX13 he13
 go_wp2_with fail
 go_ret
 exact ⟨rfl, HE1.out.trans (HEM.out.trans HE14.out)⟩
end Go.Proofs.YtbfepgjeecndiaaGreat
