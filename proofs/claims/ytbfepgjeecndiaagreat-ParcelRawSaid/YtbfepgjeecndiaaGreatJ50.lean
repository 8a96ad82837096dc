/- Parcels joined (parcel.Join). -/
import Derived.Test.YtbfepgjeecndiaaGreatJ43
import Derived.Test.YtbfepgjeecndiaaGreatJ44
import Derived.Test.YtbfepgjeecndiaaGreatJ49
namespace Go.Proofs.YtbfepgjeecndiaaGreat
set_option maxRecDepth 100000
set_option maxHeartbeats 16000000
open Go.RowKit
set_option linter.unusedVariables false
set_option linter.unusedSimpArgs false
attribute [local go_sem ↓] Go.wp_at_zero Go.wp_at_succ
section
variable {w0 w w' : World} {VB : Nat} {A : Option Addr} {n n2 c : Nat} {L L2 : List SgR} {B : Option Addr} {m m2 d : Nat} {X X2 : List TeR}
theorem ClS.app1 (h : ClS w0 w VB A n c L B m d X) {A' : Option Addr} {c' : Nat} (hS : ∀ S ∈ L2, OwnB w w0.heap.size 5 S.A S.n S.c S.sig ∧ S.v.wf) (hg : w.grownBy w' (Value.ownBlock (.slice A n c))) (ho : w'.ownsRow w0.heap.size 48 23 (.slice A' (n + n2) c') (n + n2) (gcs L ++ gcs L2)) :
  ClS w0 (w'.setCell ⟨VB, 0, none⟩ (.slice A' (n + n2) c')) VB A' (n + n2) c' (L ++ L2) B m d X ∧ (∀ g cs, g ≠ VB → Blk w g 25 cs → Blk (w'.setCell ⟨VB, 0, none⟩ (.slice A' (n + n2) c')) g 25 cs) ∧
  (∀ T : TeR, OwnB w w0.heap.size 5 T.A T.n T.c T.l → OwnB (w'.setCell ⟨VB, 0, none⟩ (.slice A' (n + n2) c')) w0.heap.size 5 T.A T.n T.c T.l) ∧ ∀ (B2 : Option Addr) (m2 d2 : Nat) (xs : List Value), w.ownsRow w0.heap.size 28 1 (.slice B2 m2 d2) m2 xs → (w'.setCell ⟨VB, 0, none⟩ (.slice A' (n + n2) c')).ownsRow w0.heap.size 28 1 (.slice B2 m2 d2) m2 xs := by
 have h2 : Blk w' VB 25 (vwA A n c B m d) := h.blk.grown hg (own_other h.vw.own1 h.blk (by decide))
 have h3 := grown_set w' VB 0 (.slice A' (n + n2) c')
 have h4 : Ext w0 w' := Below.grown h.low hg h.low.size (fun k hk => (World.ownsRow.lt h.vw.own1 k hk).1)
 have h5 : Ext w0 (w'.setCell ⟨VB, 0, none⟩ (.slice A' (n + n2) c')) := h4.setCell (p := ⟨VB, 0, none⟩) (Nat.le_of_lt h.hV) _
 have hB1 : ∀ {A0 : Option Addr} {n0 c0 : Nat} {l0 : List UInt8}, OwnB w w0.heap.size 5 A0 n0 c0 l0 → OwnB (w'.setCell ⟨VB, 0, none⟩ (.slice A' (n + n2) c')) w0.heap.size 5 A0 n0 c0 l0 := fun hQ => by
  have hq : OwnB w' w0.heap.size 5 _ _ _ _ := World.ownsRow.kept hQ hg (own_ne hQ h.vw.own1 (by decide))
  exact World.ownsRow.kept hq h3 (.inr (Ne.symm (own_other hq h2 (by decide))))
 have hR : ∀ (B2 : Option Addr) (m2 d2 : Nat) (xs : List Value), w.ownsRow w0.heap.size 28 1 (.slice B2 m2 d2) m2 xs → (w'.setCell ⟨VB, 0, none⟩ (.slice A' (n + n2) c')).ownsRow w0.heap.size 28 1 (.slice B2 m2 d2) m2 xs := fun B2 m2 d2 xs hr => by
  have hq := World.ownsRow.kept hr hg (own_ne hr h.vw.own1 (by decide))
  exact hq.kept h3 (.inr (Ne.symm (own_other hq h2 (by decide))))
 refine ⟨⟨h2.set 0 _, ⟨?_, hR _ _ _ _ h.vw.own2, ?_, fun T hT => hB1 (h.vw.tex T hT)⟩, h5, h.hV⟩, fun g cs hne hb => (hb.grown hg (own_other h.vw.own1 hb (by decide))).far (p := ⟨VB, 0, none⟩) hne _, fun T hT => hB1 hT, hR⟩
 ·have := ho.kept h3 (.inr (Ne.symm (own_other ho h2 (by decide))))
  rw [gcs_append]
  exact this
 ·intro Q hQ
  rcases List.mem_append.1 hQ with hQ | hQ
  ·exact ⟨hB1 (h.vw.sig Q hQ).1, (h.vw.sig Q hQ).2⟩
  ·exact ⟨hB1 (hS Q hQ).1, (hS Q hQ).2⟩
theorem ClS.app2 (h : ClS w0 w VB A n c L B m d X) {B' : Option Addr} {d' : Nat} (hT : ∀ T ∈ X2, OwnB w w0.heap.size 5 T.A T.n T.c T.l) (hg : w.grownBy w' (Value.ownBlock (.slice B m d))) (ho : w'.ownsRow w0.heap.size 28 1 (.slice B' (m + m2) d') (m + m2) (gcs X ++ gcs X2)) :
  ClS w0 (w'.setCell ⟨VB, 1, none⟩ (.slice B' (m + m2) d')) VB A n c L B' (m + m2) d' (X ++ X2) ∧ ∀ g cs, g ≠ VB → Blk w g 25 cs → Blk (w'.setCell ⟨VB, 1, none⟩ (.slice B' (m + m2) d')) g 25 cs := by
 have h2 : Blk w' VB 25 (vwA A n c B m d) := h.blk.grown hg (own_other h.vw.own2 h.blk (by decide))
 have h3 := grown_set w' VB 1 (.slice B' (m + m2) d')
 have h4 : Ext w0 w' := Below.grown h.low hg h.low.size (fun k hk => (World.ownsRow.lt h.vw.own2 k hk).1)
 have h5 : Ext w0 (w'.setCell ⟨VB, 1, none⟩ (.slice B' (m + m2) d')) := h4.setCell (p := ⟨VB, 1, none⟩) (Nat.le_of_lt h.hV) _
 have hB1 : ∀ {A0 : Option Addr} {n0 c0 : Nat} {l0 : List UInt8}, OwnB w w0.heap.size 5 A0 n0 c0 l0 → OwnB (w'.setCell ⟨VB, 1, none⟩ (.slice B' (m + m2) d')) w0.heap.size 5 A0 n0 c0 l0 := fun hQ => by
  have hq : OwnB w' w0.heap.size 5 _ _ _ _ := World.ownsRow.kept hQ hg (own_ne hQ h.vw.own2 (by decide))
  exact World.ownsRow.kept hq h3 (.inr (Ne.symm (own_other hq h2 (by decide))))
 refine ⟨⟨h2.set 1 _, ⟨?_, ?_, fun Q hQ => ⟨hB1 (h.vw.sig Q hQ).1, (h.vw.sig Q hQ).2⟩, ?_⟩, h5, h.hV⟩, fun g cs hne hb => (hb.grown hg (own_other h.vw.own2 hb (by decide))).far (p := ⟨VB, 1, none⟩) hne _⟩
 ·have hq := World.ownsRow.kept h.vw.own1 hg (own_ne h.vw.own1 h.vw.own2 (by decide))
  exact hq.kept h3 (.inr (Ne.symm (own_other hq h2 (by decide))))
 ·have := ho.kept h3 (.inr (Ne.symm (own_other ho h2 (by decide))))
  rw [gcs_append]
  exact this
 ·intro Q hQ
  rcases List.mem_append.1 hQ with hQ | hQ
  ·exact hB1 (h.vw.tex Q hQ)
  ·exact hB1 (hT Q hQ)
end
def JnOut (w : World) (ls : List (List UInt8)) (e : Ending) (w' : World) : Prop := ∃ (A' : Option Addr) (n' c' : Nat) (L' : List SgR) (B' : Option Addr) (m' d' : Nat) (X' : List TeR), e = .returned (.tuple #[.agg (vwA A' n' c' B' m' d'), .int .i64 ((joV ls).2 : Int)]) ∧ VwO w' w.heap.size A' n' c' L' B' m' d' X' ∧ L'.map SgR.V = canonO ltSv (joV ls).1.1 ∧ X'.map TeR.l = canonO lexB (joV ls).1.2 ∧ Ext w w'
theorem join_any (B : Option Addr) (m d : Nat) (X : List TeR) (w : World) (hX : SlG w B m d X) (hm : m ≤ 1000) (hXn : ∀ T, T ∈ X → T.n ≤ 100000000) :
  Calls Tryz.prog 17 #[.slice B m d] w (JnOut w (X.map TeR.l)) := by
 have hcap2 := hX.cap
 have hle2 := hX.le
 obtain ⟨W2, hW2⟩ : ∃ W2, (w.alloc (.cells (vwA none 0 0 none 0 0) 25)).alloc (.cells (vwA none 0 0 none 0 0) 25) = W2 := ⟨_, rfl⟩
 have HR := Lib.hid (show Blk W2 w.heap.size 25 (vwA none 0 0 none 0 0) from by rw [← hW2]; exact (Blk.new _ _ _).alloc _)
 have HC := Lib.hid (show ClS w W2 (w.heap.size + 1) none 0 0 [] none 0 0 [] from by
  rw [← hW2]
  exact ⟨Blk.newAt _ _ _ _ (by simp), VwO.nil _ _, ((Ext.refl w).alloc' _).alloc' _, by omega⟩)
 have HX := Lib.hid hX
 have HXA := Lib.hid (fun (h : 0 < m) => HX.out.at h)
 have HXn := Lib.hid hXn
 clear hX hXn
 go_enter Tryz.func17, Tryz.ntmps17
 go_wp2_with fail
 clear hW2
 go_loopw [5, 12] (fun vb vi wr => ∃ (k bad : Nat) (A : Option Addr) (n c : Nat) (L : List SgR) (B2 : Option Addr) (m2 d2 : Nat) (X2 : List TeR), vi = .int .i64 (k : Int) ∧ vb = .int .i64 (bad : Int) ∧ k ≤ m ∧ bad ≤ k ∧ n ≤ 64 * k ∧ m2 ≤ 64 * k ∧ Hid (joV ((X.take k).map TeR.l) = ((L.map SgR.V, X2.map TeR.l), bad)) ∧ Hid (ClS w wr (w.heap.size + 1) A n c L B2 m2 d2 X2) ∧ Hid (Blk wr w.heap.size 25 (vwA none 0 0 none 0 0)) ∧ Hid ((∀ S ∈ L, S.n ≤ 140737488355328) ∧ ∀ T ∈ X2, T.n ≤ 140737488355328)) (fun _ i _ => m - (intOf i).toNat)
 case atStart => exact ⟨0, 0, none, 0, 0, [], none, 0, 0, [], rfl, rfl, Nat.zero_le _, Nat.le_refl _, Nat.zero_le _, Nat.zero_le _, Lib.hid rfl, HC, HR, Lib.hid ⟨fun S hS => (by cases hS), fun T hT => (by cases hT)⟩⟩
 case round =>
  clear HC HR
  obtain ⟨k, bad, A, n, c, L, B2, m2, d2, X2, rfl, rfl, hk, hbad, hn64, hm64, HJ, HC, HR, HN⟩ := hrel
  by_cases hlt : k < m
  ·obtain ⟨b, o, rfl, hr0, hb⟩ := HXA.out (by omega)
   have i1 : (k : Int) < (m : Int) := by omega
   obtain ⟨T, hT⟩ : ∃ T, nthG X k = T := ⟨_, rfl⟩
   have hr1 := el_at (rangeAt_keep hr0 (HC.out.low.block b hb)) (k := k) (by rw [HX.out.len]; exact hlt)
   have hok := (HX.out.ext HC.out.low).nth (k := k) hlt
   have hTn := HXn.out _ (nthG_mem (L := X) (k := k) (by rw [HX.out.len]; exact hlt))
   have HTK := Lib.hid (show (X.take (k + 1)).map TeR.l = (X.take k).map TeR.l ++ [T.l] from by rw [take_nthG (L := X) (k := k) (by rw [HX.out.len]; exact hlt), List.map_append, hT]; rfl)
   rw [hT] at hr1 hok hTn
   obtain ⟨Ta, Tn, Tc, Tl⟩ := T
   have hc1 : wr.cell? ⟨b, o + k, none⟩ = some (.slice Ta Tn Tc) := by
    have := hr1 0 (.slice Ta Tn Tc) rfl
    simpa [show RowT.sz TeR = 1 from rfl] using this
   have HPD := Lib.hid (pcDec2_any Ta Tn Tc Tl wr hok hTn)
   clear hr0 hr1 hok hT
   go_wp2_with fail
   refine HPD.out.mono ?_
   rintro e w6 ⟨A6, n6, c6, L6, B6, m6, d6, X6, z, rfl, hv6, he6, hcase⟩
   have HV6 := Lib.hid (hv6.mono HC.out.low.size)
   have HC6 := Lib.hid (HC.out.ext he6)
   have HR6 := Lib.hid (HR.out.ext he6)
   clear hv6 he6 HC HR HPD hc1
   rcases hcase with ⟨hz, hno⟩ | ⟨rfl, hyes, h64, h64', hS370, hT65⟩
   ·have HJ2 := Lib.hid (show joV ((X.take (k + 1)).map TeR.l) = ((L.map SgR.V, X2.map TeR.l), bad + 1) from by rw [HTK.out, joV_snoc, HJ.out]; unfold joS; rw [hno])
    have hz' : ¬ z = 0 := hz
    have HC7 := Lib.hid (HC6.out.ext ((Ext.refl w6).alloc' (.cells (vwA A6 n6 c6 B6 m6 d6) 25)))
    have HR7 := Lib.hid (HR6.out.alloc (.cells (vwA A6 n6 c6 B6 m6 d6) 25))
    clear HV6 HC6 HR6 hno hz
    go_wp2_with fail
    go_roundw
    case rel => exact ⟨k + 1, bad + 1, A, n, c, L, B2, m2, d2, X2, by go_num, by go_num, by omega, by omega, by omega, by omega, HJ2, HC7, HR7, HN⟩
    case measure => simp [intOf]; omega
   ·have HJ2 := Lib.hid (show joV ((X.take (k + 1)).map TeR.l) = (((L ++ L6).map SgR.V, (X2 ++ X6).map TeR.l), bad) from by rw [HTK.out, joV_snoc, HJ.out]; unfold joS; rw [hyes, List.map_append, List.map_append])
    have HN2 := Lib.hid (show (∀ S ∈ L ++ L6, S.n ≤ 140737488355328) ∧ ∀ T ∈ X2 ++ X6, T.n ≤ 140737488355328 from by
     constructor
     ·intro S hS
      rcases List.mem_append.1 hS with hS | hS
      ·exact HN.out.1 S hS
      ·have := hS370 S hS; omega
     ·intro T hT
      rcases List.mem_append.1 hT with hT | hT
      ·exact HN.out.2 T hT
      ·have := hT65 T hT; omega)
    obtain ⟨g8, hg8⟩ : ∃ q, w6.heap.size = q := ⟨_, rfl⟩
    obtain ⟨W7, hW7⟩ : ∃ W, w6.alloc (.cells (vwA A6 n6 c6 B6 m6 d6) 25) = W := ⟨_, rfl⟩
    have HE7 := Lib.hid (show Ext w6 W7 from by rw [← hW7]; exact (Ext.refl w6).alloc' _)
    have HB7 := Lib.hid (show Blk W7 g8 25 (vwA A6 n6 c6 B6 m6 d6) from by rw [← hW7, ← hg8]; exact Blk.new _ _ _)
    have HG8 := Lib.hid (show w.heap.size + 1 < g8 from by rw [← hg8]; exact HC6.out.blk.lt)
    have HC7 := Lib.hid (HC6.out.ext HE7.out)
    have HV7 := Lib.hid (HV6.out.ext HE7.out)
    have HR7 := Lib.hid (HR6.out.ext HE7.out)
    have HL6 := Lib.hid (show (gcs L6).length = n6 * 23 from HV7.out.own1.1)
    have HX6 := Lib.hid (show (gcs X6).length = m6 * 1 from HV7.out.own2.1)
    obtain ⟨p0, p1⟩ := vw_facts HC7.out.blk
    obtain ⟨z0, z1⟩ := vw_facts HB7.out
    clear HV6 HC6 HR6 hyes hS370 hT65 HE7 HJ HN
    go_upto_region 9 with (fail)
    try rw [hW7]
    try rw [hg8]
    clear hW7
    go_wp2_with (at_builtin; go_must (refine wpList_appGG sgE rfl (.tmp 26) (.tmp 28) rfl w.heap.size A n c (gcs L) rfl ?r0 A6 n6 c6 (gcs L6) rfl ?r1 HL6.out (gcs_cell L6) (by omega) (by omega) ?b1 ?_))
    case r0 => exact HC7.out.vw.own1
    case r1 => exact Rd.of_own HV7.out.own1
    case b1 => exact HC7.out.low.size
    intro A8 c8 w8 ho8 hgr8
    have hb8 := HC7.out.blk.grown hgr8 (own_other HC7.out.vw.own1 HC7.out.blk (by decide))
    have y0 : w8.cell? ⟨w.heap.size + 1, 0, none⟩ = some (.slice A n c) := hb8.cell 0
    have yf := hb8.frozen 0
    have HA1 := Lib.hid (HC7.out.app1 (L2 := L6) HV7.out.sig hgr8 ho8)
    clear ho8 hgr8 hb8 p0 p1 z0 z1
    go_upto_region 10 with (fail)
    obtain ⟨W8, hW8⟩ : ∃ W, w8.setCell ⟨w.heap.size + 1, 0, none⟩ (.slice A8 (n + n6) c8) = W := ⟨_, rfl⟩
    rw [hW8] at HA1 ⊢
    have HC8 := Lib.hid HA1.out.1
    have HR8 := Lib.hid (HA1.out.2.1 _ _ (by omega) HR7.out)
    have HB8 := Lib.hid (HA1.out.2.1 _ _ (by have := HG8.out; omega) HB7.out)
    have HT8 := Lib.hid (fun T hT => HA1.out.2.2.1 T (HV7.out.tex T hT))
    have HO8 := Lib.hid (HA1.out.2.2.2 _ _ _ _ HV7.out.own2)
    clear hW8 HA1 HC7 HR7 HB7 HV7 y0 yf
    obtain ⟨p0, p1⟩ := vw_facts HC8.out.blk
    obtain ⟨z0, z1⟩ := vw_facts HB8.out
    go_wp2_with (at_builtin; go_must (refine wpList_appGG teE rfl (.tmp 32) (.tmp 34) rfl w.heap.size B2 m2 d2 (gcs X2) rfl ?r0 B6 m6 d6 (gcs X6) rfl ?r1 HX6.out (gcs_cell X6) (by omega) (by omega) ?b1 ?_))
    case r0 => exact HC8.out.vw.own2
    case r1 => exact Rd.of_own HO8.out
    case b1 => exact HC8.out.low.size
    intro B9 d9 w9 ho9 hgr9
    have hb9 := HC8.out.blk.grown hgr9 (own_other HC8.out.vw.own2 HC8.out.blk (by decide))
    have y0 : w9.cell? ⟨w.heap.size + 1, 1, none⟩ = some (.slice B2 m2 d2) := hb9.cell 1
    have yf := hb9.frozen 1
    have HA2 := Lib.hid (HC8.out.app2 (X2 := X6) HT8.out hgr9 ho9)
    clear ho9 hgr9 hb9 p0 p1 z0 z1
    have HC9 := Lib.hid HA2.out.1
    have HR9 := Lib.hid (HA2.out.2 _ _ (by omega) HR8.out)
    clear HA2 HC8 HR8 HB8 HT8 HO8
    go_wp2_with fail
    go_roundw
    case rel => exact ⟨k + 1, bad, A8, n + n6, c8, L ++ L6, B9, m2 + m6, d9, X2 ++ X6, by go_num, rfl, by omega, by omega, by omega, by omega, HJ2, HC9, HR9, HN2⟩
    case measure => simp [intOf]; omega
  ·obtain rfl : k = m := by omega
   have i1 : ¬ (k : Int) < (k : Int) := by omega
   have HJ1 := Lib.hid (show joV (X.map TeR.l) = ((L.map SgR.V, X2.map TeR.l), bad) from by have := HJ.out; rwa [List.take_of_length_le (by rw [HX.out.len]; exact Nat.le_refl _)] at this)
   have HU := Lib.hid (union_any A n c L B2 m2 d2 X2 wr HC.out.vw.sl1 HC.out.vw.sl2 (by omega) (by omega) HN.out.1 HN.out.2)
   obtain ⟨p0, p1⟩ := vw_facts HC.out.blk
   clear HXA HX HXn HJ
   go_wp2_with fail
   refine HU.out.mono ?_
   rintro e w3 ⟨A3, n3, c3, L3, B3, m3, d3, X3, rfl, hv3, hL3, hX3, hn3, hm3, he3⟩
   have HV3 := Lib.hid (hv3.mono HC.out.low.size)
   have HR3 := Lib.hid (HR.out.ext he3)
   have HE3 := Lib.hid (HC.out.low.trans he3)
   have HL3 := Lib.hid hL3
   have HX3 := Lib.hid hX3
   have ht : w3.there w.heap.size 0 2 := there_of_blk HR3.out
   have hst := blk_whole (ds := vwA A3 n3 c3 B3 m3 d3) HR3.out rfl
   clear hv3 he3 hL3 hX3 HU p0 p1
   go_wp2_with (first | (with_reducible refine wpList_storeVw rfl (.tmp 2) (.tmp 40) rfl w.heap.size A3 n3 c3 B3 m3 d3 rfl rfl ht ?_))
   exact bodyPost_ret (v := .tuple #[.agg (vwA A3 n3 c3 B3 m3 d3), .int .i64 (bad : Int)]) (retCV rfl _ _ w.heap.size _ _ rfl rfl (run_loadVar_row _ _ _ _ _ (0, 0) _ hst Tryz.underlying25 rfl (by kernel_rfl))) rfl ⟨A3, n3, c3, L3, B3, m3, d3, X3, by rw [HJ1.out], HV3.out.set HR3.out _, by rw [HJ1.out]; exact HL3.out, by rw [HJ1.out]; exact HX3.out, Below.setCells' HE3.out (Nat.le_refl _) _ _⟩
end Go.Proofs.YtbfepgjeecndiaaGreat

/- Parcels joined (the reference's Join). -/
namespace Go.Proofs.YtbfepgjeecndiaaGreat
set_option maxRecDepth 100000
set_option maxHeartbeats 16000000
open Go.RowKit
set_option linter.unusedVariables false
set_option linter.unusedSimpArgs false
attribute [local go_sem ↓] Go.wp_at_zero Go.wp_at_succ
theorem canonO_app {β : Type} [DecidableEq β] {lt : β → β → Bool} (h : STO lt) (P Q : List β) : canonO lt (canonO lt P ++ Q) = canonO lt (P ++ Q) :=
 canonO_congr h (fun y => by rw [List.mem_append, List.mem_append, mem_canonO h])
theorem pcDecV_ok {l : List UInt8} {L : List SgV} {X : List (List UInt8)} (h : pcDecV l = some (L, X)) : (∀ v ∈ L, v.2.length = 370) ∧ ∀ x ∈ X, x.length ≤ 65535 := by
 obtain ⟨h1, -, -⟩ := encPcV_dec h
 obtain ⟨-, h2⟩ := pcEV_zero.1 h1
 obtain ⟨h3, h4, -⟩ := vwEV_zero.1 h2
 exact ⟨fun v hv => (vldSv_iff.1 (List.all_eq_true.1 h3 v hv)).2, okTv_all h4⟩
theorem joS_ok {s : (List SgV × List (List UInt8)) × Nat} {l : List UInt8} (h : (∀ v ∈ s.1.1, v.2.length = 370) ∧ ∀ x ∈ s.1.2, x.length ≤ 65535) : (∀ v ∈ (joS s l).1.1, v.2.length = 370) ∧ ∀ x ∈ (joS s l).1.2, x.length ≤ 65535 := by
 unfold joS
 split
 ·exact h
 ·rename_i LV XV hd
  obtain ⟨h1, h2⟩ := pcDecV_ok hd
  constructor
  ·intro v hv
   rcases List.mem_append.1 hv with hv | hv
   ·exact h.1 v hv
   ·exact h1 v hv
  ·intro x hx
   rcases List.mem_append.1 hx with hx | hx
   ·exact h.2 x hx
   ·exact h2 x hx
theorem foldJ_ok : ∀ (ls : List (List UInt8)) (s : (List SgV × List (List UInt8)) × Nat), ((∀ v ∈ s.1.1, v.2.length = 370) ∧ ∀ x ∈ s.1.2, x.length ≤ 65535) → (∀ v ∈ (ls.foldl joS s).1.1, v.2.length = 370) ∧ ∀ x ∈ (ls.foldl joS s).1.2, x.length ≤ 65535
 | [], s, h => h
 | l :: r, s, h => foldJ_ok r (joS s l) (joS_ok h)
theorem joV_ok (ls : List (List UInt8)) : (∀ v ∈ (joV ls).1.1, v.2.length = 370) ∧ ∀ x ∈ (joV ls).1.2, x.length ≤ 65535 :=
 foldJ_ok ls _ ⟨fun v hv => (by cases hv), fun x hx => (by cases hx)⟩
theorem rPcDec2_any (A : Option Addr) (n c : Nat) (l : List UInt8) (w : World) (hS : SlB w A n c l) (hbd : n ≤ 1000000) : Calls Tryz.prog 13 #[.slice A n c] w (PcDec2 w l) := by
 refine (rPcDec_any A n c l w hS hbd).mono ?_
 rintro e w' ⟨A', n', c', L, B, m, d, X, z, he, hv, hE, hc⟩
 refine ⟨A', n', c', L, B, m, d, X, z, he, hv, hE, ?_⟩
 rcases hc with ⟨rfl, h, -⟩ | ⟨rfl, -, h, -⟩ | ⟨rfl, -, -, -, -, h⟩ | ⟨rfl, -, -, -, -, L2, X2, h, -, h2⟩ | ⟨rfl, h8, hs, hr, ho, hl, hv2⟩
 ·exact .inl ⟨by decide, pcDecV_short h⟩
 ·exact .inl ⟨by decide, pcDecV_sum h⟩
 ·exact .inl ⟨by decide, pcDecV_raw h⟩
 ·exact .inl ⟨by decide, pcDecV_large h h2⟩
 ·have hn : L.length = n' := hv.sl1.len
  have hm : X.length = m := hv.sl2.len
  have hlg := lrgN_bd hl
  refine .inr ⟨rfl, pcDecV_yes h8 hs hr ho hl, by omega, by omega, fun S hS => ?_, fun T hT => ?_⟩
  ·have := hv2 S hS
   unfold vldSg at this
   rw [Bool.and_eq_true] at this
   exact of_decide_eq_true this.2
  ·have := rawVw_len hr T.l (List.mem_map_of_mem hT)
   have h3 := SlB.len (hv.sl2.ok T hT)
   omega
theorem rJoin_any (B : Option Addr) (m d : Nat) (X : List TeR) (w : World) (hX : SlG w B m d X) (hm : m ≤ 1000) (hXn : ∀ T, T ∈ X → T.n ≤ 1000000) :
  Calls Tryz.prog 18 #[.slice B m d] w (JnOut w (X.map TeR.l)) := by
 have hcap2 := hX.cap
 have hle2 := hX.le
 obtain ⟨W2, hW2⟩ : ∃ W2, (w.alloc (.cells (vwA none 0 0 none 0 0) 25)).alloc (.cells (vwA none 0 0 none 0 0) 25) = W2 := ⟨_, rfl⟩
 have HR := Lib.hid (show Blk W2 w.heap.size 25 (vwA none 0 0 none 0 0) from by rw [← hW2]; exact (Blk.new _ _ _).alloc _)
 have HO := Lib.hid (show Blk W2 (w.heap.size + 1) 25 (vwA none 0 0 none 0 0) from by rw [← hW2]; exact Blk.newAt _ _ _ _ (by simp))
 have HEW := Lib.hid (show Ext w W2 from by rw [← hW2]; exact ((Ext.refl w).alloc' _).alloc' _)
 have HX := Lib.hid hX
 have HXA := Lib.hid (fun (h : 0 < m) => HX.out.at h)
 have HXn := Lib.hid hXn
 clear hX hXn
 go_enter Tryz.func18, Tryz.ntmps18
 go_wp2_with fail
 clear hW2
 go_loopw [5, 6] (fun vb vi wr => ∃ (k bad : Nat) (A : Option Addr) (n c : Nat) (L : List SgR) (B2 : Option Addr) (m2 d2 : Nat) (X2 : List TeR), vi = .int .i64 (k : Int) ∧ vb = .int .i64 (bad : Int) ∧ k ≤ m ∧ bad ≤ k ∧ n ≤ 64 * k ∧ m2 ≤ 64 * k ∧ Hid (L.map SgR.V = canonO ltSv (joV ((X.take k).map TeR.l)).1.1 ∧ X2.map TeR.l = canonO lexB (joV ((X.take k).map TeR.l)).1.2 ∧ (joV ((X.take k).map TeR.l)).2 = bad) ∧ Hid (VwO wr w.heap.size A n c L B2 m2 d2 X2) ∧ Hid (Blk wr (w.heap.size + 1) 25 (vwA A n c B2 m2 d2)) ∧ Hid (Blk wr w.heap.size 25 (vwA none 0 0 none 0 0)) ∧ Hid (Ext w wr)) (fun _ i _ => m - (intOf i).toNat)
 case atStart => exact ⟨0, 0, none, 0, 0, [], none, 0, 0, [], rfl, rfl, Nat.zero_le _, Nat.le_refl _, Nat.zero_le _, Nat.zero_le _, Lib.hid ⟨rfl, rfl, rfl⟩, Lib.hid (VwO.nil _ _), HO, HR, HEW⟩
 case round =>
  clear HO HR HEW
  obtain ⟨k, bad, A, n, c, L, B2, m2, d2, X2, rfl, rfl, hk, hbad, hn64, hm64, HJ, HV, HO, HR, HEW⟩ := hrel
  by_cases hlt : k < m
  ·obtain ⟨b, o, rfl, hr0, hb⟩ := HXA.out (by omega)
   have i1 : (k : Int) < (m : Int) := by omega
   obtain ⟨T, hT⟩ : ∃ T, nthG X k = T := ⟨_, rfl⟩
   have hr1 := el_at (rangeAt_keep hr0 (HEW.out.block b hb)) (k := k) (by rw [HX.out.len]; exact hlt)
   have hok := (HX.out.ext HEW.out).nth (k := k) hlt
   have hTn := HXn.out _ (nthG_mem (L := X) (k := k) (by rw [HX.out.len]; exact hlt))
   have HTK := Lib.hid (show (X.take (k + 1)).map TeR.l = (X.take k).map TeR.l ++ [T.l] from by rw [take_nthG (L := X) (k := k) (by rw [HX.out.len]; exact hlt), List.map_append, hT]; rfl)
   rw [hT] at hr1 hok hTn
   obtain ⟨Ta, Tn, Tc, Tl⟩ := T
   have hc1 : wr.cell? ⟨b, o + k, none⟩ = some (.slice Ta Tn Tc) := by
    have := hr1 0 (.slice Ta Tn Tc) rfl
    simpa [show RowT.sz TeR = 1 from rfl] using this
   have HPD := Lib.hid (rPcDec2_any Ta Tn Tc Tl wr hok hTn)
   clear hr0 hr1 hok hT
   go_wp2_with fail
   refine HPD.out.mono ?_
   rintro e w6 ⟨A6, n6, c6, L6, B6, m6, d6, X6, z, rfl, hv6, he6, hcase⟩
   obtain ⟨W7, hW7⟩ : ∃ W, w6.alloc (.cells (vwA A6 n6 c6 B6 m6 d6) 25) = W := ⟨_, rfl⟩
   obtain ⟨g8, hg8⟩ : ∃ q, w6.heap.size = q := ⟨_, rfl⟩
   have HE67 := Lib.hid (show Ext w6 W7 from by rw [← hW7]; exact (Ext.refl w6).alloc' _)
   have HE7 := Lib.hid (he6.trans HE67.out)
   have HV6 := Lib.hid (hv6.ext HE67.out)
   have HB7 := Lib.hid (show Blk W7 g8 25 (vwA A6 n6 c6 B6 m6 d6) from by rw [← hW7, ← hg8]; exact Blk.new _ _ _)
   have HO7 := Lib.hid (HO.out.ext HE7.out)
   have HR7 := Lib.hid (HR.out.ext HE7.out)
   have HV7 := Lib.hid (HV.out.ext HE7.out)
   have HEW7 := Lib.hid (HEW.out.trans HE7.out)
   have HLO := Lib.hid HEW.out.size
   clear hv6 he6 HPD hc1 HV HO HR HEW HE67 HE7
   rcases hcase with ⟨hz, hno⟩ | ⟨rfl, hyes, h64, h64', hS370, hT65⟩
   ·have HJ2 := Lib.hid (show L.map SgR.V = canonO ltSv (joV ((X.take (k + 1)).map TeR.l)).1.1 ∧ X2.map TeR.l = canonO lexB (joV ((X.take (k + 1)).map TeR.l)).1.2 ∧ (joV ((X.take (k + 1)).map TeR.l)).2 = bad + 1 from by
     rw [HTK.out, joV_snoc]; unfold joS; rw [hno]
     exact ⟨HJ.out.1, HJ.out.2.1, by rw [← HJ.out.2.2]⟩)
    have z1 : (z != 0) = true := bne_iff_ne.2 hz
    have z2 : (z == 0) = false := beq_eq_false_iff_ne.2 hz
    clear hno hz HJ
    go_wp2_with (first | (with_reducible refine wpList_newVw rfl (.tmp 7) (.tmp 21) rfl _ rfl A6 n6 c6 B6 m6 d6 rfl rfl ?_))
    go_roundw
    case rel => exact ⟨k + 1, bad + 1, A, n, c, L, B2, m2, d2, X2, by go_num, by go_num, by omega, by omega, by omega, by omega, HJ2, HV7, HO7, HR7, HEW7⟩
    case measure => simp [intOf]; omega
   ·have HJ0 := Lib.hid (joV_ok ((X.take k).map TeR.l))
    have hnS : ∀ S ∈ L ++ L6, S.n ≤ 140737488355328 := fun S hS => by
     rcases List.mem_append.1 hS with hS | hS
     ·have h1 : S.V ∈ L.map SgR.V := List.mem_map_of_mem hS
      rw [HJ.out.1, mem_canonO ltSv_sto] at h1
      have h2 := HJ0.out.1 _ h1
      have h3 := (HV7.out.sl1.ok S hS).sig.len
      have h4 : S.sig.length = 370 := h2
      omega
     ·have := hS370 S hS; omega
    have hnT : ∀ T ∈ X2 ++ X6, T.n ≤ 140737488355328 := fun T hT => by
     rcases List.mem_append.1 hT with hT | hT
     ·have h1 : T.l ∈ X2.map TeR.l := List.mem_map_of_mem hT
      rw [HJ.out.2.1, mem_canonO lexB_sto] at h1
      have h2 := HJ0.out.2 _ h1
      have h3 := SlB.len (HV7.out.sl2.ok T hT)
      omega
     ·have := hT65 T hT; omega
    have HU := Lib.hid (refUnion_any A n c L B2 m2 d2 X2 A6 n6 c6 L6 B6 m6 d6 X6 W7 HV7.out.sl1 HV7.out.sl2 HV6.out.sl1 HV6.out.sl2 (by omega) (by omega) (by omega) (by omega) hnS hnT)
    obtain ⟨p0, p1⟩ := vw_facts HO7.out
    obtain ⟨z0, z1⟩ := vw_facts HB7.out
    have HYES := Lib.hid hyes
    clear hnS hnT hS370 hT65 hyes HJ0
    go_wp2_with (first | (with_reducible refine wpList_newVw rfl (.tmp 7) (.tmp 21) rfl _ rfl A6 n6 c6 B6 m6 d6 rfl rfl ?_))
    refine HU.out.mono ?_
    rintro e w8 ⟨A8, n8, c8, L8, B8, m8, d8, X8, rfl, hv8, hL8, hX8, hn8, hm8, he8⟩
    have HV8 := Lib.hid (hv8.mono HEW7.out.size)
    have HO8 := Lib.hid (HO7.out.ext he8)
    have HR8 := Lib.hid (HR7.out.ext he8)
    have HE8 := Lib.hid (HEW7.out.trans he8)
    have HJ2 := Lib.hid (show L8.map SgR.V = canonO ltSv (joV ((X.take (k + 1)).map TeR.l)).1.1 ∧ X8.map TeR.l = canonO lexB (joV ((X.take (k + 1)).map TeR.l)).1.2 ∧ (joV ((X.take (k + 1)).map TeR.l)).2 = bad from by
     rw [HTK.out, joV_snoc]; unfold joS; rw [HYES.out]
     refine ⟨?_, ?_, HJ.out.2.2⟩
     ·rw [hL8, List.map_append, HJ.out.1, canonO_app ltSv_sto]
     ·rw [hX8, List.map_append, HJ.out.2.1, canonO_app lexB_sto])
    have ht : w8.there (w.heap.size + 1) 0 2 := there_of_blk HO8.out
    clear hv8 hL8 hX8 he8 HU p0 p1 z0 z1 HJ hW7 hg8 HYES
    go_wp2_with (first | (with_reducible refine wpList_storeVw rfl (.tmp 4) (.tmp 29) rfl (w.heap.size + 1) A8 n8 c8 B8 m8 d8 rfl rfl ht ?_))
    go_roundw
    case rel => exact ⟨k + 1, bad, A8, n8, c8, L8, B8, m8, d8, X8, by go_num, rfl, by omega, by omega, by omega, by omega, HJ2, Lib.hid (HV8.out.set HO8.out _), Lib.hid (blk_whole HO8.out rfl), Lib.hid (HR8.out.grown (grown_setCells' w8 (w.heap.size + 1) _ 0) (by simp)), Lib.hid (Below.setCells' HE8.out (by omega) _ _)⟩
    case measure => simp [intOf]; omega
  ·obtain rfl : k = m := by omega
   have i1 : ¬ (k : Int) < (k : Int) := by omega
   have HJ1 := Lib.hid (show L.map SgR.V = canonO ltSv (joV (X.map TeR.l)).1.1 ∧ X2.map TeR.l = canonO lexB (joV (X.map TeR.l)).1.2 ∧ (joV (X.map TeR.l)).2 = bad from by have := HJ.out; rwa [List.take_of_length_le (by rw [HX.out.len]; exact Nat.le_refl _)] at this)
   obtain ⟨p0, p1⟩ := vw_facts HO.out
   have ht : wr.there w.heap.size 0 2 := there_of_blk HR.out
   have hst := blk_whole (ds := vwA A n c B2 m2 d2) HR.out rfl
   clear HXA HX HXn HJ
   go_wp2_with (first | (with_reducible refine wpList_storeVw rfl (.tmp 2) (.tmp 30) rfl w.heap.size A n c B2 m2 d2 rfl rfl ht ?_))
   exact bodyPost_ret (v := .tuple #[.agg (vwA A n c B2 m2 d2), .int .i64 (bad : Int)]) (retCV rfl _ _ w.heap.size _ _ rfl rfl (run_loadVar_row _ _ _ _ _ (0, 0) _ hst Tryz.underlying25 rfl (by kernel_rfl))) rfl ⟨A, n, c, L, B2, m2, d2, X2, by rw [HJ1.out.2.2], HV.out.set HR.out _, HJ1.out.1, HJ1.out.2.1, Below.setCells' HEW.out (Nat.le_refl _) _ _⟩
end Go.Proofs.YtbfepgjeecndiaaGreat
