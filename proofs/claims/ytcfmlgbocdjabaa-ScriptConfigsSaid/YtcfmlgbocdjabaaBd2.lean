/- DecodeBlock: the walk. -/
import Derived.Test.YtcfmlgbocdjabaaBd1
namespace Go.Proofs.Ytcfmlgbocdjabaa
open Go.RowKit
set_option linter.unusedVariables false
set_option linter.unusedSimpArgs false
attribute [local go_sem ↓] Go.wp_at_zero Go.wp_at_succ

section
variable {o : Oper} {a : Act} {w : World} {ops : Array Oper} {rest : List Oper} {Q : Exit → Act → World → Prop}
theorem wpList_storeBk (hgd : o.guard = none) (x y : Operand) (ho : o.op = .store 26 x y) (g : Nat) (cs : Array Value) (hx : a.eval x = .pointer (some ⟨g, 0, none⟩)) (hy : a.eval y = .agg cs) (ht : w.there g 0 9) (hs : cs.size = 9) (h1 : cs.all (·.oneCell') = true)
    (h : wpList Try.prog ops Q rest (a.put o.dst undef) (w.setCells g 0 cs.toList)) : wpList Try.prog ops Q (o :: rest) a w :=
  wpList_store_mid hgd 26 x y ho g 0 cs hx hy (by rw [hs]; exact ht) (by rw [hs]; kernel_rfl) h1 h
theorem wpList_loadBk (hgd : o.guard = none) (x : Operand) (ho : o.op = .load 26 x) (g : Nat) (hx : a.eval x = .pointer (some ⟨g, 0, none⟩)) (p : UInt64) (A : Option Addr) (n c : Nat) (hb : Blk w g 26 (blkC p A n c))
    (h : wpList Try.prog ops Q rest (a.put o.dst (.agg (blkC p A n c))) w) : wpList Try.prog ops Q (o :: rest) a w := by
  have := wpList_load_mid (P := Try.prog) (Q := Q) (ops := ops) (rest := rest) hgd 26 x ho g 0 hx (blkC p A n c).toList _ (rangeAt_of_blk hb) Try.underlying26 rfl (by kernel_rfl)
  exact this h
end
def DecOut (w : World) (r : Option (UInt64 × List (Int × UInt64))) (e : Ending) (w' : World) : Prop :=
  Ext w w' ∧ ((r = none ∧ e = .returned (.tuple #[.agg zero9, .int .i64 4])) ∨ ∃ p L A n c, r = some (p, L) ∧ e = .returned (.tuple #[.agg (blkC p A n c), .int .i64 0]) ∧ SlC w' A n c L)
theorem decBlk_no1 {l : List UInt8} (h : stC (rRest 1 (rRest 8 (openU l 3))) (rNum 1 (rRest 8 (openU l 3))).toNat ≠ some []) : decBlk l = none := by
  unfold decBlk; simp only []; rw [if_neg (fun hh => h hh.1)]
theorem decBlk_no2 {l : List UInt8} (h : vldBlk (ltC (rRest 1 (rRest 8 (openU l 3))) (rNum 1 (rRest 8 (openU l 3))).toNat) = false) : decBlk l = none := by
  unfold decBlk; simp only []; rw [if_neg (fun hh => by rw [h] at hh; cases hh.2)]
theorem decBlk_yes {l : List UInt8} (h1 : stC (rRest 1 (rRest 8 (openU l 3))) (rNum 1 (rRest 8 (openU l 3))).toNat = some []) (h2 : vldBlk (ltC (rRest 1 (rRest 8 (openU l 3))) (rNum 1 (rRest 8 (openU l 3))).toNat) = true) : decBlk l = some (rName (openU l 3), ltC (rRest 1 (rRest 8 (openU l 3))) (rNum 1 (rRest 8 (openU l 3))).toNat) := by
  unfold decBlk; simp only []; rw [if_pos ⟨h1, h2⟩]
theorem blkC_all (p : UInt64) (A : Option Addr) (n c : Nat) : (blkC p A n c).all (·.oneCell') = true :=
  all_oneCell_toArray (fun u hu => by
    simp only [List.mem_cons, List.not_mem_nil, or_false] at hu
    rcases hu with rfl | rfl | rfl | rfl | rfl | rfl | rfl | rfl | rfl <;> rfl)
theorem zero9_all : zero9.all (·.oneCell') = true :=
  all_oneCell_toArray (fun u hu => by
    simp only [List.mem_cons, List.not_mem_nil, or_false] at hu
    rcases hu with rfl | rfl | rfl | rfl | rfl | rfl | rfl | rfl | rfl <;> rfl)
theorem DecB.fin {w0 w : World} {B X : Nat} {p : UInt64} {A : Option Addr} {n c : Nat} {L : List (Int × UInt64)} {s : Option (List UInt8)} (h : DecB w0 w B X p A n c L s) (vs : List Value) : SlC (w.setCells w0.heap.size 0 vs) A n c L := by
  have hl : L.length = n := by have := h.own.1; rw [chc_length] at this; omega
  have ho := h.own.kept (grown_setCells' w w0.heap.size vs 0) (.inr (Ne.symm (own_other h.own h.res (by decide))))
  exact ⟨hl, (own_cap ho).1, (own_cap ho).2, Rd.of_own ho⟩
theorem res_store {w : World} {g : Nat} (h : Blk w g 26 zero9) (cs : Array Value) (hs : cs.size = 9) : Blk (w.setCells g 0 cs.toList) g 26 cs := blk_whole h (by rw [hs]; rfl)
set_option maxRecDepth 100000 in
set_option maxHeartbeats 8000000 in
theorem decBlock_any (A : Option Addr) (n c : Nat) (l : List UInt8) (w : World) (h : SlB w A n c l) (hn : n ≤ 140737488355328) :
    Calls Try.prog 15 #[.slice A n c] w (DecOut w (decBlk l)) := by
  have hD : LowB w.heap.size A n := by
    rcases Nat.eq_zero_or_pos n with h0 | h0
    · exact .inl h0
    · obtain ⟨b, o, e, _, hb⟩ := h.at h0
      exact .inr ⟨b, o, e, hb⟩
  have hE0 := (Ext.refl w).alloc' (.cells zero9 26)
  have HO := Lib.hid (open_any (D := w.heap.size) A n c l 3 (by omega) _ (h.ext hE0) hn hD)
  have HE0 := Lib.hid hE0
  have HR0 := Lib.hid (Blk.new w 26 zero9)
  have HN1 := Lib.hid (@decBlk_no1 l)
  have HN2 := Lib.hid (@decBlk_no2 l)
  have HY := Lib.hid (@decBlk_yes l)
  obtain ⟨s0, hs0⟩ : ∃ s0, openU l 3 = s0 := ⟨_, rfl⟩
  obtain ⟨out, hout⟩ : ∃ out, decBlk l = out := ⟨_, rfl⟩
  rw [hs0] at HO HN1 HN2 HY
  rw [hout] at HN1 HN2 HY ⊢
  clear hs0 hout h hD hE0
  go_enter Try.func15, Try.ntmps15
  go_wp2_with fail
  refine HO.out.mono ?_
  rintro e w1 ⟨B, rfl, hC1, hB1, hE1⟩
  have HC1 := Lib.hid hC1
  have HB1 := Lib.hid (show w.heap.size + 1 ≤ B by simpa using hB1)
  have HE1 := Lib.hid hE1
  clear hC1 hB1 hE1 HO
  go_wp2_with fail
  refine (cname_any B s0 _ HC1.out).mono ?_
  rintro e w2 ⟨rfl, hC2, hg2⟩
  have hE2 : Ext w w2 := ext_grown (HE0.out.trans HE1.out) hg2 (by have := HB1.out; omega)
  obtain ⟨s1, hs1⟩ : ∃ s1, rRest 8 s0 = s1 := ⟨_, rfl⟩
  obtain ⟨p, hp⟩ : ∃ p, rName s0 = p := ⟨_, rfl⟩
  rw [hs1] at hC2 HN1 HN2 HY
  rw [hp] at HY ⊢
  have hR2 : Blk w2 w.heap.size 26 zero9 := (HR0.out.ext HE1.out).grown hg2 (fun e => by injection e with e; have := HB1.out; omega)
  have hw2 : w.heap.size < w2.heap.size := hR2.lt
  have hD2 : DecB w (w2.alloc (.cells (blkC p none 0 0) 26)) B w2.heap.size p none 0 0 [] s1 :=
    ⟨hC2.ext ((Ext.refl w2).alloc' _), Blk.new _ _ _, World.ownsRow_nil _ _ _ _, hE2.alloc' _, by have := HB1.out; omega, hw2, hR2.alloc _⟩
  have HD2 := Lib.hid hD2
  clear hC2 hg2 hE2 hs1 hp hR2 HC1 HE1 HR0 hD2
  go_wp2_with fail
  refine (cuint_any 1 (by omega) (by omega) B s1 _ HD2.out.cur).mono ?_
  rintro e w3 ⟨rfl, hC3, hg3⟩
  have HD3 := Lib.hid (HD2.out.read hC3 hg3)
  have hN := rNum_bd 1 s1
  obtain ⟨N, hNe⟩ : ∃ N : Nat, rNum 1 s1 = (N : Int) := ⟨(rNum 1 s1).toNat, by omega⟩
  rw [hNe] at HN1 HN2 HY hN ⊢
  simp only [Int.toNat_natCast] at HN1 HN2 HY
  have hN2 : N < 256 := by omega
  obtain ⟨s2, hs2⟩ : ∃ s2, rRest 1 s1 = s2 := ⟨_, rfl⟩
  rw [hs2] at HD3 HN1 HN2 HY
  generalize w2.heap.size = X at *
  clear hC3 hg3 hNe hs2 HD2 hN hw2
  go_wp2_with fail
  go_loopw [13] (fun i wr => ∃ (k : Nat) (A4 : Option Addr) (c4 : Nat), k ≤ N ∧ i = .int .i64 (k : Int) ∧ DecB w wr B X p A4 k c4 (ltC s2 k) (stC s2 k)) (fun i _ => N - (intOf i).toNat)
  case atStart => exact ⟨0, none, 0, Nat.zero_le _, rfl, HD3.out⟩
  case round =>
    obtain ⟨k, A4, c4, hk, rfl, hD⟩ := hrel
    have HD := Lib.hid (hD.ext (Ext.refl wr).drew')
    have HDr := Lib.hid hD
    have q4 : wr.cell? ⟨X, 8, none⟩ = some (.slice A4 k c4) := hD.blk.cell 8
    clear hD HD3
    by_cases hlt : k < N
    · have HLT := Lib.hid (ltC_succ s2 k)
      have HST := Lib.hid (show stC s2 (k + 1) = rRest 8 (rRest 1 (stC s2 k)) from rfl)
      obtain ⟨s, hs⟩ : ∃ s, stC s2 k = s := ⟨_, rfl⟩
      rw [hs] at HD HLT HST
      obtain ⟨L, hL⟩ : ∃ L, ltC s2 k = L := ⟨_, rfl⟩
      rw [hL] at HD HLT
      clear hs hL HN1 HN2 HY HDr
      have i1 : (k : Int) < (N : Int) := by omega
      go_wp2_with fail
      go_region_law (first | (go_simp; go_at_call 58; refine (cuint_any 1 (by omega) (by omega) B s _ HD.out.cur).mono ?_; rintro e w5 ⟨rfl, hC5, hg5⟩; have HD5 := Lib.hid (HD.out.read hC5 hg5); have q5 : w5.cell? ⟨X, 8, none⟩ = some (.slice A4 k c4) := HD5.out.blk.cell 8; clear hC5 hg5) | (go_simp; go_at_call 57; refine (cname_any B (rRest 1 s) _ HD5.out.cur).mono ?_; rintro e w6 ⟨rfl, hC6, hg6⟩; have HD6 := Lib.hid ((HD5.out.read hC6 hg6).ext ((Ext.refl w6).alloc' (.cells (chA (rNum 1 s) (rName (rRest 1 s))) 94))); have q6 : w6.cell? ⟨X, 8, none⟩ = some (.slice A4 k c4) := (HD5.out.read hC6 hg6).blk.cell 8; have q7 : (w6.alloc (.cells (chA (rNum 1 s) (rName (rRest 1 s))) 94)).cell? ⟨X, 8, none⟩ = some (.slice A4 k c4) := HD6.out.blk.cell 8; clear hC6 hg6) | (refine step_appG' choiceE rfl (.tmp 16) (.tmp 22) rfl w.heap.size A4 k c4 (chc L) (by rfl) HD6.out.own (some ⟨w6.heap.size, 0, none⟩) 1 1 (chL (rNum 1 s, rName (rRest 1 s))) (by rfl) (by have := Rd.of_blk (Blk.new w6 94 (chA (rNum 1 s) (rName (rRest 1 s)))); rwa [chA_toList] at this) (by rw [chL_length]) (chL_one _) (by omega) (by omega) HD6.out.low.size ?_; intro A7 c7 w7 hO7 hg7; have HD7 := Lib.hid (HD6.out.push hg7 hO7); have hb7 := HD6.out.blk.grown hg7 (own_other HD6.out.own HD6.out.blk (by decide)); have q8 : w7.cell? ⟨X, 8, none⟩ = some (.slice A4 k c4) := hb7.cell 8; have f8 := hb7.frozen 8; clear hO7 hg7 hb7))
      all_goals (
        have HD8 := Lib.hid (show DecB w (w7.setCell ⟨X, 8, none⟩ (.slice A7 (k + 1) c7)) B X p A7 (k + 1) c7 (ltC s2 (k + 1)) (stC s2 (k + 1)) by rw [HLT.out, HST.out]; exact HD7.out)
        clear HD7 HD6 HD5 HD HLT HST
        go_wp2_with fail
        go_roundw
        case rel => exact ⟨k + 1, A7, c7, by omega, by go_num, HD8.out⟩
        case measure => simp [intOf]; omega)
    · obtain rfl : k = N := by omega
      clear HD q4 hlt hk
      by_cases hst : stC s2 k = some []
      · by_cases hv : vldBlk (ltC s2 k) = true
        · have HOUT := Lib.hid (HY.out hst hv)
          have HST := Lib.hid (decide_eq_true hst)
          have HV := Lib.hid hv
          clear HN1 HN2 HY hst hv
          go_wp2_with fail
          refine (cdone_any B _ _ HDr.out.cur).mono ?_
          rintro e w5 ⟨rfl, q, rfl⟩
          rw [HST.out]
          have HDq := Lib.hid (HDr.out.ext (drewN_ext wr q))
          have c8 : (wr.drewN q).cell? ⟨X, 8, none⟩ = some (.slice A4 k c4) := HDq.out.blk.cell 8
          have cN : ∀ i, i < 8 → (wr.drewN q).cell? ⟨X, i, none⟩ = some (.int .u8 (nb8 p i)) := fun i hi => by have := cells8At (blkC_range HDq.out.blk) i hi; rwa [Nat.zero_add] at this
          clear HDr
          go_wp2_with fail
          refine (validBlock_any p A4 k c4 _ _ HDq.out.slc (by omega)).mono ?_
          rintro e w6 ⟨rfl, he6⟩
          rw [HV.out]
          have HD6 := Lib.hid (HDq.out.ext he6)
          have hb6 := HD6.out.blk
          have ht6 : w6.there w.heap.size 0 9 := there_of_blk HD6.out.res
          clear c8 cN HDq he6
          go_wp2_with (first | (with_reducible refine wpList_loadBk rfl (.tmp 5) rfl X rfl p A4 k c4 hb6 ?_) | (with_reducible refine wpList_storeBk rfl (.tmp 2) (.tmp 35) rfl w.heap.size (blkC p A4 k c4) rfl rfl ht6 rfl (blkC_all _ _ _ _) ?_))
          exact bodyPost_ret (v := .tuple #[.agg (blkC p A4 k c4), .int .i64 0]) (retCV rfl _ _ w.heap.size _ _ rfl rfl (run_loadVar_row _ _ _ _ _ (0, 0) _ (res_store HD6.out.res (blkC p A4 k c4) rfl) Try.underlying26 rfl (by kernel_rfl))) rfl ⟨Below.setCells' HD6.out.low (Nat.le_refl _) _ _, .inr ⟨p, ltC s2 k, A4, k, c4, HOUT.out, rfl, HD6.out.fin _⟩⟩
        · have hv' : vldBlk (ltC s2 k) = false := by simpa using hv
          have HOUT := Lib.hid (HN2.out hv')
          have HST := Lib.hid (decide_eq_true hst)
          have HV := Lib.hid hv'
          clear HN1 HN2 HY hst hv hv'
          go_wp2_with fail
          refine (cdone_any B _ _ HDr.out.cur).mono ?_
          rintro e w5 ⟨rfl, q, rfl⟩
          rw [HST.out]
          have HDq := Lib.hid (HDr.out.ext (drewN_ext wr q))
          have c8 : (wr.drewN q).cell? ⟨X, 8, none⟩ = some (.slice A4 k c4) := HDq.out.blk.cell 8
          have cN : ∀ i, i < 8 → (wr.drewN q).cell? ⟨X, i, none⟩ = some (.int .u8 (nb8 p i)) := fun i hi => by have := cells8At (blkC_range HDq.out.blk) i hi; rwa [Nat.zero_add] at this
          clear HDr
          go_wp2_with fail
          refine (validBlock_any p A4 k c4 _ _ HDq.out.slc (by omega)).mono ?_
          rintro e w6 ⟨rfl, he6⟩
          rw [HV.out]
          have HD6 := Lib.hid (HDq.out.ext he6)
          have ht6 : w6.there w.heap.size 0 9 := there_of_blk HD6.out.res
          clear c8 cN HDq he6
          go_wp2_with (first | (with_reducible refine wpList_storeBk rfl (.tmp 2) (.tmp 34) rfl w.heap.size zero9 rfl rfl ht6 rfl zero9_all ?_))
          exact bodyPost_ret (v := .tuple #[.agg zero9, .int .i64 4]) (retCV rfl _ _ w.heap.size _ _ rfl rfl (run_loadVar_row _ _ _ _ _ (0, 0) _ (res_store HD6.out.res zero9 rfl) Try.underlying26 rfl (by kernel_rfl))) rfl ⟨Below.setCells' HD6.out.low (Nat.le_refl _) _ _, .inl ⟨HOUT.out, rfl⟩⟩
      · have HOUT := Lib.hid (HN1.out hst)
        have HST := Lib.hid (decide_eq_false hst)
        clear HN1 HN2 HY hst
        go_wp2_with fail
        refine (cdone_any B _ _ HDr.out.cur).mono ?_
        rintro e w5 ⟨rfl, q, rfl⟩
        rw [HST.out]
        have HD6 := Lib.hid (HDr.out.ext (drewN_ext wr q))
        have ht6 : (wr.drewN q).there w.heap.size 0 9 := there_of_blk HD6.out.res
        clear HDr
        go_wp2_with (first | (with_reducible refine wpList_storeBk rfl (.tmp 2) (.tmp 34) rfl w.heap.size zero9 rfl rfl ht6 rfl zero9_all ?_))
        exact bodyPost_ret (v := .tuple #[.agg zero9, .int .i64 4]) (retCV rfl _ _ w.heap.size _ _ rfl rfl (run_loadVar_row _ _ _ _ _ (0, 0) _ (res_store HD6.out.res zero9 rfl) Try.underlying26 rfl (by kernel_rfl))) rfl ⟨Below.setCells' HD6.out.low (Nat.le_refl _) _ _, .inl ⟨HOUT.out, rfl⟩⟩
end Go.Proofs.Ytcfmlgbocdjabaa
