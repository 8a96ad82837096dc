/- DecodeGenesis: the walk. -/
import Derived.Test.YtfklmcfanhnfpaaGd1
namespace Go.Proofs.Ytfklmcfanhnfpaa
open Go.RowKit
set_option linter.unusedVariables false
set_option linter.unusedSimpArgs false
attribute [local go_sem ↓] Go.wp_at_zero Go.wp_at_succ

/-- a genesis -/
structure Gen where
  N : Int
  Z : Int
  V : List UInt64
  Ac : List UInt64
  Bl : List Int
/-- what is read behind the kind -/
def finG (N Z : Int) (n : Nat) (s3 : Option (List UInt8)) : Option Gen :=
  if rA (rRest 1 (rV s3 n)) (rNum 1 (rV s3 n)).toNat = some [] ∧ vldG N Z n (rNum 1 (rV s3 n)).toNat (rNum 1 (rV s3 n)).toNat (bA (rRest 1 (rV s3 n)) (rNum 1 (rV s3 n)).toNat) = true
  then some ⟨N, Z, vV s3 n, aA (rRest 1 (rV s3 n)) (rNum 1 (rV s3 n)).toNat, bA (rRest 1 (rV s3 n)) (rNum 1 (rV s3 n)).toNat⟩ else none
def decG (l : List UInt8) : Option Gen :=
  finG (rNum 1 (openU l 1)) (rNum 6 (rRest 1 (openU l 1))) (rNum 1 (rRest 6 (rRest 1 (openU l 1)))).toNat (rRest 1 (rRest 6 (rRest 1 (openU l 1))))
theorem finG_no1 {N Z : Int} {n m : Nat} {s3 s5 : Option (List UInt8)} (hm : (rNum 1 (rV s3 n)).toNat = m) (h5 : rRest 1 (rV s3 n) = s5) (h : rA s5 m ≠ some []) : finG N Z n s3 = none := by
  unfold finG; rw [hm, h5, if_neg (fun hh => h hh.1)]
theorem finG_no2 {N Z : Int} {n m : Nat} {s3 s5 : Option (List UInt8)} (hm : (rNum 1 (rV s3 n)).toNat = m) (h5 : rRest 1 (rV s3 n) = s5) (h : vldG N Z n m m (bA s5 m) = false) : finG N Z n s3 = none := by
  unfold finG; rw [hm, h5, if_neg (fun hh => by rw [h] at hh; cases hh.2)]
theorem finG_yes {N Z : Int} {n m : Nat} {s3 s5 : Option (List UInt8)} (hm : (rNum 1 (rV s3 n)).toNat = m) (h5 : rRest 1 (rV s3 n) = s5) (h : rA s5 m = some []) (h2 : vldG N Z n m m (bA s5 m) = true) : finG N Z n s3 = some ⟨N, Z, vV s3 n, aA s5 m, bA s5 m⟩ := by
  unfold finG; rw [hm, h5, if_pos ⟨h, h2⟩]
def GenOut (w : World) (r : Option Gen) (e : Ending) (w' : World) : Prop :=
  Ext w w' ∧ ((r = none ∧ e = .returned (.tuple #[.agg zeroG, .int .i64 4])) ∨ ∃ g A1 n1 c1 A2 n2 c2 A3 n3 c3, r = some g ∧ e = .returned (.tuple #[.agg (genC g.N g.Z A1 n1 c1 A2 n2 c2 A3 n3 c3), .int .i64 0]) ∧ SlN w' A1 n1 c1 g.V ∧ SlN w' A2 n2 c2 g.Ac ∧ SlZ w' A3 n3 c3 g.Bl)
section
variable {o : Oper} {a : Act} {w : World} {ops : Array Oper} {rest : List Oper} {Q : Exit → Act → World → Prop}
theorem wpList_storeG (hgd : o.guard = none) (x y : Operand) (ho : o.op = .store 50 x y) (g : Nat) (cs : Array Value) (hx : a.eval x = .pointer (some ⟨g, 0, none⟩)) (hy : a.eval y = .agg cs) (ht : w.there g 0 5) (hs : cs.size = 5) (h1 : cs.all (·.oneCell') = true)
    (h : wpList Try.prog ops Q rest (a.put o.dst undef) (w.setCells g 0 cs.toList)) : wpList Try.prog ops Q (o :: rest) a w :=
  wpList_store_mid hgd 50 x y ho g 0 cs hx hy (by rw [hs]; exact ht) (by rw [hs]; kernel_rfl) h1 h
theorem wpList_loadG (hgd : o.guard = none) (x : Operand) (ho : o.op = .load 50 x) (g : Nat) (hx : a.eval x = .pointer (some ⟨g, 0, none⟩)) (cs : Array Value) (hs : cs.size = 5) (hb : Blk w g 50 cs)
    (h : wpList Try.prog ops Q rest (a.put o.dst (.agg cs)) w) : wpList Try.prog ops Q (o :: rest) a w := by
  have := wpList_load_mid (P := Try.prog) (Q := Q) (ops := ops) (rest := rest) hgd 50 x ho g 0 hx cs.toList _ (rangeAt_of_blk hb) Try.underlying50 rfl (by rw [Array.length_toList, hs]; kernel_rfl)
  exact this h
end
theorem genC_all (N Z : Int) (A1 : Option Addr) (n1 c1 : Nat) (A2 : Option Addr) (n2 c2 : Nat) (A3 : Option Addr) (n3 c3 : Nat) : (genC N Z A1 n1 c1 A2 n2 c2 A3 n3 c3).all (·.oneCell') = true :=
  all_oneCell_toArray (fun u hu => by
    simp only [List.mem_cons, List.not_mem_nil, or_false] at hu
    rcases hu with rfl | rfl | rfl | rfl | rfl <;> rfl)
theorem resG_store {w : World} {g : Nat} (h : Blk w g 50 zeroG) (cs : Array Value) (hs : cs.size = 5) : Blk (w.setCells g 0 cs.toList) g 50 cs := blk_whole h (by rw [hs]; rfl)
theorem SlZ.of_own {w : World} {A : Option Addr} {n c base : Nat} {l : List Int} {e : TypeId} (h : w.ownsRow base e 1 (.slice A n c) n (ics l)) : SlZ w A n c l := by
  have hl : l.length = n := by have := h.1; rw [ics_length] at this; omega
  exact ⟨hl, (own_cap h).1, (own_cap h).2, Rd.of_own h⟩
theorem DecG2.fin {w0 w : World} {b2 B X : Nat} {N Z : Int} {A1 : Option Addr} {n1 c1 : Nat} {V : List UInt64} {A2 : Option Addr} {n2 c2 : Nat} {Ac : List UInt64} {A3 : Option Addr} {n3 c3 : Nat} {Bl : List Int} {s : Option (List UInt8)} (h : DecG2 w0 w b2 B X N Z A1 n1 c1 V A2 n2 c2 Ac A3 n3 c3 Bl s) (vs : List Value) : SlN (w.setCells w0.heap.size 0 vs) A1 n1 c1 V ∧ SlN (w.setCells w0.heap.size 0 vs) A2 n2 c2 Ac ∧ SlZ (w.setCells w0.heap.size 0 vs) A3 n3 c3 Bl := by
  have hg := grown_setCells' w w0.heap.size vs 0
  exact ⟨SlN.of_own (h.own1.kept hg (.inr (Ne.symm (own_other h.own1 h.res (by decide))))), SlN.of_own (h.own2.kept hg (.inr (Ne.symm (own_other h.own2 h.res (by decide))))), SlZ.of_own (h.own3.kept hg (.inr (Ne.symm (own_other h.own3 h.res (by decide)))))⟩
set_option maxRecDepth 100000 in
set_option maxHeartbeats 8000000 in
theorem decGenesis_any (A : Option Addr) (n c : Nat) (l : List UInt8) (w : World) (h : SlB w A n c l) (hn : n ≤ 140737488355328) :
    Calls Try.prog 28 #[.slice A n c] w (GenOut w (decG l)) := by
  have hD : LowB w.heap.size A n := by
    rcases Nat.eq_zero_or_pos n with h0 | h0
    · exact .inl h0
    · obtain ⟨b, o, e, _, hb⟩ := h.at h0
      exact .inr ⟨b, o, e, hb⟩
  have hE0 := (Ext.refl w).alloc' (.cells zeroG 50)
  have HO := Lib.hid (open_any (D := w.heap.size) A n c l 1 (by omega) _ (h.ext hE0) hn hD)
  have HE0 := Lib.hid hE0
  have HR0 := Lib.hid (Blk.new w 50 zeroG)
  obtain ⟨out, hout⟩ : ∃ out, decG l = out := ⟨_, rfl⟩
  rw [hout]
  unfold decG at hout
  obtain ⟨s0, hs0⟩ : ∃ s0, openU l 1 = s0 := ⟨_, rfl⟩
  rw [hs0] at HO hout
  have HOUT := Lib.hid hout
  clear hs0 hout h hD hE0
  go_enter Try.func28, Try.ntmps28
  go_wp2_with fail
  refine HO.out.mono ?_
  rintro e w1 ⟨B, rfl, hC1, hB1, hE1⟩
  have HC1 := Lib.hid hC1
  have HB1 := Lib.hid (show w.heap.size + 1 ≤ B by simpa using hB1)
  have HE1 := Lib.hid hE1
  clear hC1 hB1 hE1 HO
  go_wp2_with fail
  refine (cuint_any 1 (by omega) (by omega) B s0 _ HC1.out).mono ?_
  rintro e w2 ⟨rfl, hC2, hg2⟩
  have HC2 := Lib.hid hC2
  have HG2 := Lib.hid hg2
  obtain ⟨N, hNe⟩ : ∃ N, rNum 1 s0 = N := ⟨_, rfl⟩
  obtain ⟨s1, hs1⟩ : ∃ s1, rRest 1 s0 = s1 := ⟨_, rfl⟩
  rw [hNe] at HOUT ⊢
  rw [hs1] at HOUT HC2
  clear hC2 hg2 hNe hs1
  go_wp2_with fail
  refine (cuint_any 6 (by omega) (by omega) B s1 _ HC2.out).mono ?_
  rintro e w3 ⟨rfl, hC3, hg3⟩
  have HG3 := Lib.hid (World.grownBy.trans HG2.out hg3)
  obtain ⟨Z, hZe⟩ : ∃ Z, rNum 6 s1 = Z := ⟨_, rfl⟩
  obtain ⟨s2, hs2⟩ : ∃ s2, rRest 6 s1 = s2 := ⟨_, rfl⟩
  rw [hZe] at HOUT ⊢
  rw [hs2] at HOUT hC3
  have hE3 : Ext w w3 := ext_grown (HE0.out.trans HE1.out) HG3.out (by have := HB1.out; omega)
  have hR3 : Blk w3 w.heap.size 50 zeroG := (HR0.out.ext HE1.out).grown HG3.out (fun e => by injection e with e; have := HB1.out; omega)
  have hw3 : w.heap.size < w3.heap.size := hR3.lt
  have hD3 : DecG1 w (w3.alloc (.cells (genC N Z none 0 0 none 0 0 none 0 0) 50)) B w3.heap.size N Z none 0 0 [] s2 :=
    ⟨hC3.ext ((Ext.refl w3).alloc' _), Blk.new _ _ _, World.ownsRow_nil _ _ _ _, hE3.alloc' _, by have := HB1.out; omega, hw3, hR3.alloc _⟩
  have HD3 := Lib.hid hD3
  clear hC3 hg3 hE3 hR3 hD3 hZe hs2 HC1 HC2 HG2 HG3 HE1 HR0
  go_wp2_with fail
  refine (cuint_any 1 (by omega) (by omega) B s2 _ HD3.out.cur).mono ?_
  rintro e w4 ⟨rfl, hC4, hg4⟩
  have HD4 := Lib.hid (HD3.out.read hC4 hg4)
  have hM := rNum_bd 1 s2
  obtain ⟨n1, hNe⟩ : ∃ n1 : Nat, rNum 1 s2 = (n1 : Int) := ⟨(rNum 1 s2).toNat, by omega⟩
  rw [hNe] at HOUT hM ⊢
  rw [Int.toNat_natCast] at HOUT
  have hn1 : n1 < 256 := by omega
  obtain ⟨s3, hs3⟩ : ∃ s3, rRest 1 s2 = s3 := ⟨_, rfl⟩
  rw [hs3] at HD4 HOUT
  generalize w3.heap.size = X at *
  clear hC4 hg4 hNe hs3 HD3 hM hw3
  go_wp2_with fail
  go_loopw [15] (fun i wr => ∃ (k : Nat) (A4 : Option Addr) (c4 : Nat), k ≤ n1 ∧ i = .int .i64 (k : Int) ∧ DecG1 w wr B X N Z A4 k c4 (vV s3 k) (rV s3 k)) (fun i _ => n1 - (intOf i).toNat)
  case atStart => exact ⟨0, none, 0, Nat.zero_le _, rfl, HD4.out⟩
  case round =>
    obtain ⟨k, A4, c4, hk, rfl, hD⟩ := hrel
    have HD := Lib.hid (hD.ext (Ext.refl wr).drew')
    have HDr := Lib.hid hD
    have q4 : wr.cell? ⟨X, 2, none⟩ = some (.slice A4 k c4) := hD.blk.cell 2
    clear hD HD4
    by_cases hlt : k < n1
    · have HLT := Lib.hid (vV_succ s3 k)
      have HST := Lib.hid (show rV s3 (k + 1) = rRest 8 (rV s3 k) from rfl)
      obtain ⟨s, hs⟩ : ∃ s, rV s3 k = s := ⟨_, rfl⟩
      rw [hs] at HD HLT HST
      obtain ⟨L, hL⟩ : ∃ L, vV s3 k = L := ⟨_, rfl⟩
      rw [hL] at HD HLT
      have hbn := run_buildN1 (rName s)
      have i1 : (k : Int) < (n1 : Int) := by omega
      clear hs hL HDr
      go_wp2_with fail
      go_region_law (first | (go_simp; go_at_call 61; refine (cname_any B s _ HD.out.cur).mono ?_; rintro e w6 ⟨rfl, hC6, hg6⟩; have HD6 := Lib.hid ((HD.out.read hC6 hg6).ext ((Ext.refl w6).alloc' (.cells (nmc (rName s)) 25))); have q6 : w6.cell? ⟨X, 2, none⟩ = some (.slice A4 k c4) := (HD.out.read hC6 hg6).blk.cell 2; have q7 : (w6.alloc (.cells (nmc (rName s)) 25)).cell? ⟨X, 2, none⟩ = some (.slice A4 k c4) := HD6.out.blk.cell 2; clear hC6 hg6) | (refine step_appG' namesE rfl (.tmp 18) (.tmp 21) rfl w.heap.size A4 k c4 (ncs L) (by rfl) HD6.out.own (some ⟨w6.heap.size, 0, none⟩) 1 1 (bcs (nmb (rName s))) (by rfl) (by have := Rd.of_blk (Blk.new w6 25 (nmc (rName s))); rwa [nmc_toList] at this) (by rw [bcs_length, nmb_length]) (bcs_one _) (by omega) (by omega) HD6.out.low.size ?_; intro A7 c7 w7 hO7 hg7; have HD7 := Lib.hid (HD6.out.push hg7 hO7); have hb7 := HD6.out.blk.grown hg7 (own_other HD6.out.own HD6.out.blk (by decide)); have q8 : w7.cell? ⟨X, 2, none⟩ = some (.slice A4 k c4) := hb7.cell 2; have f8 := hb7.frozen 2; clear hO7 hg7 hb7))
      all_goals (
        have HD8 := Lib.hid (show DecG1 w (w7.setCell ⟨X, 2, none⟩ (.slice A7 (k + 1) c7)) B X N Z A7 (k + 1) c7 (vV s3 (k + 1)) (rV s3 (k + 1)) by rw [HLT.out, HST.out]; exact HD7.out)
        clear HD7 HD6 HD HLT HST
        go_wp2_with fail
        go_roundw
        case rel => exact ⟨k + 1, A7, c7, by omega, by go_num, HD8.out⟩
        case measure => simp [intOf]; omega)
    · obtain rfl : k = n1 := by omega
      clear HD q4 hlt hk
      go_wp2_with fail
      refine (cuint_any 1 (by omega) (by omega) B (rV s3 k) _ HDr.out.cur).mono ?_
      rintro e w5 ⟨rfl, hC5, hg5⟩
      have hD5 := HDr.out.read hC5 hg5
      have hM := rNum_bd 1 (rV s3 k)
      obtain ⟨m, hmE⟩ : ∃ m : Nat, rNum 1 (rV s3 k) = (m : Int) := ⟨(rNum 1 (rV s3 k)).toNat, by omega⟩
      obtain ⟨s5, hs5⟩ : ∃ s5, rRest 1 (rV s3 k) = s5 := ⟨_, rfl⟩
      have HM := Lib.hid (show (rNum 1 (rV s3 k)).toNat = m by rw [hmE]; rfl)
      have HS5 := Lib.hid hs5
      rw [hs5] at hD5
      rw [hmE] at hM ⊢
      have hm1 : m < 256 := by omega
      have HD5 := Lib.hid (show DecG2 w w5 w5.heap.size B X N Z A4 k c4 (vV s3 k) none 0 0 (aA s5 0) none 0 0 (bA s5 0) (rA s5 0) from
        ⟨hD5.cur, hD5.blk, hD5.own, World.ownsRow_nil _ _ _ _, World.ownsRow_nil _ _ _ _, fun q hq => (World.ownsRow.lt hD5.own q hq).2, ⟨hD5.low.size, Nat.le_refl _⟩, hD5.low, hD5.hB, hD5.hX, hD5.res⟩)
      generalize w5.heap.size = b2 at *
      clear hC5 hg5 hD5 hmE hs5 hM HDr
      go_wp2_with fail
      go_loopw [27] (fun i wr => ∃ (j : Nat) (A5 : Option Addr) (c5 : Nat) (A6 : Option Addr) (c6 : Nat), j ≤ m ∧ i = .int .i64 (j : Int) ∧ DecG2 w wr b2 B X N Z A4 k c4 (vV s3 k) A5 j c5 (aA s5 j) A6 j c6 (bA s5 j) (rA s5 j)) (fun i _ => m - (intOf i).toNat)
      case atStart => exact ⟨0, none, 0, none, 0, Nat.zero_le _, rfl, HD5.out⟩
      case round =>
        obtain ⟨j, A5, c5, A6, c6, hj, rfl, hD⟩ := hrel
        have HD := Lib.hid (hD.ext (Ext.refl wr).drew')
        have HDr := Lib.hid hD
        have q4 : wr.cell? ⟨X, 3, none⟩ = some (.slice A5 j c5) := hD.blk.cell 3
        clear hD HD5
        by_cases hlt : j < m
        · have HLA := Lib.hid (aA_succ s5 j)
          have HLB := Lib.hid (bA_succ s5 j)
          have HST := Lib.hid (show rA s5 (j + 1) = rRest 6 (rRest 8 (rA s5 j)) from rfl)
          obtain ⟨s, hs⟩ : ∃ s, rA s5 j = s := ⟨_, rfl⟩
          rw [hs] at HD HLA HLB HST
          obtain ⟨L, hL⟩ : ∃ L, aA s5 j = L := ⟨_, rfl⟩
          rw [hL] at HD HLA
          obtain ⟨Bs, hBs⟩ : ∃ Bs, bA s5 j = Bs := ⟨_, rfl⟩
          rw [hBs] at HD HLB
          have hbn := run_buildN1 (rName s)
          have i1 : (j : Int) < (m : Int) := by omega
          clear hs hL hBs HDr
          go_wp2_with fail
          go_region_law (first | (go_simp; go_at_call 61; refine (cname_any B s _ HD.out.cur).mono ?_; rintro e w6 ⟨rfl, hC6, hg6⟩; have HD6 := Lib.hid ((HD.out.read hC6 hg6).ext ((Ext.refl w6).alloc' (.cells (nmc (rName s)) 25))); have q6 : w6.cell? ⟨X, 3, none⟩ = some (.slice A5 j c5) := (HD.out.read hC6 hg6).blk.cell 3; have q7 : (w6.alloc (.cells (nmc (rName s)) 25)).cell? ⟨X, 3, none⟩ = some (.slice A5 j c5) := HD6.out.blk.cell 3; clear hC6 hg6) | (refine step_appG' namesE rfl (.tmp 30) (.tmp 33) rfl b2 A5 j c5 (ncs L) (by rfl) HD6.out.own2 (some ⟨w6.heap.size, 0, none⟩) 1 1 (bcs (nmb (rName s))) (by rfl) (by have := Rd.of_blk (Blk.new w6 25 (nmc (rName s))); rwa [nmc_toList] at this) (by rw [bcs_length, nmb_length]) (bcs_one _) (by omega) (by omega) HD6.out.hb2.2 ?_; intro A7 c7 w7 hO7 hg7; have HD7 := Lib.hid (HD6.out.push2 hg7 hO7); have hb7 := HD6.out.blk.grown hg7 (own_other HD6.out.own2 HD6.out.blk (by decide)); have q8 : w7.cell? ⟨X, 3, none⟩ = some (.slice A5 j c5) := hb7.cell 3; have f8 := hb7.frozen 3; clear hO7 hg7 hb7))
          all_goals (
            have HD8 := Lib.hid (HD7.out.ext (Ext.refl _).drew')
            have p8 : (w7.setCell ⟨X, 3, none⟩ (.slice A7 (j + 1) c7)).cell? ⟨X, 4, none⟩ = some (.slice A6 j c6) := HD7.out.blk.cell 4
            clear HD6 HD hbn q4 q6 q8 f8
            try clear q7
            generalize w7.setCell ⟨X, 3, none⟩ (.slice A7 (j + 1) c7) = W8 at *
            go_wp2_with fail
            go_region_law (first | (go_simp; go_at_call 54; refine (cuint_any 6 (by omega) (by omega) B (rRest 8 s) _ HD8.out.cur).mono ?_; rintro e w9 ⟨rfl, hC9, hg9⟩; have HD9 := Lib.hid ((HD8.out.read hC9 hg9).ext ((Ext.refl w9).alloc' (.cells #[.int .i64 (rNum 6 (rRest 8 s))] 3))); have q9 : w9.cell? ⟨X, 4, none⟩ = some (.slice A6 j c6) := (HD8.out.read hC9 hg9).blk.cell 4; have q10 : (w9.alloc (.cells #[.int .i64 (rNum 6 (rRest 8 s))] 3)).cell? ⟨X, 4, none⟩ = some (.slice A6 j c6) := HD9.out.blk.cell 4; clear hC9 hg9) | (refine step_appG' intsE rfl (.tmp 37) (.tmp 40) rfl w.heap.size A6 j c6 (ics Bs) (by rfl) HD9.out.own3 (some ⟨w9.heap.size, 0, none⟩) 1 1 [.int .i64 (rNum 6 (rRest 8 s))] (by rfl) (Rd.of_blk (Blk.new w9 3 #[.int .i64 (rNum 6 (rRest 8 s))])) rfl (fun u hu => by simp at hu; subst hu; rfl) (by omega) (by omega) HD9.out.low.size ?_; intro A10 c10 w10 hO10 hg10; have HD10 := Lib.hid (HD9.out.push3 hg10 hO10); have hb10 := HD9.out.blk.grown hg10 (own_other HD9.out.own3 HD9.out.blk (by decide)); have q11 : w10.cell? ⟨X, 4, none⟩ = some (.slice A6 j c6) := hb10.cell 4; have f11 := hb10.frozen 4; clear hO10 hg10 hb10))
            all_goals (
              have HD11 := Lib.hid (show DecG2 w (w10.setCell ⟨X, 4, none⟩ (.slice A10 (j + 1) c10)) b2 B X N Z A4 k c4 (vV s3 k) A7 (j + 1) c7 (aA s5 (j + 1)) A10 (j + 1) c10 (bA s5 (j + 1)) (rA s5 (j + 1)) by rw [HLA.out, HLB.out, HST.out]; exact HD10.out)
              clear HD10 HD9 HD8 HD7 HLA HLB HST
              go_wp2_with fail
              go_roundw
              case rel => exact ⟨j + 1, A7, c7, A10, c10, by omega, by go_num, HD11.out⟩
              case measure => simp [intOf]; omega))
        · obtain rfl : j = m := by omega
          clear HD q4 hlt hj
          by_cases hst : rA s5 j = some []
          · by_cases hv : vldG N Z k j j (bA s5 j) = true
            · have HYES := Lib.hid (show out = _ from HOUT.out.symm.trans (finG_yes HM.out HS5.out hst hv))
              have HST := Lib.hid (decide_eq_true hst)
              have HV := Lib.hid (show codeG (vldG N Z k j j (bA s5 j)) = 0 by rw [hv]; rfl)
              clear hst hv HOUT
              go_wp2_with fail
              refine (cdone_any B _ _ HDr.out.cur).mono ?_
              rintro e w5 ⟨rfl, q, rfl⟩
              rw [HST.out]
              have HDq := Lib.hid (HDr.out.ext (drewN_ext wr q))
              have x0 : (wr.drewN q).cell? ⟨X, 0, none⟩ = some (.int .i64 N) := HDq.out.blk.cell 0
              have x1 : (wr.drewN q).cell? ⟨X, 1, none⟩ = some (.int .i64 Z) := HDq.out.blk.cell 1
              have x2 : (wr.drewN q).cell? ⟨X, 2, none⟩ = some (.slice A4 k c4) := HDq.out.blk.cell 2
              have x3 : (wr.drewN q).cell? ⟨X, 3, none⟩ = some (.slice A5 j c5) := HDq.out.blk.cell 3
              have x4 : (wr.drewN q).cell? ⟨X, 4, none⟩ = some (.slice A6 j c6) := HDq.out.blk.cell 4
              clear HDr
              go_wp2_with fail
              refine (valGenesis_any N Z A4 k c4 A5 j c5 A6 j c6 (bA s5 j) _ (SlZ.of_own HDq.out.own3) (by omega) (by omega)).mono ?_
              rintro e w6 ⟨rfl, he6⟩
              rw [HV.out]
              have HD6 := Lib.hid (HDq.out.ext he6)
              have ht6 : w6.there w.heap.size 0 5 := there_of_blk HD6.out.res
              have hb6 := HD6.out.blk
              clear x0 x1 x2 x3 x4 HDq he6
              go_wp2_with (first | (with_reducible refine wpList_loadG rfl (.tmp 5) rfl X rfl (genC N Z A4 k c4 A5 j c5 A6 j c6) rfl hb6 ?_) | (with_reducible refine wpList_storeG rfl (.tmp 2) (.tmp 53) rfl w.heap.size (genC N Z A4 k c4 A5 j c5 A6 j c6) rfl rfl ht6 rfl (genC_all _ _ _ _ _ _ _ _ _ _ _) ?_))
              exact bodyPost_ret (v := .tuple #[.agg (genC N Z A4 k c4 A5 j c5 A6 j c6), .int .i64 0]) (retCV rfl _ _ w.heap.size _ _ rfl rfl (run_loadVar_row _ _ _ _ _ (0, 0) _ (resG_store HD6.out.res (genC N Z A4 k c4 A5 j c5 A6 j c6) rfl) Try.underlying50 rfl (by kernel_rfl))) rfl ⟨Below.setCells' HD6.out.low (Nat.le_refl _) _ _, .inr ⟨⟨N, Z, vV s3 k, aA s5 j, bA s5 j⟩, A4, k, c4, A5, j, c5, A6, j, c6, HYES.out, rfl, HD6.out.fin _⟩⟩
            · have hv' : vldG N Z k j j (bA s5 j) = false := by simpa using hv
              have HNO := Lib.hid (show out = none from HOUT.out.symm.trans (finG_no2 HM.out HS5.out hv'))
              have HST := Lib.hid (decide_eq_true hst)
              have HV := Lib.hid (show codeG (vldG N Z k j j (bA s5 j)) = 1 by rw [hv']; rfl)
              clear hst hv hv' HOUT
              go_wp2_with fail
              refine (cdone_any B _ _ HDr.out.cur).mono ?_
              rintro e w5 ⟨rfl, q, rfl⟩
              rw [HST.out]
              have HDq := Lib.hid (HDr.out.ext (drewN_ext wr q))
              have x0 : (wr.drewN q).cell? ⟨X, 0, none⟩ = some (.int .i64 N) := HDq.out.blk.cell 0
              have x1 : (wr.drewN q).cell? ⟨X, 1, none⟩ = some (.int .i64 Z) := HDq.out.blk.cell 1
              have x2 : (wr.drewN q).cell? ⟨X, 2, none⟩ = some (.slice A4 k c4) := HDq.out.blk.cell 2
              have x3 : (wr.drewN q).cell? ⟨X, 3, none⟩ = some (.slice A5 j c5) := HDq.out.blk.cell 3
              have x4 : (wr.drewN q).cell? ⟨X, 4, none⟩ = some (.slice A6 j c6) := HDq.out.blk.cell 4
              clear HDr
              go_wp2_with fail
              refine (valGenesis_any N Z A4 k c4 A5 j c5 A6 j c6 (bA s5 j) _ (SlZ.of_own HDq.out.own3) (by omega) (by omega)).mono ?_
              rintro e w6 ⟨rfl, he6⟩
              rw [HV.out]
              have HD6 := Lib.hid (HDq.out.ext he6)
              have ht6 : w6.there w.heap.size 0 5 := there_of_blk HD6.out.res
              have hb6 := HD6.out.blk
              clear x0 x1 x2 x3 x4 HDq he6
              go_wp2_with (first | (with_reducible refine wpList_storeG rfl (.tmp 2) (.tmp 52) rfl w.heap.size zeroG rfl rfl ht6 rfl (genC_all _ _ _ _ _ _ _ _ _ _ _) ?_))
              exact bodyPost_ret (v := .tuple #[.agg zeroG, .int .i64 4]) (retCV rfl _ _ w.heap.size _ _ rfl rfl (run_loadVar_row _ _ _ _ _ (0, 0) _ (resG_store HD6.out.res zeroG rfl) Try.underlying50 rfl (by kernel_rfl))) rfl ⟨Below.setCells' HD6.out.low (Nat.le_refl _) _ _, .inl ⟨HNO.out, rfl⟩⟩
          · have HNO := Lib.hid (show out = none from HOUT.out.symm.trans (finG_no1 HM.out HS5.out hst))
            have HST := Lib.hid (decide_eq_false hst)
            clear hst HOUT
            go_wp2_with fail
            refine (cdone_any B _ _ HDr.out.cur).mono ?_
            rintro e w5 ⟨rfl, q, rfl⟩
            rw [HST.out]
            have HD6 := Lib.hid (HDr.out.ext (drewN_ext wr q))
            have ht6 : (wr.drewN q).there w.heap.size 0 5 := there_of_blk HD6.out.res
            clear HDr
            go_wp2_with (first | (with_reducible refine wpList_storeG rfl (.tmp 2) (.tmp 52) rfl w.heap.size zeroG rfl rfl ht6 rfl (genC_all _ _ _ _ _ _ _ _ _ _ _) ?_))
            exact bodyPost_ret (v := .tuple #[.agg zeroG, .int .i64 4]) (retCV rfl _ _ w.heap.size _ _ rfl rfl (run_loadVar_row _ _ _ _ _ (0, 0) _ (resG_store HD6.out.res zeroG rfl) Try.underlying50 rfl (by kernel_rfl))) rfl ⟨Below.setCells' HD6.out.low (Nat.le_refl _) _ _, .inl ⟨HNO.out, rfl⟩⟩
end Go.Proofs.Ytfklmcfanhnfpaa
