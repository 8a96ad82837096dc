/- names (the reference's): bytes of names appended to bytes of one's own. -/
import Derived.Test.YtengpfpeeihaoaaSig1
import Derived.Deep.AppendLies
namespace Go.Proofs.Ytengpfpeeihaoaa
open Go.RowKit
set_option linter.unusedVariables false
set_option linter.unusedSimpArgs false

theorem grown_refl (w : World) (row : Option Nat) : w.grownBy w row := ⟨rfl, rfl, rfl, Nat.le_refl _, fun _ _ _ => rfl⟩
/-- append of something to bytes of one's own: what lies where -/
theorem wpList_appBL {P : Program} {t e : TypeId} {ops : Array Oper} {rest : List Oper} {o : Oper} {a : Act} {w : World} {Q : Exit → Act → World → Prop} (E : Elem P t e (.int .u8 0) 1 1) (hgd : o.guard = none) (s x : Operand)
    (ho : o.op = .call { callee := .builtin .append, args := #[s, x], argTypes := #[t, t] })
    (base : Nat) (A : Option Addr) (n c : Nat) (l : List UInt8) (hs : a.eval s = .slice A n c) (hown : OwnB w base e A n c l)
    (A2 : Option Addr) (m c2 : Nat) (l2 : List UInt8) (hx : a.eval x = .slice A2 m c2) (hr : SlB w A2 m c2 l2) (hm : 0 < m)
    (hb : n + m ≤ 140737488355328) (hbase : base ≤ w.heap.size)
    (h : ∀ A' c' w', OwnB w' base e A' (n + m) c' (l ++ l2) → w.grownBy w' (Value.ownBlock (.slice A n c)) → (∀ g, Value.ownBlock (.slice A' (n + m) c') = some g → Value.ownBlock (.slice A n c) = some g ∨ w.heap.size ≤ g) → wpList P ops Q rest (a.put o.dst (.slice A' (n + m) c')) w') : wpList P ops Q (o :: rest) a w := by
  obtain ⟨i, hi, hz, hsz, hby⟩ := E.get
  obtain ⟨b, ob, rfl, hra, _⟩ := hr.at hm
  refine wpList_append_lies (w := w) hgd s x t ho base e i _ 1 1 E.ut hi hz hsz hby E.zs E.pos (.slice A n c) n (bcs l) hs hown ⟨b, ob, none⟩ m c2 (bcs l2) hx (by rw [bcs_length, hr.len, Nat.mul_one]) (fun j u hu => by rw [Addr.add_mid]; exact hra j u hu) (bcs_one l2) hm (by simp only [maxLen]; omega) (by omega) hbase _ rfl ?_
  intro g cap w' h2 h3 h4 h5
  exact h _ _ _ (by unfold OwnB; rw [bcs_append]; exact h2) h3 (fun g' hg' => by
    have : g = g' := by simpa [Value.ownBlock] using hg'
    subst this
    rcases h4 with h | h
    · exact .inl h
    · exact .inr (by omega))
theorem SlN.grown {w w' : World} {N : Option Addr} {n c : Nat} {ns : List UInt64} {row : Option Nat} (h : SlN w N n c ns) (hg : w.grownBy w' row) (hne : ∀ b o, N = some ⟨b, o, none⟩ → row ≠ some b) : SlN w' N n c ns := by
  refine ⟨h.len, h.le, h.cap, ?_⟩
  by_cases hx : ncs ns = []
  · exact .inl hx
  · obtain ⟨b, o, rfl, hr, hlt⟩ := h.rd.at hx
    exact .inr ⟨b, o, rfl, rangeAt_keep hr (hg.block b hlt (fun e => hne b o rfl e.symm))⟩
set_option maxRecDepth 100000 in
set_option maxHeartbeats 1000000 in
theorem refNames_any (base : Nat) (A : Option Addr) (n c : Nat) (l : List UInt8) (N : Option Addr) (k c1 : Nat) (ns : List UInt64) (w : World) (hO : OwnB w base 5 A n c l) (hN : SlN w N k c1 ns) (hk : k ≤ 1000) (hn : n ≤ 1000000) (hb : base ≤ w.heap.size)
    (hne : ∀ b o, N = some ⟨b, o, none⟩ → Value.ownBlock (.slice A n c) ≠ some b) :
    Calls Try.prog 56 #[.slice A n c, .slice N k c1] w fun e w' => ∃ A' c', e = .returned (.slice A' (n + k * 8) c') ∧ OwnB w' base 5 A' (n + k * 8) c' (l ++ ns.flatMap nmb) ∧ w.grownBy w' (Value.ownBlock (.slice A n c)) ∧ (∀ g, Value.ownBlock (.slice A' (n + k * 8) c') = some g → Value.ownBlock (.slice A n c) = some g ∨ w.heap.size ≤ g) := by
  have hlen := hN.len
  have HN := Lib.hid hN
  have HNE := Lib.hid hne
  have HLen := Lib.hid hlen
  have HO0 := Lib.hid hO
  clear hN hne hlen hO
  go_enter Try.func56, Try.ntmps56
  go_wp2_with fail
  go_loopw [0, 5] (fun v i wr => ∃ (j : Nat) (A1 : Option Addr) (cc : Nat), j ≤ k ∧ i = .int .i64 (j : Int) ∧ v = .slice A1 (n + j * 8) cc ∧ OwnB wr base 5 A1 (n + j * 8) cc (l ++ (ns.take j).flatMap nmb) ∧ w.grownBy wr (Value.ownBlock (.slice A n c)) ∧ (∀ g, Value.ownBlock (.slice A1 (n + j * 8) cc) = some g → Value.ownBlock (.slice A n c) = some g ∨ w.heap.size ≤ g)) (fun _ i _ => k - (intOf i).toNat)
  case atStart => exact ⟨0, A, c, by omega, rfl, by simp, by simpa using HO0.out, grown_refl _ _, fun g hg => .inl (by simpa using hg)⟩
  case round =>
    obtain ⟨j, A1, cc, hj, rfl, rfl, hO, hG, hL⟩ := hrel
    have HO := Lib.hid hO
    have HG := Lib.hid hG
    have HL := Lib.hid hL
    clear hO hG hL
    by_cases hlt : j < k
    · have hsn := SlN.grown HN.out HG.out HNE.out
      obtain ⟨bN, oN, rfl, hra, hbl⟩ := hsn.at (by omega)
      have hjl : j < ns.length := by have := HLen.out; omega
      have HSB := Lib.hid (show SlB wr (some ⟨bN, oN + j * 8, none⟩) 8 8 (nmb (nthN ns j)) from ⟨nmb_length _, Nat.le_refl _, by omega, .inr ⟨_, _, rfl, name_nth hra hjl⟩⟩)
      have HF := Lib.hid (show l ++ (ns.take (j + 1)).flatMap nmb = l ++ ((ns.take j).flatMap nmb ++ nmb (nthN ns j)) from by rw [flat_take ns j hjl]; rfl)
      have j0 : (0 : Int) ≤ (j : Int) := by omega
      have j1 : (j : Int) < (k : Int) := by omega
      clear hsn hra hjl
      go_wp2_with (at_builtin; go_must (refine wpList_appBL bytesE rfl (.tmp 12) (.tmp 16) rfl base A1 (n + j * 8) cc (l ++ (ns.take j).flatMap nmb) rfl HO.out _ 8 8 (nmb (nthN ns j)) rfl HSB.out (by omega) (by omega) (Nat.le_trans hb HG.out.size) ?_))
      intro A4 c4 w4 hO4 hG4 hL4
      have HG4 := Lib.hid (show w.grownBy w4 (Value.ownBlock (.slice A n c)) from ⟨hG4.os.trans HG.out.os, hG4.tape.trans HG.out.tape, hG4.output.trans HG.out.output, Nat.le_trans HG.out.size hG4.size, fun q hq hqr => by
        rw [hG4.block q (Nat.lt_of_lt_of_le hq HG.out.size) (fun e => by
          rcases HL.out q e.symm with h | h
          · exact hqr h.symm
          · omega), HG.out.block q hq hqr]⟩)
      have HL4 := Lib.hid (show ∀ g, Value.ownBlock (.slice A4 (n + j * 8 + 8) c4) = some g → Value.ownBlock (.slice A n c) = some g ∨ w.heap.size ≤ g from fun g hg => by
        rcases hL4 g hg with h | h
        · exact HL.out g h
        · exact .inr (Nat.le_trans HG.out.size h))
      have HE := Lib.hid (show n + j * 8 + 8 = n + (j + 1) * 8 by omega)
      clear hG4 hL4
      go_wp2_with fail
      go_roundw
      case rel => exact ⟨j + 1, A4, c4, by omega, by go_num, by rw [HE.out], by rw [HF.out, ← HE.out]; exact hO4, HG4.out, by rw [← HE.out]; exact HL4.out⟩
      case measure => simp [intOf]; omega
    · obtain rfl : j = k := by omega
      have HT := Lib.hid (show ns.take j = ns from List.take_of_length_le (by have := HLen.out; omega))
      go_wp2_with fail
      go_ret
      exact ⟨A1, cc, rfl, by have := HO.out; rwa [HT.out] at this, HG.out, HL.out⟩
/-- names do not lie in a block that is too small for them -/
theorem SlN.ne_small {w : World} {N : Option Addr} {n c : Nat} {ns : List UInt64} {g : Nat} {t : TypeId} {cs : Array Value} (h : SlN w N n c ns) (hb : Blk w g t cs) (hs : cs.size < n * 8) : ∀ b o, N = some ⟨b, o, none⟩ → some g ≠ some b := by
  intro b o hN he
  injection he with he
  subst he
  have hl := h.len
  obtain ⟨b', o', e, hr, _⟩ := h.at (by omega)
  rw [hN] at e
  injection e with e
  injection e with e1 e2
  subst e1
  have hlen : (ncs ns).length = n * 8 := by rw [ncs_length, hl]
  have hx : (ncs ns)[n * 8 - 1]? = some ((ncs ns)[n * 8 - 1]'(by omega)) := List.getElem?_eq_getElem (by omega)
  have hc := hr (n * 8 - 1) _ hx
  rw [hb.cell] at hc
  have := (Array.getElem?_eq_some_iff.1 hc).1
  omega
theorem own_lit2 (w : World) (base g : Nat) (z0 z1 : Int) (c0 c1 : UInt8) (hg : w.heap.size = g) (hb : base ≤ g) (h0 : z0 = (c0.toNat : Int)) (h1 : z1 = (c1.toNat : Int)) : OwnB (w.alloc (.cells #[.int .u8 z0, .int .u8 z1] 5)) base 5 (some ⟨g, 0, none⟩) 2 2 [c0, c1] := by
  subst hg
  have := World.ownsRow_lit (base := base) (e := 5) (size := 1) w #[.int .u8 z0, .int .u8 z1] 2 hb (by unfold maxLen; omega) rfl
  unfold OwnB
  rw [show bcs [c0, c1] = (#[.int .u8 z0, .int .u8 z1] : Array Value).toList from by rw [h0, h1]; rfl]
  exact this
end Go.Proofs.Ytengpfpeeihaoaa
