/- NetworkPlays: the loop's frame. (Printed by gen_plays.py.) -/
import Derived.Test.YtengpfpeeihaoaaPl3
namespace Go.Proofs.Ytengpfpeeihaoaa
open Go.RowKit
set_option linter.unusedVariables false
set_option linter.unusedSimpArgs false

def firstLoop : Code → Option Code
  | .loop c => some c
  | .seq a b => match firstLoop a with
    | some c => some c
    | none => firstLoop b
  | .block _ c => firstLoop c
  | .scope c => firstLoop c
  | .cond _ a b => match firstLoop a with
    | some c => some c
    | none => firstLoop b
  | _ => none
theorem list_range {l : List Value} {n : Nat} (h : l.length = n) : l = (List.range n).map (fun i => l.getD i undef) := by
  apply List.ext_getElem?
  intro i
  by_cases hi : i < l.length
  · simp [hi, h ▸ hi]
  · simp [show n ≤ i by omega, show l.length ≤ i by omega]
set_option maxRecDepth 100000 in
theorem act_eq (a : Act) (h1 : a.defers = []) (h2 : a.tmps.size = 246) : ∃ u : Nat → Value, a = ⟨#[u 0, u 1, u 2, u 3, u 4, u 5, u 6, u 7, u 8, u 9, u 10, u 11, u 12, u 13, u 14, u 15, u 16, u 17, u 18, u 19, u 20, u 21, u 22, u 23, u 24, u 25, u 26, u 27, u 28, u 29, u 30, u 31, u 32, u 33, u 34, u 35, u 36, u 37, u 38, u 39, u 40, u 41, u 42, u 43, u 44, u 45, u 46, u 47, u 48, u 49, u 50, u 51, u 52, u 53, u 54, u 55, u 56, u 57, u 58, u 59, u 60, u 61, u 62, u 63, u 64, u 65, u 66, u 67, u 68, u 69, u 70, u 71, u 72, u 73, u 74, u 75, u 76, u 77, u 78, u 79, u 80, u 81, u 82, u 83, u 84, u 85, u 86, u 87, u 88, u 89, u 90, u 91, u 92, u 93, u 94, u 95, u 96, u 97, u 98, u 99, u 100, u 101, u 102, u 103, u 104, u 105, u 106, u 107, u 108, u 109, u 110, u 111, u 112, u 113, u 114, u 115, u 116, u 117, u 118, u 119, u 120, u 121, u 122, u 123, u 124, u 125, u 126, u 127, u 128, u 129, u 130, u 131, u 132, u 133, u 134, u 135, u 136, u 137, u 138, u 139, u 140, u 141, u 142, u 143, u 144, u 145, u 146, u 147, u 148, u 149, u 150, u 151, u 152, u 153, u 154, u 155, u 156, u 157, u 158, u 159, u 160, u 161, u 162, u 163, u 164, u 165, u 166, u 167, u 168, u 169, u 170, u 171, u 172, u 173, u 174, u 175, u 176, u 177, u 178, u 179, u 180, u 181, u 182, u 183, u 184, u 185, u 186, u 187, u 188, u 189, u 190, u 191, u 192, u 193, u 194, u 195, u 196, u 197, u 198, u 199, u 200, u 201, u 202, u 203, u 204, u 205, u 206, u 207, u 208, u 209, u 210, u 211, u 212, u 213, u 214, u 215, u 216, u 217, u 218, u 219, u 220, u 221, u 222, u 223, u 224, u 225, u 226, u 227, u 228, u 229, u 230, u 231, u 232, u 233, u 234, u 235, u 236, u 237, u 238, u 239, u 240, u 241, u 242, u 243, u 244, u 245], []⟩ ∧ ∀ i, u i = a.tmps.getD i undef := by
  obtain ⟨⟨l⟩, d⟩ := a
  simp only at h1
  subst h1
  refine ⟨fun i => l.getD i undef, ?_, fun i => by simp⟩
  have h := list_range (l := l) (n := 246) h2
  have h3 : (⟨⟨l⟩, []⟩ : Act) = ⟨⟨(List.range 246).map (fun i => l.getD i undef)⟩, []⟩ := by rw [← h]
  exact h3
/-- what holds at the loop's head after k rounds -/
def Rel (w0 : World) (B b b2 : Nat) (p : Int) (k : Nat) (w : World) : Prop := ∃ X Y, Play w B b b2 p X Y ∧ X.map Rec.key = Y.map Rec.key ∧ X.length ≤ k ∧ k ≤ 80 ∧ Ext w0 w
def PI (w0 : World) (B b b2 : Nat) (p ask : Int) (Al : Option Addr) (nl cl : Nat) (a : Act) (w : World) : Prop :=
  a.defers = [] ∧ a.tmps.size = 246 ∧ a.tmps.getD 2 undef = .int .i64 ask ∧ a.tmps.getD 7 undef = .pointer (some ⟨b, 0, none⟩) ∧ a.tmps.getD 8 undef = .pointer (some ⟨b2, 0, none⟩) ∧ a.tmps.getD 30 undef = .slice Al nl cl ∧ a.tmps.getD 31 undef = .int .i64 (nl : Int) ∧
  ∃ k : Nat, a.tmps.getD 32 undef = .int .i64 (k : Int) ∧ k ≤ nl ∧ Rel w0 B b b2 p k w
/-- what holds behind the loop -/
def PX (w0 : World) (B b b2 : Nat) (p ask : Int) (a : Act) (w : World) : Prop :=
  a.defers = [] ∧ a.tmps.size = 246 ∧ a.tmps.getD 2 undef = .int .i64 ask ∧ a.tmps.getD 7 undef = .pointer (some ⟨b, 0, none⟩) ∧ a.tmps.getD 8 undef = .pointer (some ⟨b2, 0, none⟩) ∧ ∃ k, Rel w0 B b b2 p k w
def Pmu (nl : Nat) (a : Act) (_ : World) : Nat := nl - (intOf (a.tmps.getD 32 undef)).toNat
set_option maxRecDepth 100000 in
set_option maxHeartbeats 2000000 in
theorem case_end (w0 : World) (B b b2 : Nat) (p ask : Int) (Al : Option Addr) (nl cl k : Nat) (wr : World) (u : Nat → Value) (Q0 : Exit → Act → World → Prop) (hexit : ∀ a' w'', PX w0 B b b2 p ask a' w'' → Q0 (.exit 0) a' w'') (hk : nl ≤ k) (hnl : nl ≤ 9223372036854775807) (hrel : Rel w0 B b b2 p k wr) (K : Act → World → Prop) :
    Code.wp Try.prog ((Try.f5.body.bind firstLoop).getD .skip) (Exit.then K Q0) ⟨#[u 0, u 1, .int .i64 ask, u 3, u 4, u 5, u 6, .pointer (some ⟨b, 0, none⟩), .pointer (some ⟨b2, 0, none⟩), u 9, u 10, u 11, u 12, u 13, u 14, u 15, u 16, u 17, u 18, u 19, u 20, u 21, u 22, u 23, u 24, u 25, u 26, u 27, u 28, u 29, .slice Al nl cl, .int .i64 (nl : Int), .int .i64 (k : Int), u 33, u 34, u 35, u 36, u 37, u 38, u 39, u 40, u 41, u 42, u 43, u 44, u 45, u 46, u 47, u 48, u 49, u 50, u 51, u 52, u 53, u 54, u 55, u 56, u 57, u 58, u 59, u 60, u 61, u 62, u 63, u 64, u 65, u 66, u 67, u 68, u 69, u 70, u 71, u 72, u 73, u 74, u 75, u 76, u 77, u 78, u 79, u 80, u 81, u 82, u 83, u 84, u 85, u 86, u 87, u 88, u 89, u 90, u 91, u 92, u 93, u 94, u 95, u 96, u 97, u 98, u 99, u 100, u 101, u 102, u 103, u 104, u 105, u 106, u 107, u 108, u 109, u 110, u 111, u 112, u 113, u 114, u 115, u 116, u 117, u 118, u 119, u 120, u 121, u 122, u 123, u 124, u 125, u 126, u 127, u 128, u 129, u 130, u 131, u 132, u 133, u 134, u 135, u 136, u 137, u 138, u 139, u 140, u 141, u 142, u 143, u 144, u 145, u 146, u 147, u 148, u 149, u 150, u 151, u 152, u 153, u 154, u 155, u 156, u 157, u 158, u 159, u 160, u 161, u 162, u 163, u 164, u 165, u 166, u 167, u 168, u 169, u 170, u 171, u 172, u 173, u 174, u 175, u 176, u 177, u 178, u 179, u 180, u 181, u 182, u 183, u 184, u 185, u 186, u 187, u 188, u 189, u 190, u 191, u 192, u 193, u 194, u 195, u 196, u 197, u 198, u 199, u 200, u 201, u 202, u 203, u 204, u 205, u 206, u 207, u 208, u 209, u 210, u 211, u 212, u 213, u 214, u 215, u 216, u 217, u 218, u 219, u 220, u 221, u 222, u 223, u 224, u 225, u 226, u 227, u 228, u 229, u 230, u 231, u 232, u 233, u 234, u 235, u 236, u 237, u 238, u 239, u 240, u 241, u 242, u 243, u 244, u 245], []⟩ wr := by
  have HE := Lib.hid hexit
  clear hexit
  have hk' : (nl : Int) ≤ (k : Int) := by omega
  conv => arg 2; whnf
  go_wp2_with fail
  exact HE.out _ _ ⟨rfl, rfl, rfl, rfl, rfl, k, hrel⟩
/-- the cells of a call in a list of calls -/
structure CallAt (w : World) (bl o : Nat) (i0 i1 i2 i3 y f t : Int) (a : Option Addr) (m c : Nat) : Prop where
  c0 : w.cell? ⟨bl, o, none⟩ = some (.int .i64 i0)
  c1 : w.cell? ⟨bl, o + 1, none⟩ = some (.int .i64 i1)
  c2 : w.cell? ⟨bl, o + 2, none⟩ = some (.int .i64 i2)
  c3 : w.cell? ⟨bl, o + 3, none⟩ = some (.int .i64 i3)
  c4 : w.cell? ⟨bl, o + 4, none⟩ = some (.int .u8 y)
  c5 : w.cell? ⟨bl, o + 5, none⟩ = some (.int .i64 f)
  c6 : w.cell? ⟨bl, o + 6, none⟩ = some (.int .i64 t)
  c7 : w.cell? ⟨bl, o + 7, none⟩ = some (.slice a m c)
abbrev ccs (i0 i1 i2 i3 y f t : Int) (a : Option Addr) (m c : Nat) : Array Value := #[.int .i64 i0, .int .i64 i1, .int .i64 i2, .int .i64 i3, .int .u8 y, .int .i64 f, .int .i64 t, .slice a m c]
set_option maxRecDepth 100000 in
set_option maxHeartbeats 2000000 in
theorem case_break (w0 : World) (B b b2 : Nat) (p ask : Int) (bl ol nl cl k : Nat) (wr : World) (u : Nat → Value) (Q0 : Exit → Act → World → Prop) (hexit : ∀ a' w'', PX w0 B b b2 p ask a' w'' → Q0 (.exit 0) a' w'') (hk : k < nl) (hnl : nl ≤ 9223372036854775807) (hrel : Rel w0 B b b2 p k wr) (K : Act → World → Prop)
    (i0 i1 i2 i3 y f t : Int) (a : Option Addr) (m c : Nat) (hc : CallAt wr bl (ol + k * 8) i0 i1 i2 i3 y f t a m c) (hm : m ≤ 9223372036854775807) (hbr : 80 ≤ k ∨ 1000 < m) :
    Code.wp Try.prog ((Try.f5.body.bind firstLoop).getD .skip) (Exit.then K Q0) ⟨#[u 0, u 1, .int .i64 ask, u 3, u 4, u 5, u 6, .pointer (some ⟨b, 0, none⟩), .pointer (some ⟨b2, 0, none⟩), u 9, u 10, u 11, u 12, u 13, u 14, u 15, u 16, u 17, u 18, u 19, u 20, u 21, u 22, u 23, u 24, u 25, u 26, u 27, u 28, u 29, .slice (some ⟨bl, ol, none⟩) nl cl, .int .i64 (nl : Int), .int .i64 (k : Int), u 33, u 34, u 35, u 36, u 37, u 38, u 39, u 40, u 41, u 42, u 43, u 44, u 45, u 46, u 47, u 48, u 49, u 50, u 51, u 52, u 53, u 54, u 55, u 56, u 57, u 58, u 59, u 60, u 61, u 62, u 63, u 64, u 65, u 66, u 67, u 68, u 69, u 70, u 71, u 72, u 73, u 74, u 75, u 76, u 77, u 78, u 79, u 80, u 81, u 82, u 83, u 84, u 85, u 86, u 87, u 88, u 89, u 90, u 91, u 92, u 93, u 94, u 95, u 96, u 97, u 98, u 99, u 100, u 101, u 102, u 103, u 104, u 105, u 106, u 107, u 108, u 109, u 110, u 111, u 112, u 113, u 114, u 115, u 116, u 117, u 118, u 119, u 120, u 121, u 122, u 123, u 124, u 125, u 126, u 127, u 128, u 129, u 130, u 131, u 132, u 133, u 134, u 135, u 136, u 137, u 138, u 139, u 140, u 141, u 142, u 143, u 144, u 145, u 146, u 147, u 148, u 149, u 150, u 151, u 152, u 153, u 154, u 155, u 156, u 157, u 158, u 159, u 160, u 161, u 162, u 163, u 164, u 165, u 166, u 167, u 168, u 169, u 170, u 171, u 172, u 173, u 174, u 175, u 176, u 177, u 178, u 179, u 180, u 181, u 182, u 183, u 184, u 185, u 186, u 187, u 188, u 189, u 190, u 191, u 192, u 193, u 194, u 195, u 196, u 197, u 198, u 199, u 200, u 201, u 202, u 203, u 204, u 205, u 206, u 207, u 208, u 209, u 210, u 211, u 212, u 213, u 214, u 215, u 216, u 217, u 218, u 219, u 220, u 221, u 222, u 223, u 224, u 225, u 226, u 227, u 228, u 229, u 230, u 231, u 232, u 233, u 234, u 235, u 236, u 237, u 238, u 239, u 240, u 241, u 242, u 243, u 244, u 245], []⟩ wr := by
  have HE := Lib.hid hexit
  clear hexit
  have hk' : (k : Int) < (nl : Int) := by omega
  have hk0 : (0 : Int) ≤ (k : Int) := by omega
  obtain ⟨X, Y, hP, hkeys, h1, h2, hE⟩ := hrel
  have HR := Lib.hid (show Rel w0 B b b2 p k (wr.alloc (.cells (ccs i0 i1 i2 i3 y f t a m c) 46)) from ⟨X, Y, hP.ext ((Ext.refl _).alloc' _), hkeys, h1, h2, hE.alloc' _⟩)
  clear hP hkeys hE h1
  obtain ⟨c0, c1, c2, c3, c4, c5, c6, c7⟩ := hc
  by_cases hb : 80 ≤ k
  · have e1 : (80 : Int) ≤ (k : Int) := by omega
    clear hbr
    conv => arg 2; whnf
    go_wp2_with fail
    exact HE.out _ _ ⟨rfl, rfl, rfl, rfl, rfl, k, HR.out⟩
  · have e1 : decide ((80 : Int) ≤ (k : Int)) = false := decide_eq_false (by omega)
    have e2 : (1000 : Int) < (m : Int) := by omega
    clear hbr
    conv => arg 2; whnf
    go_wp2_with fail
    exact HE.out _ _ ⟨rfl, rfl, rfl, rfl, rfl, k, HR.out⟩
end Go.Proofs.Ytengpfpeeihaoaa
