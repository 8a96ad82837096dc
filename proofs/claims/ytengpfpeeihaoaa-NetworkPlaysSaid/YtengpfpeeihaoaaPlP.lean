/- NetworkPlays: a network is as documented for any calls: each result, and all that is in flight: for every number of processes, every list of calls and every place the law returns true and leaves its arguments alone. No condition. -/
import Derived.Test.YtengpfpeeihaoaaPl11
import Derived.Test.YtengpfpeeihaoaaCall
import Derived.Deep.Fields
namespace Go.Proofs.Ytengpfpeeihaoaa
open Go.ChangeShapes Go.WideShapes Go.ChangeAt Go.RowKit Go.Deep
theorem spot_none {w : World} {x : Addr} {k : IntKind} {n : Int} (h : w.cell? x = some (.int k n)) : x.spot = none := by
  unfold World.cell? at h
  cases hs : x.spot with
  | none => rfl
  | some p => rw [hs] at h; split at h <;> simp at h
theorem cells_at0 {w : World} {b : Nat} {x : Addr} {n : Nat} {v : Value} {cs : List Value} (h : w.cells? b (x.add (0 * n)) n = some (v :: cs)) : w.cell? x = some v := by
  obtain ⟨_, hl, hat⟩ := World.cells?_some h
  have h0 := hat 0 (by simp only [List.length_cons] at hl; omega)
  have e0 : ((x.add (0 * n)).add 0) = x := by simp [Addr.add]
  rw [e0] at h0
  simpa using h0
/-- a list of calls that came in -/
theorem open_calls {H : Type} {enc : TypeId × Value → H} {W : World} {held : Bool} {Al : Option Addr} {nl cl : Nat} {d : DataW H} {p : List MemPlace}
    (h : DataW.Trod enc Try.prog W 0 (fun _ => true) held 42 (.slice Al nl cl) d p) : nl ≤ 9223372036854775807 ∧ Elems W Al nl := by
  obtain ⟨fuel, hf⟩ := h
  rcases open_slice Try.underlying42 hf with ⟨hcs, _⟩ | ⟨x, l, c', m, n, D, Pl, hcs, _, hl, hm, hmm, _, hi⟩
  · simp [Value.cells] at hcs
    obtain ⟨rfl, rfl, rfl⟩ := hcs
    exact ⟨by omega, fun j hj => by omega⟩
  · simp [Value.cells] at hcs
    obtain ⟨rfl, rfl, rfl⟩ := hcs
    rw [if_pos rfl] at hmm
    subst hmm
    refine ⟨by unfold maxLen at hm; omega, fun j hj => ?_⟩
    obtain ⟨cs', hc, ht⟩ := hi j (by omega)
    obtain ⟨i0, i1, i2, i3, y, f, t, a, m, c, zs, rfl, _, _, _, _, wy, _, _, hrow⟩ := open_call ht
    rw [cellsCall] at hc
    obtain ⟨_, _, hat⟩ := World.cells?_some hc
    obtain ⟨l8, hs⟩ := slb_of_row hrow
    have hb := wf_u8 wy
    have hx : x.spot = none := by
      obtain ⟨cs0, hc0, ht0⟩ := hi 0 (by omega)
      obtain ⟨j0, _, _, _, _, _, _, _, _, _, _, rfl, _⟩ := open_call ht0
      exact spot_none (cells_at0 hc0)
    obtain ⟨bl, ol, sp⟩ := x
    simp only at hx
    subst hx
    have at' : ∀ q, ((⟨bl, ol, none⟩ : Addr).add (j * 8)).add q = ⟨bl, ol + j * 8 + q, none⟩ := fun q => by rw [Addr.add_mid, Addr.add_mid]
    refine ⟨bl, ol, i0, i1, i2, i3, y, f, t, a, m, c, l8, UInt8.ofNat y.toNat, rfl, ⟨?_, ?_, ?_, ?_, ?_, ?_, ?_, ?_⟩, hs, ?_⟩
    · have := hat 0 (by omega); rw [at'] at this; exact this
    · have := hat 1 (by omega); rw [at'] at this; exact this
    · have := hat 2 (by omega); rw [at'] at this; exact this
    · have := hat 3 (by omega); rw [at'] at this; exact this
    · have := hat 4 (by omega); rw [at'] at this; exact this
    · have := hat 5 (by omega); rw [at'] at this; exact this
    · have := hat 6 (by omega); rw [at'] at this; exact this
    · have := hat 7 (by omega); rw [at'] at this; exact this
    · simp; omega
end Go.Proofs.Ytengpfpeeihaoaa
namespace Go.Proofs.Ytengpfpeeihaoaa.networkPlays
open Go.ChangeShapes Go.WideShapes Go.ChangeAt Go.RowKit
set_option linter.unusedVariables false

theorem own : ownKnob Try.prog.godebug = none := by kernel_rfl
theorem laidOut : laidOutB Try.prog = true := by kernel_rfl

set_option maxRecDepth 100000 in
theorem lifted (os : Os) (started : os.Started) (H : Type) (enc : TypeId × Value → H) :
    ReturnsInHanded {} Try.checked os 5 .any (Rows.networkPlaysSpec.pre6 enc Try.prog Try.f5 Rows.networkPlaysRow.domain false) (Rows.networkPlaysSpec.post enc Try.prog Try.f5 false true false false) := by
  refine returnsInHanded_of_change (C := Try.checked) own started (by kernel_rfl) Try.func5
    (ChangeSpec.witness6 (enc := enc) (C := Try.checked) false ⟨#[], #[.int .i64 0, .slice none 0 0, .int .i64 0], []⟩ 8 (by kernel_rfl) (by kernel_rfl) (by kernel_rfl) (by kernel_rfl)) ?_
  intro W base args ds gs before hval0 hW hcnd _
  have hval : ∀ (j : Nat) t v, Try.f5.params[j]? = some t → args[j]? = some v → Value.okWide Try.prog W .any base t v := hval0
  have hW' := hW
  obtain ⟨p, q, hA0, hV, rfl, hfz, hnd⟩ := hW
  have hA : DataW.TrodAll enc Try.prog W 0 (fun _ => true) true Try.f5.params.toList args.toList ds p := hA0
  rw [Try.params5] at hA hval
  obtain ⟨v0, vs0, d0, ds0, p0, q0, hargs, rfl, rfl, h0, r0⟩ := trodAll_cons hA
  obtain ⟨v1, vs1, d1, ds1, p1, q1, rfl, rfl, rfl, h1, r1⟩ := trodAll_cons r0
  obtain ⟨v2, vs2, d2, ds2, p2, q2, rfl, rfl, rfl, h2, r2⟩ := trodAll_cons r1
  obtain ⟨rfl, rfl, rfl⟩ := trodAll_nil r2
  obtain rfl : args = #[v0, v1, v2] := by cases args; simp_all
  obtain ⟨rfl, rfl⟩ := trodVars_none hV
  obtain ⟨a0, rfl, rfl, rfl, w0⟩ := open_int Try.underlying3 (hval 0 3 v0 rfl rfl) h0
  obtain ⟨a1, len1, cap1, rfl⟩ := okWide_slice Try.underlying42 (hval 1 42 v1 rfl rfl)
  obtain ⟨a2, rfl, rfl, rfl, w2⟩ := open_int Try.underlying3 (hval 2 3 v2 rfl rfl) h2
  have k1 := h1
  have lt1 : ∀ x ∈ p1, x.block < W.heap.size := by obtain ⟨m, hm⟩ := k1; exact DataW.trod_lt m _ _ _ hm
  obtain ⟨hnl, hel⟩ := open_calls h1
  clear hA0 hval0
  refine (netPlays_any a0 a2 a1 len1 cap1 W hnl hel).mono fun e W' ⟨he, bel⟩ => ?_
  subst he
  exact ⟨_, rfl, _, _, _, [], _, [], hW', trodAll_mk1 (shut_bool Try.underlying4 _), (trodAll_cons_mk (shut_int Try.underlying3 w0) (trodAll_cons_mk (Below.trod laidOut (by kernel_rfl) (of_decide_eq_true (by kernel_rfl)) k1 bel lt1) (trodAll_cons_mk (shut_int Try.underlying3 w2) trodAll_mk0))), rfl, bel.frame _, fun h => by cases h⟩

theorem over : Rows.networkPlaysRow.holds Try.pinned (OpenSpec.ofChange Rows.networkPlaysSpec) :=
  OpenClaim.holds_of_wide 5 Try.f5 rfl rfl rfl rfl rfl rfl rfl ⟨rfl, rfl, rfl, rfl, rfl⟩ rfl rfl rfl rfl rfl (by kernel_rfl) Try.func5 (by kernel_rfl)
    (of_decide_eq_true (by kernel_rfl)) (by unfold Func.isWrapper; first | (rw [if_pos (by decide +kernel)]; kernel_rfl) | (rw [if_neg (by decide +kernel)]; exact ⟨rfl, rfl⟩))
    (fun os started H enc _ => lifted os started H enc)

/-- ████ THE STATEMENT ████ -/
theorem proved : Rows.NetworkPlaysSaid := over
#print axioms proved
end Go.Proofs.Ytengpfpeeihaoaa.networkPlays
