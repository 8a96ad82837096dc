/- NetworkKeeps: a parcel in flight shares no memory with what was sent, and what Get returned does not change it: for all bytes and every place the law returns true and leaves its arguments alone. No condition. -/
import Derived.Test.YtengpfpeeihaoaaKp
import Derived.Test.YtengpfpeeihaoaaCall
import Derived.SizedLaws
namespace Go.Proofs.Ytengpfpeeihaoaa
open Go.ChangeShapes Go.WideShapes Go.ChangeAt Go.RowKit
/-- bytes that came in: their cells, and how many there are -/
theorem open_bytes {H : Type} {enc : TypeId × Value → H} {W : World} {base : Nat} {held : Bool} {a : Option Addr} {n c : Nat} {d : DataW H} {p : List MemPlace}
    (h : DataW.Trod enc Try.prog W base (fun _ => true) held 22 (.slice a n c) d p) : ∃ zs, IsRow .u8 W a n c zs ∧ ((n = 0 ∧ c = 0) ∨ ∃ e s, d = .slice e s ∧ e.length + s.length = c) := by
  obtain ⟨fuel, hf⟩ := h
  rcases open_ints Try.underlying22 Try.underlying5 (by kernel_rfl) hf with ⟨hcs, _⟩ | ⟨x, l, c', zs, hcs, _, hl, hm, hz, hx, hcell, hwz⟩
  · simp [Value.cells] at hcs
    obtain ⟨rfl, rfl, rfl⟩ := hcs
    exact ⟨[], .inl ⟨rfl, rfl, rfl, rfl⟩, .inl ⟨rfl, rfl⟩⟩
  · simp [Value.cells] at hcs
    obtain ⟨rfl, rfl, rfl⟩ := hcs
    have hz' : zs.length = c := by simpa using hz
    simp only [Prod.mk.injEq] at hx
    refine ⟨zs, .inr ⟨_, rfl, hl, hm, hz', hcell, hwz⟩, .inr ⟨_, _, hx.1, ?_⟩⟩
    simp [lits, hz']; omega
theorem bytesU8 : Try.prog.bytesOf 5 = 1 := by kernel_rfl
end Go.Proofs.Ytengpfpeeihaoaa
namespace Go.Proofs.Ytengpfpeeihaoaa.networkKeeps
open Go.ChangeShapes Go.WideShapes Go.ChangeAt Go.RowKit
set_option linter.unusedVariables false

theorem own : ownKnob Try.prog.godebug = none := by kernel_rfl
theorem laidOut : laidOutB Try.prog = true := by kernel_rfl

set_option maxRecDepth 100000 in
set_option maxHeartbeats 1000000 in
theorem walk (A : Option Addr) (n c : Nat) (l : List UInt8) (a : Int) (w : World) (hs : SlB w A n c l) (hn : n ≤ 140737488355328) :
    Calls Try.prog 4 #[.slice A n c, .int .i64 a] w fun e w' => e = .returned (.bool true) ∧ Ext w w' := by
  by_cases h0 : n = 0
  · subst h0
    go_enter Try.func4, Try.ntmps4
    go_wp2_with fail
    refine (awake39_any _).mono ?_
    rintro e w1 ⟨rfl, he1⟩
    go_wp2_with fail
    go_ret
    exact ⟨rfl, he1⟩
  · exact netKeeps_any A n c l a w hs hn (by omega)

set_option maxRecDepth 100000 in
theorem lifted (os : Os) (started : os.Started) (H : Type) (enc : TypeId × Value → H) :
    ReturnsInHanded {} Try.checked os 4 .any (Rows.networkKeepsSpec.pre6 enc Try.prog Try.f4 Rows.networkKeepsRow.domain false) (Rows.networkKeepsSpec.post enc Try.prog Try.f4 false true false false) := by
  refine returnsInHanded_of_change_sized (C := Try.checked) own started (by kernel_rfl) Try.func4
    (ChangeSpec.witness6 (enc := enc) (C := Try.checked) false ⟨#[], #[.slice none 0 0, .int .i64 0], []⟩ 8 (by kernel_rfl) (by kernel_rfl) (by kernel_rfl) (by kernel_rfl)) ?_
  intro W base args ds gs before hval0 hW hcnd hsz0 _
  have hval : ∀ (j : Nat) t v, Try.f4.params[j]? = some t → args[j]? = some v → Value.okWide Try.prog W .any base t v := hval0
  have hW' := hW
  obtain ⟨p, q, hA0, hV, rfl, hfz, hnd⟩ := hW
  have hA : DataW.TrodAll enc Try.prog W 0 (fun _ => true) true Try.f4.params.toList args.toList ds p := hA0
  have hsz : (DataW.weightsEach Try.prog (Try.f4.params.toList ++ Rows.networkKeepsSpec.plain.varTypes Try.prog) (ds ++ gs)).all (· ≤ reachBytes) = true := hsz0
  rw [Try.params4] at hA hval hsz
  obtain ⟨v0, vs0, d0, ds0, p0, q0, hargs, rfl, rfl, h0, r0⟩ := trodAll_cons hA
  obtain ⟨v1, vs1, d1, ds1, p1, q1, rfl, rfl, rfl, h1, r1⟩ := trodAll_cons r0
  obtain ⟨rfl, rfl, rfl⟩ := trodAll_nil r1
  obtain rfl : args = #[v0, v1] := by cases args; simp_all
  obtain ⟨rfl, rfl⟩ := trodVars_none hV
  obtain ⟨a0, len0, cap0, rfl⟩ := okWide_slice Try.underlying22 (hval 0 22 v0 rfl rfl)
  obtain ⟨a1, rfl, rfl, rfl, w1⟩ := open_int Try.underlying3 (hval 1 3 v1 rfl rfl) h1
  have k0 := h0
  have lt0 : ∀ x ∈ p0, x.block < W.heap.size := by obtain ⟨m, hm⟩ := k0; exact DataW.trod_lt m _ _ _ hm
  obtain ⟨zs, hrow, hd⟩ := open_bytes h0
  obtain ⟨l, hs⟩ := slb_of_row hrow
  have hn : len0 ≤ 140737488355328 := by
    have hle := hs.le
    rcases hd with ⟨rfl, _⟩ | ⟨e, s, rfl, hes⟩
    · omega
    · have := sized_slice hsz (j := 0) (t := 22) rfl rfl Try.underlying22
      rw [hes, bytesU8] at this
      have hr := reachBytes_lt
      omega
  clear hA0 hval0
  refine (walk a0 len0 cap0 l a1 W hs hn).mono fun e W' ⟨he, bel⟩ => ?_
  subst he
  exact ⟨_, rfl, _, _, _, [], _, [], hW', trodAll_mk1 (shut_bool Try.underlying4 _), (trodAll_cons_mk (Below.trod laidOut (by kernel_rfl) (of_decide_eq_true (by kernel_rfl)) k0 bel lt0) (trodAll_cons_mk (shut_int Try.underlying3 w1) trodAll_mk0)), rfl, bel.frame _, fun h => by cases h⟩

theorem over : Rows.networkKeepsRow.holds Try.pinned (OpenSpec.ofChange Rows.networkKeepsSpec) :=
  OpenClaim.holds_of_wide 4 Try.f4 rfl rfl rfl rfl rfl rfl rfl ⟨rfl, rfl, rfl, rfl, rfl⟩ rfl rfl rfl rfl rfl (by kernel_rfl) Try.func4 (by kernel_rfl)
    (of_decide_eq_true (by kernel_rfl)) (by unfold Func.isWrapper; first | (rw [if_pos (by decide +kernel)]; kernel_rfl) | (rw [if_neg (by decide +kernel)]; exact ⟨rfl, rfl⟩))
    (fun os started H enc _ => lifted os started H enc)

/-- ████ THE STATEMENT ████ -/
theorem proved : Rows.NetworkKeepsSaid := over
#print axioms proved
end Go.Proofs.Ytengpfpeeihaoaa.networkKeeps
