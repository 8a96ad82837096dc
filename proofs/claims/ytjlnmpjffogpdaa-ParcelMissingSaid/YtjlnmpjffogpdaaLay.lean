/- The frame's equations under one name. -/
import Derived.Test.YtjlnmpjffogpdaaK01
namespace Go.Proofs.Ytjlnmpjffogpdaa
open Go
/-- a slot is put into a written frame -/
theorem lays : (∀ (a : Act) (v : Value), a.put none v = a) ∧ (∀ (a : Act) (d : Tmp) (v : Value), a.put (some d) v = { a with tmps := a.tmps.setIfInBounds d v }) ∧ (∀ (l : List Value) (i : Nat) (x : Value), l.toArray.setIfInBounds i x = (l.set i x).toArray) ∧ (∀ (x : Value) (l : List Value) (y : Value), (x :: l).set 0 y = y :: l) ∧ (∀ (x : Value) (l : List Value) (n : Nat) (y : Value), (x :: l).set (n + 1) y = x :: l.set n y) :=
  ⟨fun _ _ => rfl, fun _ _ _ => rfl, fun _ _ _ => by simp, fun _ _ _ => rfl, fun _ _ _ _ => rfl⟩
/-- number i is next; what it yields is told behind -/
theorem plan_oi {P : Program} {ops : Array Oper} {Q : Exit → Act → World → Prop} {md : Region.Mode} {S : World → Prop} {fuel : Nat} {listed : Array Bool} {a : Act} {i : Nat} {oi : Oper} (hi : ops[i]? = some oi) (hf : Region.free md ops listed i = true) (hr : (Region.ready md ops listed).contains i = true)
    (h : ∃ v, Fx P ops S oi v a ∧ Plan P md ops Q S fuel (listed.setIfInBounds i true) (a.put oi.dst v)) : Plan P md ops Q S (fuel + 1) listed a :=
  h.elim fun _ h => plan_take hi hf hr h.1 h.2
end Go.Proofs.Ytjlnmpjffogpdaa
