/- readOp (the program's). -/
import Derived.Test.YtjlnmpjffogpdaaTx7
namespace Go.Proofs.Ytjlnmpjffogpdaa
open Go.RowKit
set_option linter.unusedVariables false
set_option linter.unusedSimpArgs false
attribute [local go_sem ↓] Go.wp_at_zero Go.wp_at_succ

/-- an operation as a plain value -/
theorem nb8_nil (i : Nat) (hi : i < 8) : nb8 0 i = 0 := by
  match i, hi with
  | 0, _ | 1, _ | 2, _ | 3, _ | 4, _ | 5, _ | 6, _ | 7, _ => rfl
structure OpV where
  k : Int
  to : Int
  am : Int
  ul : Int
  va : Int
  lk : UInt64
  hs : UInt64
  pre : List UInt8
  prf : List UInt8
def OpR.v (R : OpR) : OpV := ⟨R.k, R.to, R.am, R.ul, R.va, R.lk, R.hs, R.pre, R.prf⟩
/-- what is read as an operation of a kind, and what is left -/
def rdK (k : Int) (s : Option (List UInt8)) : OpV × Option (List UInt8) :=
  if k = 1 then (⟨k, rNum 1 s, rNum 6 (rRest 1 s), 0, 0, 0, 0, [], []⟩, rRest 6 (rRest 1 s))
  else if k = 2 then (⟨k, rNum 1 s, rNum 6 (rRest 1 s), rNum 2 (rRest 6 (rRest 1 s)), 0, 0, rName (rRest 2 (rRest 6 (rRest 1 s))), [], []⟩, rRest 8 (rRest 2 (rRest 6 (rRest 1 s))))
  else if k = 3 then (⟨k, rNum 1 s, rNum 6 (rRest 1 s), 0, 0, rName (rRest 6 (rRest 1 s)), 0, rBlob (rRest 8 (rRest 6 (rRest 1 s))), []⟩, rAft (rRest 8 (rRest 6 (rRest 1 s))))
  else if k = 4 then (⟨k, rNum 1 s, rNum 6 (rRest 1 s), 0, 0, rName (rRest 6 (rRest 1 s)), 0, [], []⟩, rRest 8 (rRest 6 (rRest 1 s)))
  else if k = 5 then (⟨k, 0, rNum 6 (rRest 1 s), 0, rNum 1 s, 0, 0, [], []⟩, rRest 6 (rRest 1 s))
  else if k = 6 then (⟨k, 0, 0, 0, rNum 1 s, 0, 0, [], rBlob (rRest 1 s)⟩, rAft (rRest 1 s))
  else (⟨k, 0, 0, 0, 0, 0, 0, [], []⟩, s)
def rdOp (s : Option (List UInt8)) : OpV × Option (List UInt8) := rdK (rNum 1 s) (rRest 1 s)
abbrev zeroO : Array Value := #[.int .i64 0, .int .i64 0, .int .i64 0, .int .i64 0, .int .i64 0, .int .u8 0, .int .u8 0, .int .u8 0, .int .u8 0, .int .u8 0, .int .u8 0, .int .u8 0, .int .u8 0, .int .u8 0, .int .u8 0, .int .u8 0, .int .u8 0, .int .u8 0, .int .u8 0, .int .u8 0, .int .u8 0, .slice none 0 0, .slice none 0 0]
def opK (k : Int) : OpR := ⟨k, 0, 0, 0, 0, 0, 0, none, 0, 0, [], none, 0, 0, []⟩
theorem opK_lit (k : Int) : opA (opK k) = #[.int .i64 k, .int .i64 0, .int .i64 0, .int .i64 0, .int .i64 0, .int .u8 0, .int .u8 0, .int .u8 0, .int .u8 0, .int .u8 0, .int .u8 0, .int .u8 0, .int .u8 0, .int .u8 0, .int .u8 0, .int .u8 0, .int .u8 0, .int .u8 0, .int .u8 0, .int .u8 0, .int .u8 0, .slice none 0 0, .slice none 0 0] := by
  unfold opA opK; simp only [nb8_nil 0 (by omega), nb8_nil 1 (by omega), nb8_nil 2 (by omega), nb8_nil 3 (by omega), nb8_nil 4 (by omega), nb8_nil 5 (by omega), nb8_nil 6 (by omega), nb8_nil 7 (by omega)]
theorem op_range {w : World} {X : Nat} {t : TypeId} {R : OpR} (h : Blk w X t (opA R)) : w.rangeAt X 0 (opL R) := rangeAt_of_blk h
theorem op_there {w : World} {X : Nat} {t : TypeId} (h : Blk w X t zeroO) : w.there X 0 23 := there_of_blk h
section
variable {o : Oper} {a : Act} {w : World} {ops : Array Oper} {rest : List Oper} {Q : Exit → Act → World → Prop}
theorem wpList_newK (hgd : o.guard = none) (x y : Operand) (ho : o.op = .store 58 x y) (cs : Array Value) (hcs : cs.size = 23) (k : Int) (hx : a.eval x = .pointer (some ⟨w.heap.size, 0, none⟩)) (hy : a.eval y = .agg #[.int .i64 k, .int .i64 0, .int .i64 0, .int .i64 0, .int .i64 0, .int .u8 0, .int .u8 0, .int .u8 0, .int .u8 0, .int .u8 0, .int .u8 0, .int .u8 0, .int .u8 0, .int .u8 0, .int .u8 0, .int .u8 0, .int .u8 0, .int .u8 0, .int .u8 0, .int .u8 0, .int .u8 0, .slice none 0 0, .slice none 0 0])
    (h : wpList Try.prog ops Q rest (a.put o.dst undef) (w.alloc (.cells (opA (opK k)) 58))) : wpList Try.prog ops Q (o :: rest) a (w.alloc (.cells cs 58)) :=
  wpList_newO hgd x y ho cs hcs (opK k) hx (by rw [hy, opK_lit]) h
theorem wpList_storeO (hgd : o.guard = none) (x y : Operand) (ho : o.op = .store 58 x y) (g : Nat) (R : OpR) (hx : a.eval x = .pointer (some ⟨g, 0, none⟩)) (hy : a.eval y = .agg (opA R)) (ht : w.there g 0 23)
    (h : wpList Try.prog ops Q rest (a.put o.dst undef) (w.setCells g 0 (opA R).toList)) : wpList Try.prog ops Q (o :: rest) a w :=
  wpList_store_mid hgd 58 x y ho g 0 (opA R) hx hy ht (by kernel_rfl) (opA_all R) h
end
theorem retC {fn : Func} {p : Tmp} {ty : TypeId} (hres : fn.results = #[.cell p ty]) (tmps : Array Value) (w1 : World) (g : Nat) (cs : Array Value) (hp : tmps.getD p undef = .pointer (some ⟨g, 0, none⟩)) (hl : (loadVar ty ⟨g, 0, none⟩).run Try.prog w1 = .ok (.agg cs) w1) :
    (results fn tmps).run Try.prog w1 = .ok (.agg cs) w1 := by
  have hp' : tmps[p]?.getD undef = .pointer (some ⟨g, 0, none⟩) := by simpa using hp
  simp [results, hres, hp', asAddr, hl]
/-- the state of readOp: the cursor in B, the operation's variable in X, the result's in G -/
structure RdS (w0 w : World) (D B X G : Nat) (R : OpR) (s : Option (List UInt8)) : Prop where
  cur : CurAt 156 D w B s
  box : Blk w X 58 (opA R)
  res : Blk w G 58 zeroO
  own1 : OwnB w w0.heap.size 5 R.A1 R.n1 R.c1 R.pre
  own2 : OwnB w w0.heap.size 5 R.A2 R.n2 R.c2 R.prf
  gr : w0.grownBy w (some B)
  hX : w0.heap.size ≤ X
  hG : w0.heap.size ≤ G
  hGX : G ≠ X
  hD : D ≤ w0.heap.size
theorem fold_name (n : UInt64) (R : OpR) : ((nmc n).toList.zipIdx.foldl (fun a p => a.setIfInBounds (13 + p.2) p.1) (opA R)) = opA { R with hs := n } := by
  rw [← nmc_nb8 n]; kernel_rfl
theorem fold_lock (n : UInt64) (R : OpR) : ((nmc n).toList.zipIdx.foldl (fun a p => a.setIfInBounds (5 + p.2) p.1) (opA R)) = opA { R with lk := n } := by
  rw [← nmc_nb8 n]; kernel_rfl
section
variable {w0 w w' : World} {D B X G : Nat} {R R' : OpR} {s s' : Option (List UInt8)}
theorem RdS.read (h : RdS w0 w D B X G R s) (hc : CurAt 156 D w' B s') (hg : w.grownBy w' (some B)) : RdS w0 w' D B X G R s' := by
  obtain ⟨cs, hb⟩ := cur_blk h.cur
  exact ⟨hc, h.box.grown hg (fun e => blk_ne h.box hb (by decide) (by injection e)), h.res.grown hg (fun e => blk_ne h.res hb (by decide) (by injection e)),
    World.ownsRow.kept h.own1 hg (.inr (Ne.symm (own_other h.own1 hb (by decide)))), World.ownsRow.kept h.own2 hg (.inr (Ne.symm (own_other h.own2 hb (by decide)))), World.grownBy.trans h.gr hg, h.hX, h.hG, h.hGX, h.hD⟩
theorem RdS.put (h : RdS w0 w D B X G R s) (vs : List Value) (o : Nat) (hb' : Blk (w.setCells X o vs) X 58 (opA R')) (o1 : OwnB w w0.heap.size 5 R'.A1 R'.n1 R'.c1 R'.pre) (o2 : OwnB w w0.heap.size 5 R'.A2 R'.n2 R'.c2 R'.prf) : RdS w0 (w.setCells X o vs) D B X G R' s := by
  obtain ⟨cs, hb⟩ := cur_blk h.cur
  have hne := blk_ne h.box hb (by decide)
  have hg := grown_setCells' w X vs o
  refine ⟨h.cur.low ?_ ?_, hb', Blk.setCells_far h.res h.hGX vs o, World.ownsRow.kept o1 hg (.inr (Ne.symm (own_other o1 h.box (by decide)))), World.ownsRow.kept o2 hg (.inr (Ne.symm (own_other o2 h.box (by decide)))), ?_, h.hX, h.hG, h.hGX, h.hD⟩
  · exact hg.block B hb.lt (fun e => hne (by injection e with e; exact e.symm))
  · intro b hb2
    have hlt : b < w.heap.size := Nat.lt_of_lt_of_le hb2 (Nat.le_trans h.hD h.gr.size)
    exact hg.block b hlt (fun e => by injection e with e; have := h.hX; have := h.hD; omega)
  · exact grown_new h.gr h.hX vs o
theorem RdS.set (h : RdS w0 w D B X G R s) (i : Nat) (v : Value) (hcs : (opA R).setIfInBounds i v = opA R') (o1 : OwnB w w0.heap.size 5 R'.A1 R'.n1 R'.c1 R'.pre) (o2 : OwnB w w0.heap.size 5 R'.A2 R'.n2 R'.c2 R'.prf) : RdS w0 (w.setCell ⟨X, i, none⟩ v) D B X G R' s := by
  have := h.put (R' := R') [v] i (by have := h.box.set i v; rw [hcs] at this; exact this) o1 o2
  exact this
theorem RdS.hs (h : RdS w0 w D B X G R s) (n : UInt64) : RdS w0 (w.setCells X 13 (nmc n).toList) D B X G { R with hs := n } s := by
  refine h.put _ _ ?_ h.own1 h.own2
  have := blk_setCells (o := 13) (vs := (nmc n).toList) h.box
  rwa [fold_name] at this
theorem RdS.lk (h : RdS w0 w D B X G R s) (n : UInt64) : RdS w0 (w.setCells X 5 (nmc n).toList) D B X G { R with lk := n } s := by
  refine h.put _ _ ?_ h.own1 h.own2
  have := blk_setCells (o := 5) (vs := (nmc n).toList) h.box
  rwa [fold_lock] at this
theorem RdS.thereAt (h : RdS w0 w D B X G R s) (o : Nat) (ho : o + 8 ≤ 23) : w.there X o 8 := fun j hj => by
  have h1 := there_of_blk h.box (o + j) (by show o + j < 23; omega)
  rwa [Nat.zero_add] at h1
theorem RdS.start {w1 : World} {k : Int} (hc : CurAt 156 D w1 B s) (hg : (w0.alloc (.cells zeroO 58)).grownBy w1 (some B)) (hB : B < w0.heap.size) (hD : D ≤ w0.heap.size) : RdS w0 (w1.alloc (.cells (opA (opK k)) 58)) D B w1.heap.size w0.heap.size (opK k) s := by
  have hr := (Blk.new w0 58 zeroO).grown hg (fun e => by injection e with e; omega)
  have hs : w0.heap.size ≤ w1.heap.size := by have := hg.size; simp at this; omega
  exact ⟨hc.ext ((Ext.refl w1).alloc' _), Blk.new _ _ _, hr.alloc _, OwnB.nil _ _ _, OwnB.nil _ _ _, World.grownBy.trans (World.grownBy.trans (grown_alloc w0 _ _) hg) (grown_alloc w1 _ _), hs, Nat.le_refl _, Nat.ne_of_lt hr.lt, hD⟩
end
/-- what readOp leaves -/
def RdOut (D B : Nat) (w : World) (r : OpV × Option (List UInt8)) (e : Ending) (w' : World) : Prop :=
  ∃ R : OpR, e = .returned (.agg (opA R)) ∧ R.v = r.1 ∧ OwnB w' w.heap.size 5 R.A1 R.n1 R.c1 R.pre ∧ OwnB w' w.heap.size 5 R.A2 R.n2 R.c2 R.prf ∧ CurAt 156 D w' B r.2 ∧ w.grownBy w' (some B)
theorem RdS.fin {w0 w : World} {D B X G : Nat} {R : OpR} {s : Option (List UInt8)} (h : RdS w0 w D B X G R s) (r : OpV × Option (List UInt8)) (h1 : R.v = r.1) (h2 : s = r.2) : RdOut D B w0 r (.returned (.agg (opA R))) (w.setCells G 0 (opA R).toList) := by
  subst h2
  obtain ⟨cs, hb⟩ := cur_blk h.cur
  have hne := blk_ne h.res hb (by decide)
  have hg := grown_setCells' w G (opA R).toList 0
  refine ⟨R, rfl, h1, World.ownsRow.kept h.own1 hg (.inr (Ne.symm (own_other h.own1 h.res (by decide)))), World.ownsRow.kept h.own2 hg (.inr (Ne.symm (own_other h.own2 h.res (by decide)))), h.cur.low ?_ ?_, grown_new h.gr h.hG _ _⟩
  · exact hg.block B hb.lt (fun e => hne (by injection e with e; exact e.symm))
  · intro b hb2
    have hlt : b < w.heap.size := Nat.lt_of_lt_of_le hb2 (Nat.le_trans h.hD h.gr.size)
    exact hg.block b hlt (fun e => by injection e with e; have := h.hG; have := h.hD; omega)
theorem RdS.ret {w0 w : World} {D B X G : Nat} {R : OpR} {s : Option (List UInt8)} (h : RdS w0 w D B X G R s) : (loadVar 58 ⟨G, 0, none⟩).run Try.prog (w.setCells G 0 (opA R).toList) = .ok (.agg (opA R)) (w.setCells G 0 (opA R).toList) :=
  run_loadVar_row _ _ _ _ _ (0, 0) _ (blk_whole h.res rfl) Try.underlying58 rfl (by kernel_rfl)
set_option maxRecDepth 100000 in
set_option maxHeartbeats 4000000 in
theorem readOp_1 (D B : Nat) (s : Option (List UInt8)) (hk : rNum 1 s = 1) (w : World) (h : CurAt 156 D w B s) (hD : D ≤ w.heap.size) :
    Calls Try.prog 131 #[.pointer (some ⟨B, 0, none⟩)] w (RdOut D B w (rdOp s)) := by
  have hlt := h.lt
  have HU := Lib.hid (fun W => uses_any (rNum 1 s) W)
  rw [show usesK (rNum 1 s) = 5 from by rw [hk]; decide] at HU
  have hA := (Ext.refl w).alloc' (.cells zeroO 58)
  have HC := Lib.hid (cuint_any 1 (by omega) (by omega) B s _ (h.ext hA))
  have HRES := Lib.hid (show ∃ r, rdOp s = r ∧ r = rdK (rNum 1 s) (rRest 1 s) from ⟨_, rfl, rfl⟩)
  have HRD := Lib.hid (show rdOp s = rdK (rNum 1 s) (rRest 1 s) from rfl)
  have HKK := Lib.hid hk
  obtain ⟨K, hK⟩ : ∃ K, rNum 1 s = K := ⟨_, rfl⟩
  obtain ⟨s1, hs1⟩ : ∃ s1, rRest 1 s = s1 := ⟨_, rfl⟩
  rw [hK, hs1] at HC HRD
  rw [hK] at HU HKK
  clear h hA hk hK hs1 HRES
  go_enter Try.func131, Try.ntmps131
  go_wp2_with fail
  refine HC.out.mono ?_
  rintro e w1 ⟨rfl, hC, hG⟩
  have S0 := Lib.hid (RdS.start (k := K) hC hG hlt hD)
  have q0 : (w1.alloc (.cells (opA (opK K)) 58)).cell? ⟨w1.heap.size, 0, none⟩ = some (.int .i64 K) := S0.out.box.cell 0
  clear hC hG HC
  go_wp2_with (first | (with_reducible refine wpList_newK rfl (.tmp 3) (.tmp 7) rfl _ rfl K rfl rfl ?_))
  refine (HU.out _).mono ?_
  rintro e wv ⟨rfl, rfl⟩
  clear q0
  go_wp2_with fail
  refine (cuint_any 1 (by omega) (by omega) B _ _ S0.out.cur).mono ?_
  rintro e w2 ⟨rfl, hC, hG⟩
  have T0 := Lib.hid (S0.out.read hC hG)
  have q1 : w2.cell? ⟨w1.heap.size, 1, none⟩ = some (.int .i64 0) := T0.out.box.cell 1
  have f1 := T0.out.box.frozen 1
  have S1 := Lib.hid (T0.out.set (R' := ⟨K, (rNum 1 s1), 0, 0, 0, 0, 0, none, 0, 0, [], none, 0, 0, []⟩) 1 (.int .i64 (rNum 1 s1)) rfl T0.out.own1 T0.out.own2)
  clear hC hG S0
  go_wp2_with fail
  refine (cuint_any 6 (by omega) (by omega) B _ _ S1.out.cur).mono ?_
  rintro e w3 ⟨rfl, hC, hG⟩
  have T1 := Lib.hid (S1.out.read hC hG)
  have q2 : w3.cell? ⟨w1.heap.size, 2, none⟩ = some (.int .i64 0) := T1.out.box.cell 2
  have f2 := T1.out.box.frozen 2
  have S2 := Lib.hid (T1.out.set (R' := ⟨K, (rNum 1 s1), (rNum 6 (rRest 1 s1)), 0, 0, 0, 0, none, 0, 0, [], none, 0, 0, []⟩) 2 (.int .i64 (rNum 6 (rRest 1 s1))) rfl T1.out.own1 T1.out.own2)
  clear hC hG S1
  have hr := op_range S2.out.box
  have ht := op_there S2.out.res
  go_wp2_with (first | ((with_reducible refine wpList_loadO rfl (.tmp 3) rfl w1.heap.size 0 ?hx ⟨K, (rNum 1 s1), (rNum 6 (rRest 1 s1)), 0, 0, 0, 0, none, 0, 0, [], none, 0, 0, []⟩ hr ?_); case hx => rfl) | ((with_reducible refine wpList_storeO rfl (.tmp 2) (.tmp 59) rfl w.heap.size ⟨K, (rNum 1 s1), (rNum 6 (rRest 1 s1)), 0, 0, 0, 0, none, 0, 0, [], none, 0, 0, []⟩ ?hx ?hy ht ?_); (case hx => rfl); (case hy => rfl)))
  have HFN := Lib.hid (show (⟨K, (rNum 1 s1), (rNum 6 (rRest 1 s1)), 0, 0, 0, 0, none, 0, 0, [], none, 0, 0, []⟩ : OpR).v = (rdOp s).1 ∧ (rRest 6 (rRest 1 s1)) = (rdOp s).2 from by rw [HRD.out, HKK.out]; exact ⟨by rw [← HKK.out]; simp [OpR.v, rdK, HKK.out], rfl⟩)
  exact bodyPost_ret (retC rfl _ _ w.heap.size _ rfl S2.out.ret) rfl (S2.out.fin _ HFN.out.1 HFN.out.2)
set_option maxRecDepth 100000 in
set_option maxHeartbeats 4000000 in
theorem readOp_2 (D B : Nat) (s : Option (List UInt8)) (hk : rNum 1 s = 2) (w : World) (h : CurAt 156 D w B s) (hD : D ≤ w.heap.size) :
    Calls Try.prog 131 #[.pointer (some ⟨B, 0, none⟩)] w (RdOut D B w (rdOp s)) := by
  have hlt := h.lt
  have HU := Lib.hid (fun W => uses_any (rNum 1 s) W)
  rw [show usesK (rNum 1 s) = 29 from by rw [hk]; decide] at HU
  have hA := (Ext.refl w).alloc' (.cells zeroO 58)
  have HC := Lib.hid (cuint_any 1 (by omega) (by omega) B s _ (h.ext hA))
  have HRES := Lib.hid (show ∃ r, rdOp s = r ∧ r = rdK (rNum 1 s) (rRest 1 s) from ⟨_, rfl, rfl⟩)
  have HRD := Lib.hid (show rdOp s = rdK (rNum 1 s) (rRest 1 s) from rfl)
  have HKK := Lib.hid hk
  obtain ⟨K, hK⟩ : ∃ K, rNum 1 s = K := ⟨_, rfl⟩
  obtain ⟨s1, hs1⟩ : ∃ s1, rRest 1 s = s1 := ⟨_, rfl⟩
  rw [hK, hs1] at HC HRD
  rw [hK] at HU HKK
  clear h hA hk hK hs1 HRES
  go_enter Try.func131, Try.ntmps131
  go_wp2_with fail
  refine HC.out.mono ?_
  rintro e w1 ⟨rfl, hC, hG⟩
  have S0 := Lib.hid (RdS.start (k := K) hC hG hlt hD)
  have q0 : (w1.alloc (.cells (opA (opK K)) 58)).cell? ⟨w1.heap.size, 0, none⟩ = some (.int .i64 K) := S0.out.box.cell 0
  clear hC hG HC
  go_wp2_with (first | (with_reducible refine wpList_newK rfl (.tmp 3) (.tmp 7) rfl _ rfl K rfl rfl ?_))
  refine (HU.out _).mono ?_
  rintro e wv ⟨rfl, rfl⟩
  clear q0
  go_wp2_with fail
  refine (cuint_any 1 (by omega) (by omega) B _ _ S0.out.cur).mono ?_
  rintro e w2 ⟨rfl, hC, hG⟩
  have T0 := Lib.hid (S0.out.read hC hG)
  have q1 : w2.cell? ⟨w1.heap.size, 1, none⟩ = some (.int .i64 0) := T0.out.box.cell 1
  have f1 := T0.out.box.frozen 1
  have S1 := Lib.hid (T0.out.set (R' := ⟨K, (rNum 1 s1), 0, 0, 0, 0, 0, none, 0, 0, [], none, 0, 0, []⟩) 1 (.int .i64 (rNum 1 s1)) rfl T0.out.own1 T0.out.own2)
  clear hC hG S0
  go_wp2_with fail
  refine (cuint_any 6 (by omega) (by omega) B _ _ S1.out.cur).mono ?_
  rintro e w3 ⟨rfl, hC, hG⟩
  have T1 := Lib.hid (S1.out.read hC hG)
  have q2 : w3.cell? ⟨w1.heap.size, 2, none⟩ = some (.int .i64 0) := T1.out.box.cell 2
  have f2 := T1.out.box.frozen 2
  have S2 := Lib.hid (T1.out.set (R' := ⟨K, (rNum 1 s1), (rNum 6 (rRest 1 s1)), 0, 0, 0, 0, none, 0, 0, [], none, 0, 0, []⟩) 2 (.int .i64 (rNum 6 (rRest 1 s1))) rfl T1.out.own1 T1.out.own2)
  clear hC hG S1
  go_wp2_with fail
  refine (cuint_any 2 (by omega) (by omega) B _ _ S2.out.cur).mono ?_
  rintro e w4 ⟨rfl, hC, hG⟩
  have T2 := Lib.hid (S2.out.read hC hG)
  have q3 : w4.cell? ⟨w1.heap.size, 3, none⟩ = some (.int .i64 0) := T2.out.box.cell 3
  have f3 := T2.out.box.frozen 3
  have S3 := Lib.hid (T2.out.set (R' := ⟨K, (rNum 1 s1), (rNum 6 (rRest 1 s1)), (rNum 2 (rRest 6 (rRest 1 s1))), 0, 0, 0, none, 0, 0, [], none, 0, 0, []⟩) 3 (.int .i64 (rNum 2 (rRest 6 (rRest 1 s1)))) rfl T2.out.own1 T2.out.own2)
  clear hC hG S2
  go_wp2_with fail
  refine (cname_any B _ _ S3.out.cur).mono ?_
  rintro e w5 ⟨rfl, hC, hG⟩
  have T3 := Lib.hid (S3.out.read hC hG)
  have f4 := T3.out.thereAt 13 (by omega)
  have S4 := Lib.hid (T3.out.hs (rName (rRest 2 (rRest 6 (rRest 1 s1)))))
  clear hC hG S3
  have hr := op_range S4.out.box
  have ht := op_there S4.out.res
  go_wp2_with (first | ((with_reducible refine wpList_storeN rfl (.tmp 40) (.tmp 39) rfl w1.heap.size 13 (rName (rRest 2 (rRest 6 (rRest 1 s1)))) ?hx ?hy f4 ?_); (case hx => rfl); (case hy => rfl)) | ((with_reducible refine wpList_loadO rfl (.tmp 3) rfl w1.heap.size 0 ?hx ⟨K, (rNum 1 s1), (rNum 6 (rRest 1 s1)), (rNum 2 (rRest 6 (rRest 1 s1))), 0, 0, (rName (rRest 2 (rRest 6 (rRest 1 s1)))), none, 0, 0, [], none, 0, 0, []⟩ hr ?_); case hx => rfl) | ((with_reducible refine wpList_storeO rfl (.tmp 2) (.tmp 59) rfl w.heap.size ⟨K, (rNum 1 s1), (rNum 6 (rRest 1 s1)), (rNum 2 (rRest 6 (rRest 1 s1))), 0, 0, (rName (rRest 2 (rRest 6 (rRest 1 s1)))), none, 0, 0, [], none, 0, 0, []⟩ ?hx ?hy ht ?_); (case hx => rfl); (case hy => rfl)))
  have HFN := Lib.hid (show (⟨K, (rNum 1 s1), (rNum 6 (rRest 1 s1)), (rNum 2 (rRest 6 (rRest 1 s1))), 0, 0, (rName (rRest 2 (rRest 6 (rRest 1 s1)))), none, 0, 0, [], none, 0, 0, []⟩ : OpR).v = (rdOp s).1 ∧ (rRest 8 (rRest 2 (rRest 6 (rRest 1 s1)))) = (rdOp s).2 from by rw [HRD.out, HKK.out]; exact ⟨by rw [← HKK.out]; simp [OpR.v, rdK, HKK.out], rfl⟩)
  exact bodyPost_ret (retC rfl _ _ w.heap.size _ rfl S4.out.ret) rfl (S4.out.fin _ HFN.out.1 HFN.out.2)
set_option maxRecDepth 100000 in
set_option maxHeartbeats 4000000 in
theorem readOp_3 (D B : Nat) (s : Option (List UInt8)) (hk : rNum 1 s = 3) (w : World) (h : CurAt 156 D w B s) (hD : D ≤ w.heap.size) :
    Calls Try.prog 131 #[.pointer (some ⟨B, 0, none⟩)] w (RdOut D B w (rdOp s)) := by
  have hlt := h.lt
  have HU := Lib.hid (fun W => uses_any (rNum 1 s) W)
  rw [show usesK (rNum 1 s) = 101 from by rw [hk]; decide] at HU
  have hA := (Ext.refl w).alloc' (.cells zeroO 58)
  have HC := Lib.hid (cuint_any 1 (by omega) (by omega) B s _ (h.ext hA))
  have HRES := Lib.hid (show ∃ r, rdOp s = r ∧ r = rdK (rNum 1 s) (rRest 1 s) from ⟨_, rfl, rfl⟩)
  have HRD := Lib.hid (show rdOp s = rdK (rNum 1 s) (rRest 1 s) from rfl)
  have HKK := Lib.hid hk
  obtain ⟨K, hK⟩ : ∃ K, rNum 1 s = K := ⟨_, rfl⟩
  obtain ⟨s1, hs1⟩ : ∃ s1, rRest 1 s = s1 := ⟨_, rfl⟩
  rw [hK, hs1] at HC HRD
  rw [hK] at HU HKK
  clear h hA hk hK hs1 HRES
  go_enter Try.func131, Try.ntmps131
  go_wp2_with fail
  refine HC.out.mono ?_
  rintro e w1 ⟨rfl, hC, hG⟩
  have S0 := Lib.hid (RdS.start (k := K) hC hG hlt hD)
  have q0 : (w1.alloc (.cells (opA (opK K)) 58)).cell? ⟨w1.heap.size, 0, none⟩ = some (.int .i64 K) := S0.out.box.cell 0
  clear hC hG HC
  go_wp2_with (first | (with_reducible refine wpList_newK rfl (.tmp 3) (.tmp 7) rfl _ rfl K rfl rfl ?_))
  refine (HU.out _).mono ?_
  rintro e wv ⟨rfl, rfl⟩
  clear q0
  go_wp2_with fail
  refine (cuint_any 1 (by omega) (by omega) B _ _ S0.out.cur).mono ?_
  rintro e w2 ⟨rfl, hC, hG⟩
  have T0 := Lib.hid (S0.out.read hC hG)
  have q1 : w2.cell? ⟨w1.heap.size, 1, none⟩ = some (.int .i64 0) := T0.out.box.cell 1
  have f1 := T0.out.box.frozen 1
  have S1 := Lib.hid (T0.out.set (R' := ⟨K, (rNum 1 s1), 0, 0, 0, 0, 0, none, 0, 0, [], none, 0, 0, []⟩) 1 (.int .i64 (rNum 1 s1)) rfl T0.out.own1 T0.out.own2)
  clear hC hG S0
  go_wp2_with fail
  refine (cuint_any 6 (by omega) (by omega) B _ _ S1.out.cur).mono ?_
  rintro e w3 ⟨rfl, hC, hG⟩
  have T1 := Lib.hid (S1.out.read hC hG)
  have q2 : w3.cell? ⟨w1.heap.size, 2, none⟩ = some (.int .i64 0) := T1.out.box.cell 2
  have f2 := T1.out.box.frozen 2
  have S2 := Lib.hid (T1.out.set (R' := ⟨K, (rNum 1 s1), (rNum 6 (rRest 1 s1)), 0, 0, 0, 0, none, 0, 0, [], none, 0, 0, []⟩) 2 (.int .i64 (rNum 6 (rRest 1 s1))) rfl T1.out.own1 T1.out.own2)
  clear hC hG S1
  go_wp2_with fail
  refine (cname_any B _ _ S2.out.cur).mono ?_
  rintro e w4 ⟨rfl, hC, hG⟩
  have T2 := Lib.hid (S2.out.read hC hG)
  have f3 := T2.out.thereAt 5 (by omega)
  have S3 := Lib.hid (T2.out.lk (rName (rRest 6 (rRest 1 s1))))
  clear hC hG S2
  go_wp2_with (first | ((with_reducible refine wpList_storeN rfl (.tmp 46) (.tmp 45) rfl w1.heap.size 5 (rName (rRest 6 (rRest 1 s1))) ?hx ?hy f3 ?_); (case hx => rfl); (case hy => rfl)))
  clear f3 T2
  refine (cblob_any D B _ _ S3.out.cur).mono ?_
  rintro e w5 ⟨A5, n5, c5, rfl, hO, hC, hG⟩
  have T3 := Lib.hid (S3.out.read hC hG)
  have q4 : w5.cell? ⟨w1.heap.size, 21, none⟩ = some (.slice none 0 0) := T3.out.box.cell 21
  have f4 := T3.out.box.frozen 21
  have S4 := Lib.hid (T3.out.set (R' := ⟨K, (rNum 1 s1), (rNum 6 (rRest 1 s1)), 0, 0, (rName (rRest 6 (rRest 1 s1))), 0, A5, n5, c5, (rBlob (rRest 8 (rRest 6 (rRest 1 s1)))), none, 0, 0, []⟩) 21 (.slice A5 n5 c5) rfl (own_mono hO S3.out.gr.size) T3.out.own2)
  clear hC hG hO S3
  have hr := op_range S4.out.box
  have ht := op_there S4.out.res
  go_wp2_with (first | ((with_reducible refine wpList_loadO rfl (.tmp 3) rfl w1.heap.size 0 ?hx ⟨K, (rNum 1 s1), (rNum 6 (rRest 1 s1)), 0, 0, (rName (rRest 6 (rRest 1 s1))), 0, A5, n5, c5, (rBlob (rRest 8 (rRest 6 (rRest 1 s1)))), none, 0, 0, []⟩ hr ?_); case hx => rfl) | ((with_reducible refine wpList_storeO rfl (.tmp 2) (.tmp 59) rfl w.heap.size ⟨K, (rNum 1 s1), (rNum 6 (rRest 1 s1)), 0, 0, (rName (rRest 6 (rRest 1 s1))), 0, A5, n5, c5, (rBlob (rRest 8 (rRest 6 (rRest 1 s1)))), none, 0, 0, []⟩ ?hx ?hy ht ?_); (case hx => rfl); (case hy => rfl)))
  have HFN := Lib.hid (show (⟨K, (rNum 1 s1), (rNum 6 (rRest 1 s1)), 0, 0, (rName (rRest 6 (rRest 1 s1))), 0, A5, n5, c5, (rBlob (rRest 8 (rRest 6 (rRest 1 s1)))), none, 0, 0, []⟩ : OpR).v = (rdOp s).1 ∧ (rAft (rRest 8 (rRest 6 (rRest 1 s1)))) = (rdOp s).2 from by rw [HRD.out, HKK.out]; exact ⟨by rw [← HKK.out]; simp [OpR.v, rdK, HKK.out], rfl⟩)
  exact bodyPost_ret (retC rfl _ _ w.heap.size _ rfl S4.out.ret) rfl (S4.out.fin _ HFN.out.1 HFN.out.2)
set_option maxRecDepth 100000 in
set_option maxHeartbeats 4000000 in
theorem readOp_4 (D B : Nat) (s : Option (List UInt8)) (hk : rNum 1 s = 4) (w : World) (h : CurAt 156 D w B s) (hD : D ≤ w.heap.size) :
    Calls Try.prog 131 #[.pointer (some ⟨B, 0, none⟩)] w (RdOut D B w (rdOp s)) := by
  have hlt := h.lt
  have HU := Lib.hid (fun W => uses_any (rNum 1 s) W)
  rw [show usesK (rNum 1 s) = 37 from by rw [hk]; decide] at HU
  have hA := (Ext.refl w).alloc' (.cells zeroO 58)
  have HC := Lib.hid (cuint_any 1 (by omega) (by omega) B s _ (h.ext hA))
  have HRES := Lib.hid (show ∃ r, rdOp s = r ∧ r = rdK (rNum 1 s) (rRest 1 s) from ⟨_, rfl, rfl⟩)
  have HRD := Lib.hid (show rdOp s = rdK (rNum 1 s) (rRest 1 s) from rfl)
  have HKK := Lib.hid hk
  obtain ⟨K, hK⟩ : ∃ K, rNum 1 s = K := ⟨_, rfl⟩
  obtain ⟨s1, hs1⟩ : ∃ s1, rRest 1 s = s1 := ⟨_, rfl⟩
  rw [hK, hs1] at HC HRD
  rw [hK] at HU HKK
  clear h hA hk hK hs1 HRES
  go_enter Try.func131, Try.ntmps131
  go_wp2_with fail
  refine HC.out.mono ?_
  rintro e w1 ⟨rfl, hC, hG⟩
  have S0 := Lib.hid (RdS.start (k := K) hC hG hlt hD)
  have q0 : (w1.alloc (.cells (opA (opK K)) 58)).cell? ⟨w1.heap.size, 0, none⟩ = some (.int .i64 K) := S0.out.box.cell 0
  clear hC hG HC
  go_wp2_with (first | (with_reducible refine wpList_newK rfl (.tmp 3) (.tmp 7) rfl _ rfl K rfl rfl ?_))
  refine (HU.out _).mono ?_
  rintro e wv ⟨rfl, rfl⟩
  clear q0
  go_wp2_with fail
  refine (cuint_any 1 (by omega) (by omega) B _ _ S0.out.cur).mono ?_
  rintro e w2 ⟨rfl, hC, hG⟩
  have T0 := Lib.hid (S0.out.read hC hG)
  have q1 : w2.cell? ⟨w1.heap.size, 1, none⟩ = some (.int .i64 0) := T0.out.box.cell 1
  have f1 := T0.out.box.frozen 1
  have S1 := Lib.hid (T0.out.set (R' := ⟨K, (rNum 1 s1), 0, 0, 0, 0, 0, none, 0, 0, [], none, 0, 0, []⟩) 1 (.int .i64 (rNum 1 s1)) rfl T0.out.own1 T0.out.own2)
  clear hC hG S0
  go_wp2_with fail
  refine (cuint_any 6 (by omega) (by omega) B _ _ S1.out.cur).mono ?_
  rintro e w3 ⟨rfl, hC, hG⟩
  have T1 := Lib.hid (S1.out.read hC hG)
  have q2 : w3.cell? ⟨w1.heap.size, 2, none⟩ = some (.int .i64 0) := T1.out.box.cell 2
  have f2 := T1.out.box.frozen 2
  have S2 := Lib.hid (T1.out.set (R' := ⟨K, (rNum 1 s1), (rNum 6 (rRest 1 s1)), 0, 0, 0, 0, none, 0, 0, [], none, 0, 0, []⟩) 2 (.int .i64 (rNum 6 (rRest 1 s1))) rfl T1.out.own1 T1.out.own2)
  clear hC hG S1
  go_wp2_with fail
  refine (cname_any B _ _ S2.out.cur).mono ?_
  rintro e w4 ⟨rfl, hC, hG⟩
  have T2 := Lib.hid (S2.out.read hC hG)
  have f3 := T2.out.thereAt 5 (by omega)
  have S3 := Lib.hid (T2.out.lk (rName (rRest 6 (rRest 1 s1))))
  clear hC hG S2
  have hr := op_range S3.out.box
  have ht := op_there S3.out.res
  go_wp2_with (first | ((with_reducible refine wpList_storeN rfl (.tmp 46) (.tmp 45) rfl w1.heap.size 5 (rName (rRest 6 (rRest 1 s1))) ?hx ?hy f3 ?_); (case hx => rfl); (case hy => rfl)) | ((with_reducible refine wpList_loadO rfl (.tmp 3) rfl w1.heap.size 0 ?hx ⟨K, (rNum 1 s1), (rNum 6 (rRest 1 s1)), 0, 0, (rName (rRest 6 (rRest 1 s1))), 0, none, 0, 0, [], none, 0, 0, []⟩ hr ?_); case hx => rfl) | ((with_reducible refine wpList_storeO rfl (.tmp 2) (.tmp 59) rfl w.heap.size ⟨K, (rNum 1 s1), (rNum 6 (rRest 1 s1)), 0, 0, (rName (rRest 6 (rRest 1 s1))), 0, none, 0, 0, [], none, 0, 0, []⟩ ?hx ?hy ht ?_); (case hx => rfl); (case hy => rfl)))
  have HFN := Lib.hid (show (⟨K, (rNum 1 s1), (rNum 6 (rRest 1 s1)), 0, 0, (rName (rRest 6 (rRest 1 s1))), 0, none, 0, 0, [], none, 0, 0, []⟩ : OpR).v = (rdOp s).1 ∧ (rRest 8 (rRest 6 (rRest 1 s1))) = (rdOp s).2 from by rw [HRD.out, HKK.out]; exact ⟨by rw [← HKK.out]; simp [OpR.v, rdK, HKK.out], rfl⟩)
  exact bodyPost_ret (retC rfl _ _ w.heap.size _ rfl S3.out.ret) rfl (S3.out.fin _ HFN.out.1 HFN.out.2)
set_option maxRecDepth 100000 in
set_option maxHeartbeats 4000000 in
theorem readOp_5 (D B : Nat) (s : Option (List UInt8)) (hk : rNum 1 s = 5) (w : World) (h : CurAt 156 D w B s) (hD : D ≤ w.heap.size) :
    Calls Try.prog 131 #[.pointer (some ⟨B, 0, none⟩)] w (RdOut D B w (rdOp s)) := by
  have hlt := h.lt
  have HU := Lib.hid (fun W => uses_any (rNum 1 s) W)
  rw [show usesK (rNum 1 s) = 6 from by rw [hk]; decide] at HU
  have hA := (Ext.refl w).alloc' (.cells zeroO 58)
  have HC := Lib.hid (cuint_any 1 (by omega) (by omega) B s _ (h.ext hA))
  have HRES := Lib.hid (show ∃ r, rdOp s = r ∧ r = rdK (rNum 1 s) (rRest 1 s) from ⟨_, rfl, rfl⟩)
  have HRD := Lib.hid (show rdOp s = rdK (rNum 1 s) (rRest 1 s) from rfl)
  have HKK := Lib.hid hk
  obtain ⟨K, hK⟩ : ∃ K, rNum 1 s = K := ⟨_, rfl⟩
  obtain ⟨s1, hs1⟩ : ∃ s1, rRest 1 s = s1 := ⟨_, rfl⟩
  rw [hK, hs1] at HC HRD
  rw [hK] at HU HKK
  clear h hA hk hK hs1 HRES
  go_enter Try.func131, Try.ntmps131
  go_wp2_with fail
  refine HC.out.mono ?_
  rintro e w1 ⟨rfl, hC, hG⟩
  have S0 := Lib.hid (RdS.start (k := K) hC hG hlt hD)
  have q0 : (w1.alloc (.cells (opA (opK K)) 58)).cell? ⟨w1.heap.size, 0, none⟩ = some (.int .i64 K) := S0.out.box.cell 0
  clear hC hG HC
  go_wp2_with (first | (with_reducible refine wpList_newK rfl (.tmp 3) (.tmp 7) rfl _ rfl K rfl rfl ?_))
  refine (HU.out _).mono ?_
  rintro e wv ⟨rfl, rfl⟩
  clear q0
  go_wp2_with fail
  refine (cuint_any 1 (by omega) (by omega) B _ _ S0.out.cur).mono ?_
  rintro e w2 ⟨rfl, hC, hG⟩
  have T0 := Lib.hid (S0.out.read hC hG)
  have q1 : w2.cell? ⟨w1.heap.size, 4, none⟩ = some (.int .i64 0) := T0.out.box.cell 4
  have f1 := T0.out.box.frozen 4
  have S1 := Lib.hid (T0.out.set (R' := ⟨K, 0, 0, 0, (rNum 1 s1), 0, 0, none, 0, 0, [], none, 0, 0, []⟩) 4 (.int .i64 (rNum 1 s1)) rfl T0.out.own1 T0.out.own2)
  clear hC hG S0
  go_wp2_with fail
  refine (cuint_any 6 (by omega) (by omega) B _ _ S1.out.cur).mono ?_
  rintro e w3 ⟨rfl, hC, hG⟩
  have T1 := Lib.hid (S1.out.read hC hG)
  have q2 : w3.cell? ⟨w1.heap.size, 2, none⟩ = some (.int .i64 0) := T1.out.box.cell 2
  have f2 := T1.out.box.frozen 2
  have S2 := Lib.hid (T1.out.set (R' := ⟨K, 0, (rNum 6 (rRest 1 s1)), 0, (rNum 1 s1), 0, 0, none, 0, 0, [], none, 0, 0, []⟩) 2 (.int .i64 (rNum 6 (rRest 1 s1))) rfl T1.out.own1 T1.out.own2)
  clear hC hG S1
  have hr := op_range S2.out.box
  have ht := op_there S2.out.res
  go_wp2_with (first | ((with_reducible refine wpList_loadO rfl (.tmp 3) rfl w1.heap.size 0 ?hx ⟨K, 0, (rNum 6 (rRest 1 s1)), 0, (rNum 1 s1), 0, 0, none, 0, 0, [], none, 0, 0, []⟩ hr ?_); case hx => rfl) | ((with_reducible refine wpList_storeO rfl (.tmp 2) (.tmp 59) rfl w.heap.size ⟨K, 0, (rNum 6 (rRest 1 s1)), 0, (rNum 1 s1), 0, 0, none, 0, 0, [], none, 0, 0, []⟩ ?hx ?hy ht ?_); (case hx => rfl); (case hy => rfl)))
  have HFN := Lib.hid (show (⟨K, 0, (rNum 6 (rRest 1 s1)), 0, (rNum 1 s1), 0, 0, none, 0, 0, [], none, 0, 0, []⟩ : OpR).v = (rdOp s).1 ∧ (rRest 6 (rRest 1 s1)) = (rdOp s).2 from by rw [HRD.out, HKK.out]; exact ⟨by rw [← HKK.out]; simp [OpR.v, rdK, HKK.out], rfl⟩)
  exact bodyPost_ret (retC rfl _ _ w.heap.size _ rfl S2.out.ret) rfl (S2.out.fin _ HFN.out.1 HFN.out.2)
set_option maxRecDepth 100000 in
set_option maxHeartbeats 4000000 in
theorem readOp_6 (D B : Nat) (s : Option (List UInt8)) (hk : rNum 1 s = 6) (w : World) (h : CurAt 156 D w B s) (hD : D ≤ w.heap.size) :
    Calls Try.prog 131 #[.pointer (some ⟨B, 0, none⟩)] w (RdOut D B w (rdOp s)) := by
  have hlt := h.lt
  have HU := Lib.hid (fun W => uses_any (rNum 1 s) W)
  rw [show usesK (rNum 1 s) = 130 from by rw [hk]; decide] at HU
  have hA := (Ext.refl w).alloc' (.cells zeroO 58)
  have HC := Lib.hid (cuint_any 1 (by omega) (by omega) B s _ (h.ext hA))
  have HRES := Lib.hid (show ∃ r, rdOp s = r ∧ r = rdK (rNum 1 s) (rRest 1 s) from ⟨_, rfl, rfl⟩)
  have HRD := Lib.hid (show rdOp s = rdK (rNum 1 s) (rRest 1 s) from rfl)
  have HKK := Lib.hid hk
  obtain ⟨K, hK⟩ : ∃ K, rNum 1 s = K := ⟨_, rfl⟩
  obtain ⟨s1, hs1⟩ : ∃ s1, rRest 1 s = s1 := ⟨_, rfl⟩
  rw [hK, hs1] at HC HRD
  rw [hK] at HU HKK
  clear h hA hk hK hs1 HRES
  go_enter Try.func131, Try.ntmps131
  go_wp2_with fail
  refine HC.out.mono ?_
  rintro e w1 ⟨rfl, hC, hG⟩
  have S0 := Lib.hid (RdS.start (k := K) hC hG hlt hD)
  have q0 : (w1.alloc (.cells (opA (opK K)) 58)).cell? ⟨w1.heap.size, 0, none⟩ = some (.int .i64 K) := S0.out.box.cell 0
  clear hC hG HC
  go_wp2_with (first | (with_reducible refine wpList_newK rfl (.tmp 3) (.tmp 7) rfl _ rfl K rfl rfl ?_))
  refine (HU.out _).mono ?_
  rintro e wv ⟨rfl, rfl⟩
  clear q0
  go_wp2_with fail
  refine (cuint_any 1 (by omega) (by omega) B _ _ S0.out.cur).mono ?_
  rintro e w2 ⟨rfl, hC, hG⟩
  have T0 := Lib.hid (S0.out.read hC hG)
  have q1 : w2.cell? ⟨w1.heap.size, 4, none⟩ = some (.int .i64 0) := T0.out.box.cell 4
  have f1 := T0.out.box.frozen 4
  have S1 := Lib.hid (T0.out.set (R' := ⟨K, 0, 0, 0, (rNum 1 s1), 0, 0, none, 0, 0, [], none, 0, 0, []⟩) 4 (.int .i64 (rNum 1 s1)) rfl T0.out.own1 T0.out.own2)
  clear hC hG S0
  go_wp2_with fail
  refine (cblob_any D B _ _ S1.out.cur).mono ?_
  rintro e w3 ⟨A3, n3, c3, rfl, hO, hC, hG⟩
  have T1 := Lib.hid (S1.out.read hC hG)
  have q2 : w3.cell? ⟨w1.heap.size, 22, none⟩ = some (.slice none 0 0) := T1.out.box.cell 22
  have f2 := T1.out.box.frozen 22
  have S2 := Lib.hid (T1.out.set (R' := ⟨K, 0, 0, 0, (rNum 1 s1), 0, 0, none, 0, 0, [], A3, n3, c3, (rBlob (rRest 1 s1))⟩) 22 (.slice A3 n3 c3) rfl T1.out.own1 (own_mono hO S1.out.gr.size))
  clear hC hG hO S1
  have hr := op_range S2.out.box
  have ht := op_there S2.out.res
  go_wp2_with (first | ((with_reducible refine wpList_loadO rfl (.tmp 3) rfl w1.heap.size 0 ?hx ⟨K, 0, 0, 0, (rNum 1 s1), 0, 0, none, 0, 0, [], A3, n3, c3, (rBlob (rRest 1 s1))⟩ hr ?_); case hx => rfl) | ((with_reducible refine wpList_storeO rfl (.tmp 2) (.tmp 59) rfl w.heap.size ⟨K, 0, 0, 0, (rNum 1 s1), 0, 0, none, 0, 0, [], A3, n3, c3, (rBlob (rRest 1 s1))⟩ ?hx ?hy ht ?_); (case hx => rfl); (case hy => rfl)))
  have HFN := Lib.hid (show (⟨K, 0, 0, 0, (rNum 1 s1), 0, 0, none, 0, 0, [], A3, n3, c3, (rBlob (rRest 1 s1))⟩ : OpR).v = (rdOp s).1 ∧ (rAft (rRest 1 s1)) = (rdOp s).2 from by rw [HRD.out, HKK.out]; exact ⟨by rw [← HKK.out]; simp [OpR.v, rdK, HKK.out], rfl⟩)
  exact bodyPost_ret (retC rfl _ _ w.heap.size _ rfl S2.out.ret) rfl (S2.out.fin _ HFN.out.1 HFN.out.2)
set_option maxRecDepth 100000 in
set_option maxHeartbeats 4000000 in
theorem readOp_0 (D B : Nat) (s : Option (List UInt8)) (hk : ¬ (1 ≤ rNum 1 s ∧ rNum 1 s ≤ 6)) (w : World) (h : CurAt 156 D w B s) (hD : D ≤ w.heap.size) :
    Calls Try.prog 131 #[.pointer (some ⟨B, 0, none⟩)] w (RdOut D B w (rdOp s)) := by
  have hlt := h.lt
  have HU := Lib.hid (fun W => uses_any (rNum 1 s) W)
  rw [show usesK (rNum 1 s) = 0 from by exact usesK_no hk] at HU
  have hA := (Ext.refl w).alloc' (.cells zeroO 58)
  have HC := Lib.hid (cuint_any 1 (by omega) (by omega) B s _ (h.ext hA))
  have HRES := Lib.hid (show ∃ r, rdOp s = r ∧ r = rdK (rNum 1 s) (rRest 1 s) from ⟨_, rfl, rfl⟩)
  have HRD := Lib.hid (show rdOp s = (⟨rNum 1 s, 0, 0, 0, 0, 0, 0, [], []⟩, rRest 1 s) from by unfold rdOp rdK; rw [if_neg (by omega), if_neg (by omega), if_neg (by omega), if_neg (by omega), if_neg (by omega), if_neg (by omega)])
  obtain ⟨K, hK⟩ : ∃ K, rNum 1 s = K := ⟨_, rfl⟩
  obtain ⟨s1, hs1⟩ : ∃ s1, rRest 1 s = s1 := ⟨_, rfl⟩
  rw [hK, hs1] at HC HRD
  rw [hK] at HU
  clear h hA hk hK hs1 HRES
  go_enter Try.func131, Try.ntmps131
  go_wp2_with fail
  refine HC.out.mono ?_
  rintro e w1 ⟨rfl, hC, hG⟩
  have S0 := Lib.hid (RdS.start (k := K) hC hG hlt hD)
  have q0 : (w1.alloc (.cells (opA (opK K)) 58)).cell? ⟨w1.heap.size, 0, none⟩ = some (.int .i64 K) := S0.out.box.cell 0
  clear hC hG HC
  go_wp2_with (first | (with_reducible refine wpList_newK rfl (.tmp 3) (.tmp 7) rfl _ rfl K rfl rfl ?_))
  refine (HU.out _).mono ?_
  rintro e wv ⟨rfl, rfl⟩
  clear q0
  have hr := op_range S0.out.box
  have ht := op_there S0.out.res
  go_wp2_with (first | ((with_reducible refine wpList_loadO rfl (.tmp 3) rfl w1.heap.size 0 ?hx (opK K) hr ?_); case hx => rfl) | ((with_reducible refine wpList_storeO rfl (.tmp 2) (.tmp 59) rfl w.heap.size (opK K) ?hx ?hy ht ?_); (case hx => rfl); (case hy => rfl)))
  have HFN := Lib.hid (show (opK K).v = (rdOp s).1 ∧ s1 = (rdOp s).2 from by rw [HRD.out]; exact ⟨rfl, rfl⟩)
  exact bodyPost_ret (retC rfl _ _ w.heap.size _ rfl S0.out.ret) rfl (S0.out.fin _ HFN.out.1 HFN.out.2)
theorem readOp_any (D B : Nat) (s : Option (List UInt8)) (w : World) (h : CurAt 156 D w B s) (hD : D ≤ w.heap.size) :
    Calls Try.prog 131 #[.pointer (some ⟨B, 0, none⟩)] w (RdOut D B w (rdOp s)) := by
  rcases kind_cases (rNum 1 s) with hk | hk | hk | hk | hk | hk | hk
  · exact readOp_1 D B s hk w h hD
  · exact readOp_2 D B s hk w h hD
  · exact readOp_3 D B s hk w h hD
  · exact readOp_4 D B s hk w h hD
  · exact readOp_5 D B s hk w h hD
  · exact readOp_6 D B s hk w h hD
  · exact readOp_0 D B s hk w h hD
end Go.Proofs.Ytjlnmpjffogpdaa
