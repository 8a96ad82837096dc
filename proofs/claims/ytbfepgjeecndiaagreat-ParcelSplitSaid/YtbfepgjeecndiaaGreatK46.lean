/- slices.IndexFunc and slices.DeleteFunc over votes. -/
import Derived.Test.YtbfepgjeecndiaaGreatK34
import Derived.Test.YtbfepgjeecndiaaGreatK45
namespace Go.Proofs.YtbfepgjeecndiaaGreat
set_option maxRecDepth 100000
set_option maxHeartbeats 8000000
open Go.RowKit
set_option linter.unusedVariables false
set_option linter.unusedSimpArgs false
set_option linter.unusedSectionVars false
attribute [local go_sem ↓] Go.wp_at_zero Go.wp_at_succ
structure TstSg (fn B : Nat) (q : SgR → Bool) (K : World → Prop) : Prop where
 eg : ∀ args w, (callFunc fn args).run Tryz.prog w = .ok (.enter fn args) w
 says : ∀ x W, K W → RowT.ok x W → Calls Tryz.prog fn #[Value.agg (sgA x), .pointer (some ⟨B, 0, none⟩)] W fun e w' => e = .returned (.bool (q x)) ∧ Ext W w'
 ext : ∀ W W', K W → Ext W W' → K W'
 row : ∀ W W' g, K W → (∃ cur p, W.heap[g]? = some (.cells cur 48 p)) → W.grownBy W' (some g) → K W'
theorem TstSg.at {fn B : Nat} {q : SgR → Bool} {K : World → Prop} (h : TstSg fn B q K) {w0 w : World} {base n c : Nat} {A : Option Addr} {d : Array SgR} (k : RowS w0 w base 48 A n c d) (hK : K w) {i : Nat} (hi : i < n) {R : SgR} (hR : d[i]! = R) (vx : Value) (hx : Value.agg (sgA R) = vx) (b : Bool) (hb : q d[i]! = b) :
  Hid (∀ W, Ext w W → Calls Tryz.prog fn #[vx, .pointer (some ⟨B, 0, none⟩)] W fun e w' => e = .returned (.bool b) ∧ Ext W w') := by
 subst hR; rw [← hx, ← hb]
 exact Lib.hid (fun W hW => h.says _ W (h.ext _ _ hK hW) ((RowS.ext k hW).ok hi))
theorem wpList_newSgV {o : Oper} {a : Act} {w : World} {ops : Array Oper} {rest : List Oper} {Q : Exit → Act → World → Prop} (hgd : o.guard = none) (x y : Operand) (ho : o.op = .store 48 x y) (cs : Array Value) (hcs : cs.size = 23) (R : SgR) (v : Value) (hv : Value.agg (sgA R) = v) (hx : a.eval x = .pointer (some ⟨w.heap.size, 0, none⟩)) (hy : a.eval y = v)
  (h : ∀ W2, Hid (w.alloc (.cells (sgA R) 48) = W2) → wpList Tryz.prog ops Q rest (a.put o.dst undef) W2) : wpList Tryz.prog ops Q (o :: rest) a (w.alloc (.cells cs 48)) := wpList_newSg hgd x y ho cs hcs R hx (by rw [hy, hv]) (h _ (Lib.hid rfl))
def IxOutSg (w : World) (q : SgR → Bool) (n : Nat) (d : Array SgR) (e : Ending) (w' : World) : Prop := Ext w w' ∧ ((e = .returned (.int .i64 (-1)) ∧ Dl0 q d n) ∨ ∃ k, k < n ∧ e = .returned (.int .i64 (k : Int)) ∧ q d[k]! = true ∧ Dl0 q d k)
theorem indexSg_any {fn B : Nat} {q : SgR → Bool} {K : World → Prop} (ht : TstSg fn B q K) (w0 w : World) (base : Nat) (A : Option Addr) (n c : Nat) (d : Array SgR) (h : RowS w0 w base 48 A n c d) (hK : K w) (hn : n ≤ 1000000000) :
  Calls Tryz.prog 68 #[.slice A n c, .func (.func fn) #[] #[.pointer (some ⟨B, 0, none⟩)]] w (IxOutSg w q n d) := by
 have eg := ht.eg
 have HT := Lib.hid ht
 have HD0 := Lib.hid h
 have HK0 := Lib.hid hK
 have HSZ := Lib.hid (RowS.size h)
 clear ht hK
 go_enter Tryz.func68, Tryz.ntmps68
 go_wp2_with fail
 go_loopw [8] (fun vi wr => ∃ k : Nat, vi = .int .i64 (k : Int) ∧ k ≤ n ∧ Hid (Dl0 q d k) ∧ Hid (Ext w wr)) (fun i _ => n - (intOf i).toNat)
 case atStart => exact ⟨0, rfl, Nat.zero_le _, Lib.hid (Dl0.start d), Lib.hid (Ext.refl w)⟩
 case round =>
  obtain ⟨k, rfl, hk, HN, HE⟩ := hrel
  by_cases hlt : k < n
  ·have HD := Lib.hid (RowS.ext HD0.out HE.out)
   have HK := Lib.hid (HT.out.ext _ _ HK0.out HE.out)
   obtain ⟨g, rfl, -, -⟩ := RowS.at HD.out (by omega)
   have i1 : (k : Int) < (n : Int) := by omega
   cases hb : q d[k]! with
   | false =>
    have HB := Lib.hid hb
    obtain ⟨R, hR⟩ : ∃ R, d[k]! = R := ⟨_, rfl⟩
    obtain ⟨vx, hvx⟩ : ∃ v, Value.agg (sgA R) = v := ⟨_, rfl⟩
    have HVX := Lib.hid hvx
    have HKR := Lib.hid hR
    have L1 := Lib.hid (fun (W : World) (he : Ext wr W) => show W.rangeAt g (k * 23) (sgL R) from by exact RowSg.load HD.out rfl hlt hR he)
    have HCM := HT.out.at HD.out HK.out hlt hR vx hvx false hb
    clear hvx hR
    clear hb
    go_wp2_with (first | (with_reducible refine wpList_loadSgV rfl (.tmp 14) rfl g (k * 23) rfl R vx HVX.out (L1.out _ (Ext.refl _)) ?_))
    
    refine (HCM.out _ (Ext.refl _)).mono ?_
    rintro e w3 ⟨rfl, he3⟩
    have HN2 := Lib.hid (HN.out.next (by rw [HSZ.out]; exact hlt) HB.out)
    have HE2 := Lib.hid (HE.out.trans he3)
    clear HCM L1 HVX  he3
    go_wp2_with fail
    go_roundw
    case rel => exact ⟨k + 1, by go_num, hlt, HN2, HE2⟩
    case measure => simp [intOf]; omega
   | true =>
    have HB := Lib.hid hb
    obtain ⟨R, hR⟩ : ∃ R, d[k]! = R := ⟨_, rfl⟩
    obtain ⟨vx, hvx⟩ : ∃ v, Value.agg (sgA R) = v := ⟨_, rfl⟩
    have HVX := Lib.hid hvx
    have HKR := Lib.hid hR
    have L1 := Lib.hid (fun (W : World) (he : Ext wr W) => show W.rangeAt g (k * 23) (sgL R) from by exact RowSg.load HD.out rfl hlt hR he)
    have HCM := HT.out.at HD.out HK.out hlt hR vx hvx true hb
    clear hvx hR
    clear hb
    go_wp2_with (first | (with_reducible refine wpList_loadSgV rfl (.tmp 14) rfl g (k * 23) rfl R vx HVX.out (L1.out _ (Ext.refl _)) ?_))
    
    refine (HCM.out _ (Ext.refl _)).mono ?_
    rintro e w3 ⟨rfl, he3⟩
    have HE2 := Lib.hid (HE.out.trans he3)
    clear HCM L1 HVX  he3
    go_wp2_with fail
    go_ret
    exact ⟨HE2.out, .inr ⟨k, hlt, rfl, HB.out, HN.out⟩⟩
  ·obtain ⟨k2, hk2⟩ : ∃ q, q = k := ⟨_, rfl⟩
   have i1 : ¬ (k : Int) < (n : Int) := by omega
   have HF := Lib.hid (show Dl0 q d n from by rw [show n = k from by omega]; exact HN.out)
   go_wp2_with fail
   go_ret
   exact ⟨HE.out, .inl ⟨rfl, HF.out⟩⟩
theorem own_typed2 {w : World} {base : Nat} {e : TypeId} {size g n c : Nat} {xs : List Value} (h : w.ownsRow base e size (.slice (some ⟨g, 0, none⟩) n c) n xs) : ∃ cur p, w.heap[g]? = some (.cells cur e p) := by
 rcases h.2 with ⟨hv, _⟩ | ⟨g', cap, cur, hv, _, hh, _⟩
 ·cases hv
 ·cases hv; exact ⟨_, _, hh⟩
def DfOutSg (w0 : World) (base : Nat) (q : SgR → Bool) (K : World → Prop) (A : Option Addr) (n c : Nat) (d : Array SgR) (e : Ending) (w' : World) : Prop := ∃ (m : Nat) (d' : Array SgR), e = .returned (.slice A m c) ∧ m ≤ n ∧ RowS w0 w' base 48 A m c d' ∧ d'.toList = keepL q d.toList ∧ K w'
theorem deleteSg_any {fn B : Nat} {q : SgR → Bool} {K : World → Prop} (ht : TstSg fn B q K) (w0 w : World) (base : Nat) (A : Option Addr) (n c : Nat) (d : Array SgR) (h : RowS w0 w base 48 A n c d) (hK : K w) (hn : n ≤ 1000000000) (hnc : n ≤ c) (hc : c ≤ 9223372036854775807) :
  Calls Tryz.prog 33 #[.slice A n c, .func (.func fn) #[] #[.pointer (some ⟨B, 0, none⟩)]] w (DfOutSg w0 base q K A n c d) := by
 have HIX := Lib.hid (indexSg_any ht w0 w base A n c d h hK hn)
 have eg := ht.eg
 have HT := Lib.hid ht
 have HD0 := Lib.hid h
 have HK0 := Lib.hid hK
 have HSZ := Lib.hid (RowS.size h)
 clear ht hK
 go_enter Tryz.func33, Tryz.ntmps33
 go_wp2_with fail
 refine HIX.out.mono ?_
 rintro e w1 ⟨he1, ⟨rfl, hno⟩ | ⟨k, hk, rfl, hyes, hno⟩⟩
 ·have HF := Lib.hid (show d.toList = keepL q d.toList from (hno.all (by rw [HSZ.out]; exact Nat.le_refl _)).symm)
  have HD1 := Lib.hid (RowS.ext HD0.out he1)
  have HK1 := Lib.hid (HT.out.ext _ _ HK0.out he1)
  clear hno he1 HIX h
  go_wp2_with fail
  go_ret
  exact ⟨n, d, rfl, Nat.le_refl _, HD1.out, HF.out, HK1.out⟩
 ·have HC1 := Lib.hid (hno.hit (by rw [HSZ.out]; exact hk) hyes)
  have HD1 := Lib.hid (RowS.ext HD0.out he1)
  have HK1 := Lib.hid (HT.out.ext _ _ HK0.out he1)
  obtain ⟨g, rfl, -, -⟩ := RowS.at HD1.out (by omega)
  clear hno hyes he1 HIX h HD0 HK0
  go_wp2_with fail
  go_loopw [5, 6] (fun vi vj wr => ∃ (i j : Nat) (dk : Array SgR), vi = .int .i64 (i : Int) ∧ vj = .int .i64 (j : Int) ∧ i < j ∧ j ≤ n ∧ Hid (Dls q d dk i j) ∧ Hid (RowS w0 wr base 48 (some ⟨g, 0, none⟩) n c dk) ∧ Hid (K wr)) (fun _ j _ => n - (intOf j).toNat)
  case atStart => exact ⟨k, k + 1, d, rfl, by go_num, by omega, by omega, HC1, HD1, HK1⟩
  case round =>
   clear HC1 HD1 HK1
   obtain ⟨i, j, dk, rfl, rfl, hij, hjn, HC, HD, HK⟩ := hrel
   by_cases hlt : j < n
   ·have hin : i < n := by omega
    have i1 : (j : Int) < (n : Int) := by omega
    have i2 : (i : Int) < (n : Int) := by omega
    have HR1 := Lib.hid (HC.out.rest j (by omega))
    cases hb : q dk[j]! with
    | false =>
     have HB := Lib.hid hb
     obtain ⟨R, hR⟩ : ∃ R, dk[j]! = R := ⟨_, rfl⟩
     obtain ⟨vx, hvx⟩ : ∃ v, Value.agg (sgA R) = v := ⟨_, rfl⟩
     have HVX := Lib.hid hvx
     have HKR := Lib.hid hR
     have L1 := Lib.hid (fun (W : World) (he : Ext wr W) => show W.rangeAt g (j * 23) (sgL R) from by exact RowSg.load HD.out rfl hlt hR he)
     have HCM := HT.out.at HD.out HK.out hlt hR vx hvx false hb
     clear hvx hR
     clear hb
     go_wp2_with (first | (with_reducible refine wpList_loadSgV rfl (.tmp 24) rfl g (j * 23) rfl R vx HVX.out (L1.out _ (Ext.refl _)) ?_) | (with_reducible refine wpList_newSgV rfl (.tmp 7) (.tmp 25) rfl _ rfl R vx HVX.out rfl rfl ?_))
     intro W5 h5
     have HE5 := Lib.hid (show Ext wr W5 from by rw [← h5.out]; exact (Ext.refl wr).alloc' _)
     have HB5 := Lib.hid (show Blk W5 wr.heap.size 48 (sgA R) from by rw [← h5.out]; exact Blk.new wr 48 (sgA R))
     clear h5
     have hr5 : W5.rangeAt wr.heap.size 0 (sgL R) := rangeAt_of_blk HB5.out
     go_wp2_with (first | (with_reducible refine wpList_loadSgV rfl (.tmp 7) rfl wr.heap.size 0 rfl R vx HVX.out hr5 ?_))
     refine (HCM.out _ HE5.out).mono ?_
     rintro e w6 ⟨rfl, he6⟩
     have HE6 := Lib.hid (HE5.out.trans he6)
     have HB6 := Lib.hid (HB5.out.ext he6)
     clear hr5 he6
     have HD6 := Lib.hid (RowS.ext HD.out HE6.out)
     have HK6 := Lib.hid (HT.out.ext _ _ HK.out HE6.out)
     have HJS : j < d.size := by rw [HSZ.out]; exact hlt
     have HC2 := Lib.hid (show Dls q d (dk.setIfInBounds i R) (i + 1) (j + 1) from by have h1 := HC.out.keep HJS (by have := HB.out; rw [HR1.out] at this; exact this); rw [← HR1.out, HKR.out] at h1; exact h1)
     have HD7 := Lib.hid (HD6.out.set rfl hin R (by rw [← HKR.out]; exact HD6.out.owAt hlt))
     have ht : w6.there g (i * 23) 23 := HD6.out.there rfl hin
     have hr6 : w6.rangeAt wr.heap.size 0 (sgL R) := rangeAt_of_blk HB6.out
     have HK7 := Lib.hid (fun (W : World) (hg : w6.grownBy W (some g)) => HT.out.row _ W g HK6.out (own_typed2 HD6.out.own) hg)
     clear HC HCM L1 HE6 HJS HK HKR HE5 HB5 HB6
     go_wp2_with (first | (with_reducible refine wpList_loadSgV rfl (.tmp 7) rfl wr.heap.size 0 rfl R vx HVX.out hr6 ?_) | (with_reducible refine wpList_storeSgV rfl (.tmp 33) (.tmp 32) rfl g (i * 23) rfl R vx HVX.out rfl ht ?_))
     have HD8 := Lib.hid HD7.out
     have HK8 := Lib.hid (HK7.out _ (grown_setCells' w6 g (sgL R) (i * 23)))
     clear HD7 HD6 HK6 HK7 HD
     generalize w6.setCells g (i * 23) (sgL R) = W8 at HD8 HK8 ⊢
     go_wp2_with fail
     go_roundw
     case rel => (repeat apply Exists.intro); exact ⟨⟨i + 1, j + 1, dk.setIfInBounds i R, by go_num, by go_num, by omega, by omega, HC2, HD8, HK8⟩, rfl⟩
     case measure => simp [intOf]; omega
    | true =>
     have HB := Lib.hid hb
     obtain ⟨R, hR⟩ : ∃ R, dk[j]! = R := ⟨_, rfl⟩
     obtain ⟨vx, hvx⟩ : ∃ v, Value.agg (sgA R) = v := ⟨_, rfl⟩
     have HVX := Lib.hid hvx
     have HKR := Lib.hid hR
     have L1 := Lib.hid (fun (W : World) (he : Ext wr W) => show W.rangeAt g (j * 23) (sgL R) from by exact RowSg.load HD.out rfl hlt hR he)
     have HCM := HT.out.at HD.out HK.out hlt hR vx hvx true hb
     clear hvx hR
     clear hb
     go_wp2_with (first | (with_reducible refine wpList_loadSgV rfl (.tmp 24) rfl g (j * 23) rfl R vx HVX.out (L1.out _ (Ext.refl _)) ?_) | (with_reducible refine wpList_newSgV rfl (.tmp 7) (.tmp 25) rfl _ rfl R vx HVX.out rfl rfl ?_))
     intro W5 h5
     have HE5 := Lib.hid (show Ext wr W5 from by rw [← h5.out]; exact (Ext.refl wr).alloc' _)
     have HB5 := Lib.hid (show Blk W5 wr.heap.size 48 (sgA R) from by rw [← h5.out]; exact Blk.new wr 48 (sgA R))
     clear h5
     have hr5 : W5.rangeAt wr.heap.size 0 (sgL R) := rangeAt_of_blk HB5.out
     go_wp2_with (first | (with_reducible refine wpList_loadSgV rfl (.tmp 7) rfl wr.heap.size 0 rfl R vx HVX.out hr5 ?_))
     refine (HCM.out _ HE5.out).mono ?_
     rintro e w6 ⟨rfl, he6⟩
     have HE6 := Lib.hid (HE5.out.trans he6)
     have HB6 := Lib.hid (HB5.out.ext he6)
     clear hr5 he6
     have HD6 := Lib.hid (RowS.ext HD.out HE6.out)
     have HK6 := Lib.hid (HT.out.ext _ _ HK.out HE6.out)
     have HJS : j < d.size := by rw [HSZ.out]; exact hlt
     have HC2 := Lib.hid (HC.out.skip HJS (by have := HB.out; rw [HR1.out] at this; exact this))
     clear HD HC HCM L1 HVX HK HE6 HJS HE5 HB5 HB6
     go_wp2_with fail
     go_roundw
     case rel => (repeat apply Exists.intro); exact ⟨⟨i, j + 1, dk, rfl, by go_num, by omega, by omega, HC2, HD6, HK6⟩, rfl⟩
     case measure => simp [intOf]; omega
   ·have i3 : ¬ (j : Int) < (n : Int) := by omega
    have y1 : i ≤ n := by omega
    have y2 : i ≤ c := by omega
    have y3 : ¬ c = i := by omega
    have y4 : ¬ n = i := by omega
    have y5 : 0 < n - i := by omega
    have HF := Lib.hid (show dk.toList.take i = keepL q d.toList from HC.out.all (by rw [HSZ.out]; omega))
    have hcl := fun ty => run_clearG sgE sg0_one wr ty g (i * 23) (n - i) (c - i) y5 (HD.out.clearOk rfl y1).1 (HD.out.clearOk rfl y1).2
    have HD2 := Lib.hid (HD.out.cutClear rfl y1 (Builtin.zeroCells (Value.agg sg0).cells (n - i)).toList)
    have HK2 := Lib.hid (HT.out.row _ _ g HK.out (own_typed2 HD.out.own) (grown_setCells' wr g (Builtin.zeroCells (Value.agg sg0).cells (n - i)).toList (i * 23)))
    have HLE := Lib.hid y1
    clear HD HC HK
    obtain ⟨W8, hW8⟩ : ∃ W, wr.setCells g (i * 23) (Builtin.zeroCells (Value.agg sg0).cells (n - i)).toList = W := ⟨_, rfl⟩
    simp only [hW8] at hcl
    have HD3 := Lib.hid (show RowS w0 W8 base 48 (some ⟨g, 0, none⟩) i c (dk.toList.take i).toArray from by rw [← hW8]; exact HD2.out)
    have HK3 := Lib.hid (show K W8 from by rw [← hW8]; exact HK2.out)
    clear HD2 HK2 hW8
    go_wp2_with fail
    go_ret
    exact ⟨i, _, rfl, HLE.out, HD3.out, HF.out, HK3.out⟩
end Go.Proofs.YtbfepgjeecndiaaGreat

/- The bytes of a parcel (the reference's EncodeParcel). -/
namespace Go.Proofs.YtbfepgjeecndiaaGreat
set_option maxRecDepth 100000
set_option maxHeartbeats 8000000
open Go.RowKit
set_option linter.unusedVariables false
set_option linter.unusedSimpArgs false
attribute [local go_sem ↓] Go.wp_at_zero Go.wp_at_succ
theorem rTagged89 (A : Option Addr) (n c : Nat) (l : List UInt8) (w : World) (h : SlB w A n c l) (hm : n < 140737488355328) :
  Calls Tryz.prog 24 #[.int .u8 89, .slice A n c] w fun e w' => e = .returned (.agg (nmc (tagU 89 l))) ∧ Ext w w' := refTagged_any 89 A n c l w h hm
theorem encTes_bd : ∀ (X : List TeR) (k : Nat), k ≤ X.length → (∀ T ∈ X, T.l.length = T.n) → (∀ j, j < k → okTe (nthG X j) = true) → (encTes (X.take k)).length ≤ 65537 * k
 | _, 0, _, _, _ => by simp [encTes]
 | [], k + 1, h, _, _ => by simp at h
 | T :: X, k + 1, h, hl, ho => by
  have h0 : okTe T = true := ho 0 (by omega)
  have h1 : T.n ≤ 65535 := of_decide_eq_true h0
  have h2 := hl T (by simp)
  have ih := encTes_bd X k (by simpa using h) (fun U hU => hl U (by simp [hU])) (fun j hj => ho (j + 1) (by omega))
  have e : encTes ((T :: X).take (k + 1)) = blob T.l ++ encTes (X.take k) := by simp [encTes]
  rw [e, List.length_append, blob_length]
  omega
theorem rPcEnc_any (A : Option Addr) (n c : Nat) (L : List SgR) (B : Option Addr) (m d : Nat) (X : List TeR) (w : World) (hS : SlG w A n c L) (hX : SlG w B m d X) :
  Calls Tryz.prog 10 #[.agg (vwA A n c B m d)] w (PcEnc w L X) := by
 have hcap := hS.cap
 have hle := hS.le
 have hcap2 := hX.cap
 have hle2 := hX.le
 have hE := (Ext.refl w).alloc' (.cells (vwA A n c B m d) 25)
 have HB := Lib.hid (Blk.new w 25 (vwA A n c B m d))
 have HE := Lib.hid hE
 have HS := Lib.hid (hS.ext hE)
 have HX := Lib.hid (hX.ext hE)
 have HL := Lib.hid hS.len
 have HM := Lib.hid hX.len
 obtain ⟨W0, hW0⟩ : ∃ W0, w.alloc (.cells (vwA A n c B m d) 25) = W0 := ⟨_, rfl⟩
 rw [hW0] at HB HE HS HX
 have HC := Lib.hid (fun (W : World) (h : Ext W0 W) => vw_facts (HB.out.ext h))
 clear hS hX hE
 obtain ⟨c0, c1⟩ := HC.out W0 (Ext.refl _)
 go_enter Tryz.func10, Tryz.ntmps10
 have HLG := Lib.hid (show lrgN n m = (decide (64 < n) || decide (64 < m)) from rfl)
 have HX1 := Lib.hid (Ext.refl W0)
 cases hv : lrgN n m with
 | true =>
  have HN := Lib.hid (show pcE L X = 5 by unfold pcE; rw [HL.out, HM.out, hv]; rfl)
  have HF := Lib.hid HE.out
  have hor : 64 < n ∨ 64 < m := by
   unfold lrgN at hv
   simpa using hv
  clear hv
  by_cases h1 : (n : Int) > 64
  ·go_wp2_with fail
   go_ret2
   exact ⟨.inl ⟨by rw [HN.out]; decide, by rw [HN.out]; rfl⟩, HF.out⟩
  ·have h2 : (m : Int) > 64 := by omega
   clear hor
   go_wp2_with fail
   go_ret2
   exact ⟨.inl ⟨by rw [HN.out]; decide, by rw [HN.out]; rfl⟩, HF.out⟩
 | false =>
  have HN := Lib.hid (show pcE L X = vwE L X by unfold pcE; rw [HL.out, HM.out, hv]; rfl)
  have hbd : n ≤ 64 ∧ m ≤ 64 := by
   unfold lrgN at hv
   simp only [Bool.or_eq_false_iff, decide_eq_false_iff_not] at hv
   omega
  obtain ⟨b1, b2⟩ := hbd
  have h1 : ¬ (n : Int) > 64 := by omega
  have h2 : ¬ (m : Int) > 64 := by omega
  have HZQ := Lib.hid (fun (k : Nat) (hk : k ≤ m) (hj : ∀ j, j < k → okTe (nthG X j) = true) => show (encTes (X.take k)).length ≤ 900000000 from by
   have := encTes_bd X k (by rw [HM.out]; exact hk) (fun T hT => (HX.out.ok T hT).len) hj
   omega)
  clear hv
  go_wp2_with fail
  refine (rEnv_any A n c L B m d X W0 HS.out HX.out (by omega) (by omega) HZQ.out).mono ?_
  intro e w2 h2
  obtain ⟨hcase, he2⟩ := h2
  have HX2 := Lib.hid (HE.out.trans (HX1.out.trans he2))
  have HXZ := Lib.hid he2.size
  clear he2 c0 c1
  rcases hcase with ⟨hne, rfl⟩ | ⟨h0, A2, n2, c2, rfl, hO2, hn2⟩
  ·obtain ⟨z, hz⟩ : ∃ z, vwE L X = z := ⟨_, rfl⟩
   rw [hz] at hne HN ⊢
   have z1 : (z != 0) = true := bne_iff_ne.2 hne
   have HNE := Lib.hid hne
   clear hne hz
   go_wp2_with fail
   go_ret2
   exact ⟨.inl ⟨by rw [HN.out]; exact HNE.out, by rw [HN.out]; rfl⟩, HX2.out⟩
  ·rw [h0] at HN
   rw [HL.out, HM.out] at hn2
   have HO2 := Lib.hid hO2
   have HLE := Lib.hid (show (encVw L X).length = n2 from hO2.len)
   have HPO := Lib.hid (encVw_pos L X)
   clear h0 hO2
   go_wp2_with fail
   refine (rTagged89 A2 n2 c2 (encVw L X) w2 HO2.out.sl (by omega)).mono ?_
   rintro e w3 ⟨rfl, he3⟩
   have HX3 := Lib.hid (HX2.out.trans he3)
   have HO3 := Lib.hid (HO2.out.ext he3)
   obtain ⟨N, hN⟩ : ∃ N, tagU 89 (encVw L X) = N := ⟨_, rfl⟩
   have HNN := Lib.hid hN
   rw [hN]
   clear he3 hN
   have hp : 8 ≤ n2 := by have := HPO.out; have := HLE.out; omega
   have HZ := Lib.hid hp
   have HBQ := Lib.hid (Blk.new w3 44 (nmc N))
   have HBN := Lib.hid (slB_at (n := 8) (c := 8) (rangeNm (Blk.new w3 44 (nmc N))) (nmb_length _) (by omega) (by omega))
   have HO4 := Lib.hid (HO3.out.sl.ext ((Ext.refl w3).alloc' (.cells (nmc N) 44)))
   have HX4 := Lib.hid (HX3.out.alloc' (.cells (nmc N) 44))
   have hb0 := run_buildY0
   go_wp2_with (first | (with_reducible refine wpList_storeNew rfl (.tmp 6) (.tmp 26) rfl w3.heap.size N rfl rfl rfl ?_) | (at_builtin; go_must (refine wpList_appBG bytesE rfl (.tmp 27) (.tmp 28) rfl (w3.heap.size + 1) (some ⟨w3.heap.size + 1, 0, none⟩) 0 0 [] rfl ?r0 (some ⟨w3.heap.size, 0, none⟩) 8 8 (nmb N) rfl ?r1 (by omega) ?b1 ?_)))
   case r0 => have h0 := own_zero (w3.alloc (.cells (nmc N) 44)) 5 1; rw [show (w3.alloc (.cells (nmc N) 44)).heap.size = w3.heap.size + 1 from by simp] at h0; exact h0
   case r1 => exact HBN.out.ext ((Ext.refl _).alloc' _)
   case b1 => simp
   intro A4 c4 w4 ho4 hg4
   have HE4 := Lib.hid (show Ext w3 w4 from Below.grown (((Ext.refl w3).alloc' (.cells (nmc N) 44)).alloc' (.cells #[] 5)) hg4 (by simp; omega) (fun q hq => by simp [Value.ownBlock] at hq; omega))
   have HO4 := Lib.hid (show OwnB w4 (w3.heap.size + 1) 5 A4 8 c4 (nmb N) from by simpa only [Nat.zero_add, List.nil_append] using ho4)
   have HZ4 := Lib.hid (show w3.heap.size + 1 ≤ w4.heap.size from Nat.le_trans (by simp) hg4.size)
   clear ho4 hg4
   have HO5 := Lib.hid (HO3.out.sl.ext HE4.out)
   go_wp2_with (at_builtin; go_must (refine wpList_appBG bytesE rfl (.tmp 29) (.tmp 30) rfl (w3.heap.size + 1) A4 8 c4 (nmb N) rfl HO4.out A2 n2 c2 (encVw L X) rfl HO5.out (by omega) HZ4.out ?_))
   intro A5 c5 w5 hO5 hg5
   have hx5 : Ext w3 w5 := Below.grown HE4.out hg5 HE4.out.size (fun q hq => Nat.le_trans (Nat.le_succ _) (own_lt HO4.out q hq).1)
   have HX5 := Lib.hid (Ext.trans HX3.out hx5)
   have HF := Lib.hid (show OwnB w5 w.heap.size 5 A5 (8 + n2) c5 (encPc L X) from by
    unfold encPc; rw [HNN.out]; exact own_mono hO5 (Nat.le_trans HX3.out.size (Nat.le_succ _)))
   clear hO5 hx5
   go_wp2_with fail
   go_ret2
   exact ⟨.inr ⟨HN.out, A5, 8 + n2, c5, rfl, HF.out, by omega⟩, HX5.out⟩
end Go.Proofs.YtbfepgjeecndiaaGreat

/- The two tests of parcel.Missing: is this vote (this text) in the set? -/
namespace Go.Proofs.YtbfepgjeecndiaaGreat
set_option maxRecDepth 100000
set_option maxHeartbeats 4000000
open Go.RowKit
set_option linter.unusedVariables false
set_option linter.unusedSimpArgs false
attribute [local go_sem ↓] Go.wp_at_zero Go.wp_at_succ
structure SetV (B M n : Nat) (S : List VtR) (w : World) : Prop where
 blk : Blk w B 55 #[.map (some M)]
 map : w.ownsMap Tryz.prog 46 (plainElem Tryz.prog 4) M n (Maps.setOf yesD (S.map vtKl))
structure SetT (B M n : Nat) (S : List (List UInt8)) (w : World) : Prop where
 blk : Blk w B 56 #[.map (some M)]
 map : w.ownsMap Tryz.prog 9 (plainElem Tryz.prog 4) M n (Maps.setOf yesD (S.map teKl))
section
variable {H : Type} {P : Program} {k : TypeId} {R : Value → Option (DataW H × List MemPlace)} {B M n b : Nat} {D : DataW H} {w w' : World}
theorem map_block (h : w.ownsMap P k R b n D) : ∃ es clock, w.heap[b]? = some (.map es clock) := by
 obtain ⟨es, clock, hb, _⟩ := h
 exact ⟨es, clock, hb⟩
theorem map_ext (h : w.ownsMap P k R b n D) (he : Ext w w') : w'.ownsMap P k R b n D := h.kept (Ext.grown he none) (by simp)
theorem map_row (h : w.ownsMap P k R b n D) {g : Nat} (hr : ∃ cur e p, w.heap[g]? = some (.cells cur e p)) (hg : w.grownBy w' (some g)) : w'.ownsMap P k R b n D := h.kept hg (fun e => by
 injection e with e; subst e
 obtain ⟨es, clock, h1⟩ := map_block h
 obtain ⟨cur, e, p, h2⟩ := hr
 rw [h1] at h2; cases h2)
end
section
variable {B M n : Nat} {S : List VtR} {S' : List (List UInt8)} {w w' : World}
theorem SetV.ext (h : SetV B M n S w) (he : Ext w w') : SetV B M n S w' := ⟨h.blk.ext he, map_ext h.map he⟩
theorem SetT.ext (h : SetT B M n S' w) (he : Ext w w') : SetT B M n S' w' := ⟨h.blk.ext he, map_ext h.map he⟩
theorem SetV.row (h : SetV B M n S w) {g : Nat} {e : TypeId} (hr : ∃ cur p, w.heap[g]? = some (.cells cur e p)) (he : e ≠ 55) (hg : w.grownBy w' (some g)) : SetV B M n S w' := by
 obtain ⟨cur, p, h2⟩ := hr
 refine ⟨h.blk.grown hg (fun q => ?_), map_row h.map ⟨cur, e, p, h2⟩ hg⟩
 injection q with q; subst q
 have h1 := h.blk
 unfold Blk at h1
 rw [h2] at h1; injection h1 with h1; injection h1 with _ h1; exact he h1
theorem SetT.row (h : SetT B M n S' w) {g : Nat} {e : TypeId} (hr : ∃ cur p, w.heap[g]? = some (.cells cur e p)) (he : e ≠ 56) (hg : w.grownBy w' (some g)) : SetT B M n S' w' := by
 obtain ⟨cur, p, h2⟩ := hr
 refine ⟨h.blk.grown hg (fun q => ?_), map_row h.map ⟨cur, e, p, h2⟩ hg⟩
 injection q with q; subst q
 have h1 := h.blk
 unfold Blk at h1
 rw [h2] at h1; injection h1 with h1; injection h1 with _ h1; exact he h1
end
theorem zeroBool (w : World) : (zeroValue 4).run Tryz.prog w = .ok (.bool false) w := by kernel_rfl
theorem wpList_loadVtV {o : Oper} {a : Act} {w : World} {ops : Array Oper} {rest : List Oper} {Q : Exit → Act → World → Prop} (hgd : o.guard = none) (x : Operand) (ho : o.op = .load 46 x) (b of : Nat) (hx : a.eval x = .pointer (some ⟨b, of, none⟩)) (R : VtR) (v : Value) (hv : Value.agg (vtA R) = v) (hc : w.rangeAt b of (vtL R))
  (h : wpList Tryz.prog ops Q rest (a.put o.dst v) w) : wpList Tryz.prog ops Q (o :: rest) a w := wpList_loadVt hgd x ho b of hx R hc (by rw [hv]; exact h)
theorem SetV.look {B M n : Nat} {S : List VtR} {w : World} (h : SetV B M n S w) (hS : ∀ x ∈ S, x.wf) (v : VtR) (hv : v.wf) (vv : Value) (hvv : Value.agg (vtA v) = vv) : (Instr.lookup 55 (.map (some M)) vv false).run Tryz.prog w = .ok (.bool (decide (v ∈ S))) w := by
 have := look_set lawVt Tryz.underlying55 Tryz.underlying4 (zeroBool w) h.map (keyOf_vt v hv)
 rw [← hvv, this, any_vt hS hv]
theorem SetT.look {B M n : Nat} {S : List (List UInt8)} {w : World} (h : SetT B M n S w) (l : List UInt8) (hl : l.length ≤ maxLen) (vv : ByteArray) (hvv : strV l = vv) : (Instr.lookup 56 (.map (some M)) (.string vv) false).run Tryz.prog w = .ok (.bool (decide (l ∈ S))) w := by
 have := look_set lawStr Tryz.underlying56 Tryz.underlying4 (zeroBool w) h.map (keyOf_te l hl)
 rw [← hvv]; unfold strV; rw [this, any_te]
theorem miss1_any {B M n : Nat} {S : List VtR} (hS : ∀ x ∈ S, x.wf) (x : SgR) (w : World) (hK : SetV B M n S w) (hx : x.ok w) : Calls Tryz.prog 34 #[.agg (sgA x), .pointer (some ⟨B, 0, none⟩)] w fun e w' => e = .returned (.bool (decide (x.v ∈ S))) ∧ Ext w w' := by
 obtain ⟨W5, hW5⟩ : ∃ W5, w.alloc (.cells (sgA x) 48) = W5 := ⟨_, rfl⟩
 obtain ⟨vv, hvv⟩ : ∃ v, Value.agg (vtA x.v) = v := ⟨_, rfl⟩
 have HVV := Lib.hid hvv
 have HE := Lib.hid (show Ext w W5 from by rw [← hW5]; exact (Ext.refl w).alloc' _)
 have HB := Lib.hid (show Blk W5 w.heap.size 48 (sgA x) from by rw [← hW5]; exact Blk.new _ _ _)
 have HK := Lib.hid (hK.ext HE.out)
 have hc : W5.cell? ⟨B, 0, none⟩ = some (.map (some M)) := HK.out.blk.cell 0
 have hr : W5.rangeAt w.heap.size 0 (vtL x.v) := rangeAt_take (k := 22) (rangeAt_of_blk HB.out)
 have hlk := HK.out.look hS x.v hx.v vv hvv
 obtain ⟨r, hR⟩ : ∃ r, decide (x.v ∈ S) = r := ⟨_, rfl⟩
 rw [hR] at hlk ⊢
 clear hvv hK hx hR
 go_enter Tryz.func34, Tryz.ntmps34
 go_wp2_with (first | (with_reducible refine wpList_loadVtV rfl (.tmp 5) rfl w.heap.size 0 rfl x.v vv HVV.out hr ?_))
 go_ret
 exact ⟨rfl, HE.out⟩
theorem miss2_any {B M n : Nat} {S : List (List UInt8)} (x : TeR) (w : World) (hK : SetT B M n S w) (hx : x.ok w) : Calls Tryz.prog 36 #[.slice x.A x.n x.c, .pointer (some ⟨B, 0, none⟩)] w fun e w' => e = .returned (.bool (decide (x.l ∈ S))) ∧ Ext w w' := by
 have hst := run_strV hx
 have hlen : x.l.length ≤ maxLen := by have := hx.len; have h2 := SlB.le hx; have h3 := SlB.cap hx; simp only [maxLen]; omega
 obtain ⟨vv, hvv⟩ : ∃ v, strV x.l = v := ⟨_, rfl⟩
 have hlk := hK.look x.l hlen vv hvv
 rw [hvv] at hst
 have hc : w.cell? ⟨B, 0, none⟩ = some (.map (some M)) := hK.blk.cell 0
 obtain ⟨r, hR⟩ : ∃ r, decide (x.l ∈ S) = r := ⟨_, rfl⟩
 rw [hR] at hlk ⊢
 clear hvv hK hx hR
 go_enter Tryz.func36, Tryz.ntmps36
 go_wp2_with fail
 go_ret
 exact ⟨rfl, Ext.refl _⟩
theorem miss1_tst (B M n B2 M2 n2 : Nat) (S : List VtR) (S2 : List (List UInt8)) (hS : ∀ x ∈ S, x.wf) : TstSg 34 B (fun x => decide (x.v ∈ S)) (fun W => SetV B M n S W ∧ SetT B2 M2 n2 S2 W) where
 eg := enters_of Tryz.func34 (by kernel_rfl) rfl
 says x W hK hx := miss1_any hS x W hK.1 hx
 ext W W' hK he := ⟨hK.1.ext he, hK.2.ext he⟩
 row W W' g hK hr hg := ⟨hK.1.row hr (by decide) hg, hK.2.row hr (by decide) hg⟩
theorem miss2_tst (B M n B2 M2 n2 : Nat) (S : List VtR) (S2 : List (List UInt8)) : TstTe 36 B2 (fun x => decide (x.l ∈ S2)) (fun W => SetV B M n S W ∧ SetT B2 M2 n2 S2 W) where
 eg := enters_of Tryz.func36 (by kernel_rfl) rfl
 says x W hK hx := miss2_any x W hK.2 hx
 ext W W' hK he := ⟨hK.1.ext he, hK.2.ext he⟩
 row W W' g hK hr hg := ⟨hK.1.row hr (by decide) hg, hK.2.row hr (by decide) hg⟩
end Go.Proofs.YtbfepgjeecndiaaGreat
