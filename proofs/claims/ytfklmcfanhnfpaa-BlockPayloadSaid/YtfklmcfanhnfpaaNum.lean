/- Plain facts on lists of bytes and numbers. -/
import Derived.Test.YtfklmcfanhnfpaaBase
namespace Go.Proofs.Ytfklmcfanhnfpaa
open Go.RowKit
set_option linter.unusedVariables false
set_option linter.unusedSimpArgs false

/-- the number that bytes stand for, the highest first -/
def beNat : List UInt8 → Nat
  | [] => 0
  | c :: r => c.toNat * 256 ^ r.length + beNat r
theorem beNat_append (a b : List UInt8) : beNat (a ++ b) = beNat a * 256 ^ b.length + beNat b := by
  induction a with
  | nil => simp [beNat]
  | cons c r ih => simp [beNat, ih, Nat.pow_add, Nat.add_mul, Nat.mul_assoc, Nat.add_assoc]
theorem beNat_snoc (a : List UInt8) (c : UInt8) : beNat (a ++ [c]) = beNat a * 256 + c.toNat := by
  rw [beNat_append]; simp [beNat]
theorem beNat_lt (l : List UInt8) : beNat l < 256 ^ l.length := by
  induction l with
  | nil => simp [beNat]
  | cons c r ih =>
    have hc : c.toNat < 256 := c.toNat_lt
    simp only [beNat, List.length_cons, Nat.pow_succ]
    have : c.toNat * 256 ^ r.length + 256 ^ r.length ≤ 256 ^ r.length * 256 := by
      have := Nat.mul_le_mul_right (256 ^ r.length) (Nat.succ_le_of_lt hc)
      rw [Nat.succ_mul] at this; rw [Nat.mul_comm (256 ^ r.length) 256]; exact this
    omega
theorem beNat_zeros (n : Nat) : beNat (List.replicate n 0) = 0 := by
  induction n with
  | zero => rfl
  | succ n ih => simp [List.replicate_succ, beNat, ih]
/-- the lowest 'k' bytes of a number, the highest first -/
def beBytes : Nat → Nat → List UInt8
  | 0, _ => []
  | k + 1, n => beBytes k (n / 256) ++ [UInt8.ofNat (n % 256)]
theorem beBytes_length (k n : Nat) : (beBytes k n).length = k := by
  induction k generalizing n with
  | zero => rfl
  | succ k ih => simp [beBytes, ih]
theorem beNat_beBytes (k n : Nat) : beNat (beBytes k n) = n % 256 ^ k := by
  induction k generalizing n with
  | zero => simp [beBytes, beNat, Nat.mod_one]
  | succ k ih =>
    rw [beBytes, beNat_snoc, ih]
    have h1 : (UInt8.ofNat (n % 256)).toNat = n % 256 := by simp
    have h2 : (n / 256) % 256 ^ k * 256 + n % 256 = n % 256 ^ (k + 1) := by
      rw [Nat.pow_succ, Nat.mul_comm (256 ^ k) 256, Nat.mod_mul]; omega
    rw [h1, h2]
theorem beBytes_beNat (l : List UInt8) : beBytes l.length (beNat l) = l := by
  generalize hn : l.length = n
  induction n generalizing l with
  | zero => rw [List.eq_nil_of_length_eq_zero hn]; rfl
  | succ n ih =>
    rcases List.eq_nil_or_concat l with rfl | ⟨a, c, rfl⟩
    · simp at hn
    · simp only [List.concat_eq_append] at *
      have hl : a.length = n := by simpa using hn
      have hc : c.toNat < 256 := c.toNat_lt
      rw [beNat_snoc, beBytes]
      have h1 : (beNat a * 256 + c.toNat) / 256 = beNat a := by omega
      have h2 : (beNat a * 256 + c.toNat) % 256 = c.toNat := by omega
      rw [h1, h2, ih a hl]; simp
theorem beNat_inj {a b : List UInt8} (hl : a.length = b.length) (h : beNat a = beNat b) : a = b := by
  rw [← beBytes_beNat a, ← beBytes_beNat b, hl, h]

/-! a byte as a wider number -/
@[go_sem] theorem wrap_byte_u64 (c : UInt8) : IntKind.u64.wrap (c.toNat : Int) = (c.toNat : Int) := by
  have := c.toNat_lt; rw [IntKind.wrap_u64]; omega
@[go_sem] theorem wrap_byte_i64 (c : UInt8) : IntKind.i64.wrap (c.toNat : Int) = (c.toNat : Int) := by
  have := c.toNat_lt; rw [IntKind.wrap_i64]; omega
/-! or, where the bits lie apart -/
theorem or_apart (a b k : Nat) (hb : b < 2 ^ k) : a * 2 ^ k ||| b = a * 2 ^ k + b := by
  rw [Nat.mul_comm, Nat.two_pow_add_eq_or_of_lt hb]

/-! names: eight bytes, as a number of 64 bits -/
def nmb (n : UInt64) : List UInt8 := beBytes 8 n.toNat
theorem nmb_length (n : UInt64) : (nmb n).length = 8 := beBytes_length _ _
theorem beNat_nmb (n : UInt64) : beNat (nmb n) = n.toNat := by
  unfold nmb; rw [beNat_beBytes]; exact Nat.mod_eq_of_lt n.toNat_lt
def ofNm (l : List UInt8) : UInt64 := UInt64.ofNat (beNat l)
theorem ofNm_nmb (n : UInt64) : ofNm (nmb n) = n := by unfold ofNm; rw [beNat_nmb]; simp
theorem nmb_ofNm (l : List UInt8) (h : l.length = 8) : nmb (ofNm l) = l := by
  unfold nmb ofNm
  have hlt := beNat_lt l
  rw [h] at hlt
  rw [UInt64.toNat_ofNat_of_lt' (by simpa [UInt64.size] using hlt), ← h, beBytes_beNat]
theorem nmb_inj {a b : UInt64} (h : nmb a = nmb b) : a = b := by rw [← ofNm_nmb a, h, ofNm_nmb]

/-! bytes as cells -/
def bv (c : UInt8) : Value := .int .u8 (c.toNat : Int)
def bcs (l : List UInt8) : List Value := l.map bv
theorem bcs_length (l : List UInt8) : (bcs l).length = l.length := by simp [bcs]
theorem bcs_append (a b : List UInt8) : bcs (a ++ b) = bcs a ++ bcs b := by simp [bcs]
theorem bcs_one (l : List UInt8) : ∀ u ∈ bcs l, u.oneCell' = true := by
  intro u hu; simp only [bcs, List.mem_map] at hu; obtain ⟨c, _, rfl⟩ := hu; rfl
theorem bcs_inj {a b : List UInt8} (h : bcs a = bcs b) : a = b := by
  induction a generalizing b with
  | nil => cases b with | nil => rfl | cons _ _ => simp [bcs] at h
  | cons c r ih =>
    cases b with
    | nil => simp [bcs] at h
    | cons d s =>
      simp only [bcs, List.map_cons, List.cons.injEq, bv, Value.int.injEq, true_and] at h
      obtain ⟨h1, h2⟩ := h
      rw [ih (b := s) h2, show c = d from UInt8.toNat_inj.1 (by omega)]
/-- a name's cells -/
def nmc (n : UInt64) : Array Value := (bcs (nmb n)).toArray
theorem nmc_size (n : UInt64) : (nmc n).size = 8 := by simp [nmc, bcs_length, nmb_length]
theorem nmc_toList (n : UInt64) : (nmc n).toList = bcs (nmb n) := by simp [nmc]
theorem nmc_one (n : UInt64) : (nmc n).all (·.oneCell') = true := all_oneCell_toArray (bcs_one _)
theorem nmc_inj {a b : UInt64} (h : nmc a = nmc b) : a = b := by
  have := congrArg Array.toList h
  rw [nmc_toList, nmc_toList] at this
  exact nmb_inj (bcs_inj this)
theorem nmc_eq (n : UInt64) : nmc n = #[.int .u8 (un n / 72057594037927936 % 256), .int .u8 (un n / 281474976710656 % 256), .int .u8 (un n / 1099511627776 % 256), .int .u8 (un n / 4294967296 % 256), .int .u8 (un n / 16777216 % 256), .int .u8 (un n / 65536 % 256), .int .u8 (un n / 256 % 256), .int .u8 (un n % 256)] := by
  have key : ∀ m : Nat, ((m % 256 : Nat) : Int) = (m : Int) % 256 := fun m => by omega
  simp only [nmc, nmb, beBytes, bcs, List.nil_append, List.cons_append, List.map_cons, List.map_nil, bv, un, UInt8.toNat_ofNat', Nat.reducePow, Nat.mod_mod, key, Nat.div_div_eq_div_mul, Nat.reduceMul]
  simp only [Int.natCast_ediv]
  rfl
/-- every eight bytes are a name -/
theorem nmc_of (l : List UInt8) (h : l.length = 8) : (bcs l).toArray = nmc (ofNm l) := by unfold nmc; rw [nmb_ofNm l h]

/-- the number of the first eight bytes, zeros behind them -/
def wordN (l : List UInt8) : Nat := beNat ((l ++ List.replicate 8 0).take 8)
theorem wordN_lt (l : List UInt8) : wordN l < 18446744073709551616 := by
  have := beNat_lt ((l ++ List.replicate 8 0).take 8)
  have h : ((l ++ List.replicate 8 0).take 8).length = 8 := by simp
  rw [h] at this; exact this
def wordU (l : List UInt8) : UInt64 := UInt64.ofNat (wordN l)
theorem un_wordU (l : List UInt8) : un (wordU l) = wordN l := by
  unfold un wordU; rw [UInt64.toNat_ofNat_of_lt' (by simpa [UInt64.size] using wordN_lt l)]
theorem wordN_short (l : List UInt8) (h : l.length ≤ 8) : wordN l = beNat l * 256 ^ (8 - l.length) := by
  unfold wordN
  rw [List.take_append, List.take_of_length_le h, List.take_replicate, beNat_append, beNat_zeros]
  simp
theorem wordN_long (l : List UInt8) (h : 8 ≤ l.length) : wordN l = beNat (l.take 8) := by
  unfold wordN; rw [List.take_append_of_le_length h]
/-! a byte shifted and laid beside what stands above it -/
theorem or_at (a k : Nat) (c : UInt8) (hk : k ≤ 56) (ha : a * 2 ^ (k + 8) + c.toNat * 2 ^ k < 18446744073709551616) :
    bits .or .u64 ((a * 2 ^ (k + 8) : Nat) : Int) (IntKind.u64.wrap ((c.toNat : Int) * ((2 ^ k : Nat) : Int))) = ((a * 2 ^ (k + 8) + c.toNat * 2 ^ k : Nat) : Int) := by
  have hc : c.toNat < 256 := c.toNat_lt
  have e : IntKind.u64.wrap ((c.toNat : Int) * ((2 ^ k : Nat) : Int)) = ((c.toNat * 2 ^ k : Nat) : Int) := by
    rw [IntKind.wrap_u64, ← Int.natCast_mul]; omega
  have hlt : c.toNat * 2 ^ k < 2 ^ (k + 8) := by
    rw [Nat.pow_add, Nat.mul_comm (2 ^ k)]; exact Nat.mul_lt_mul_of_pos_right hc (Nat.two_pow_pos k)
  rw [e, u64_or_nat _ _ (by omega) (by omega), or_apart _ _ _ hlt]
theorem shift_step (a c m : Nat) : a * 2 ^ (m + 8) + c * 2 ^ m = (a * 256 + c) * 2 ^ m := by
  rw [Nat.pow_add, Nat.add_mul, Nat.mul_assoc, Nat.mul_comm (2 ^ m) (2 ^ 8)]
/-- the expression by which both texts read eight bytes -/
def word8 (c0 c1 c2 c3 c4 c5 c6 c7 : UInt8) : Int :=
  bits .or .u64 (bits .or .u64 (bits .or .u64 (bits .or .u64 (bits .or .u64 (bits .or .u64 (bits .or .u64
    (IntKind.u64.wrap ((c0.toNat : Int) * 72057594037927936)) (IntKind.u64.wrap ((c1.toNat : Int) * 281474976710656)))
    (IntKind.u64.wrap ((c2.toNat : Int) * 1099511627776))) (IntKind.u64.wrap ((c3.toNat : Int) * 4294967296)))
    (IntKind.u64.wrap ((c4.toNat : Int) * 16777216))) (IntKind.u64.wrap ((c5.toNat : Int) * 65536)))
    (IntKind.u64.wrap ((c6.toNat : Int) * 256))) (c7.toNat : Int)
theorem word8_eq (c0 c1 c2 c3 c4 c5 c6 c7 : UInt8) : word8 c0 c1 c2 c3 c4 c5 c6 c7 = (beNat [c0, c1, c2, c3, c4, c5, c6, c7] : Int) := by
  have h0 := c0.toNat_lt; have h1 := c1.toNat_lt; have h2 := c2.toNat_lt; have h3 := c3.toNat_lt
  have h4 := c4.toNat_lt; have h5 := c5.toNat_lt; have h6 := c6.toNat_lt; have h7 := c7.toNat_lt
  have e0 : IntKind.u64.wrap ((c0.toNat : Int) * 72057594037927936) = ((c0.toNat * 2 ^ (48 + 8) : Nat) : Int) := by rw [IntKind.wrap_u64]; omega
  have e1 := or_at c0.toNat 48 c1 (by omega) (by omega)
  have e2 := or_at (c0.toNat * 256 + c1.toNat) 40 c2 (by omega) (by omega)
  have e3 := or_at ((c0.toNat * 256 + c1.toNat) * 256 + c2.toNat) 32 c3 (by omega) (by omega)
  have e4 := or_at (((c0.toNat * 256 + c1.toNat) * 256 + c2.toNat) * 256 + c3.toNat) 24 c4 (by omega) (by omega)
  have e5 := or_at ((((c0.toNat * 256 + c1.toNat) * 256 + c2.toNat) * 256 + c3.toNat) * 256 + c4.toNat) 16 c5 (by omega) (by omega)
  have e6 := or_at (((((c0.toNat * 256 + c1.toNat) * 256 + c2.toNat) * 256 + c3.toNat) * 256 + c4.toNat) * 256 + c5.toNat) 8 c6 (by omega) (by omega)
  have e7 := or_at ((((((c0.toNat * 256 + c1.toNat) * 256 + c2.toNat) * 256 + c3.toNat) * 256 + c4.toNat) * 256 + c5.toNat) * 256 + c6.toNat) 0 c7 (by omega) (by omega)
  have w7 : IntKind.u64.wrap ((c7.toNat : Int) * ((2 ^ 0 : Nat) : Int)) = (c7.toNat : Int) := by rw [IntKind.wrap_u64]; omega
  rw [w7] at e7
  have s1 := shift_step c0.toNat c1.toNat 48
  have s2 := shift_step (c0.toNat * 256 + c1.toNat) c2.toNat 40
  have s3 := shift_step ((c0.toNat * 256 + c1.toNat) * 256 + c2.toNat) c3.toNat 32
  have s4 := shift_step (((c0.toNat * 256 + c1.toNat) * 256 + c2.toNat) * 256 + c3.toNat) c4.toNat 24
  have s5 := shift_step ((((c0.toNat * 256 + c1.toNat) * 256 + c2.toNat) * 256 + c3.toNat) * 256 + c4.toNat) c5.toNat 16
  have s6 := shift_step (((((c0.toNat * 256 + c1.toNat) * 256 + c2.toNat) * 256 + c3.toNat) * 256 + c4.toNat) * 256 + c5.toNat) c6.toNat 8
  rw [s1] at e1; rw [s2] at e2; rw [s3] at e3; rw [s4] at e4; rw [s5] at e5; rw [s6] at e6
  unfold word8
  rw [e0]
  refine Eq.trans (congrArg (fun z => bits .or .u64 (bits .or .u64 (bits .or .u64 (bits .or .u64 (bits .or .u64 (bits .or .u64 z _) _) _) _) _) _) e1) ?_
  refine Eq.trans (congrArg (fun z => bits .or .u64 (bits .or .u64 (bits .or .u64 (bits .or .u64 (bits .or .u64 z _) _) _) _) _) e2) ?_
  refine Eq.trans (congrArg (fun z => bits .or .u64 (bits .or .u64 (bits .or .u64 (bits .or .u64 z _) _) _) _) e3) ?_
  refine Eq.trans (congrArg (fun z => bits .or .u64 (bits .or .u64 (bits .or .u64 z _) _) _) e4) ?_
  refine Eq.trans (congrArg (fun z => bits .or .u64 (bits .or .u64 z _) _) e5) ?_
  refine Eq.trans (congrArg (fun z => bits .or .u64 z _) e6) ?_
  refine e7.trans ?_
  simp only [beNat, List.length_cons, List.length_nil]
  omega
end Go.Proofs.Ytfklmcfanhnfpaa
