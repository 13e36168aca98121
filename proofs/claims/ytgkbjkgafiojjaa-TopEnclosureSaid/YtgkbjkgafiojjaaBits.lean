/-
  Bit operations on uint64 as arithmetic: a mask of low bits, an 'or' of parts that share no bit.
-/
import Derived.Laws.Entries
import Derived.WalkKit
namespace Go.Proofs.Ytgkbjkgafiojjaa
set_option linter.unusedVariables false
set_option linter.unusedSimpArgs false
theorem u64_nat (n : Nat) (h : n < 18446744073709551616) : IntKind.u64.wrap (n : Int) = n := by
  rw [IntKind.wrap_u64]; omega
theorem bv_nat {x : Int} (h0 : 0 ≤ x) (h1 : x ≤ 18446744073709551615) : (BitVec.ofInt 64 x).toNat = x.toNat := by
  obtain ⟨n, rfl⟩ := Int.eq_ofNat_of_zero_le h0
  rw [BitVec.toNat_ofInt]
  have : ((n : Int) % ((2 ^ 64 : Nat) : Int)).toNat = n := by
    have e : ((2 ^ 64 : Nat) : Int) = 18446744073709551616 := by decide
    rw [e]; omega
  rw [this]; simp
theorem band {x y : Int} (h0 : 0 ≤ x) (h1 : x ≤ 18446744073709551615) (h2 : 0 ≤ y) (h3 : y ≤ 18446744073709551615) : bits .and .u64 x y = ((x.toNat &&& y.toNat : Nat) : Int) := by
  show IntKind.u64.wrap (((BitVec.ofInt 64 x &&& BitVec.ofInt 64 y).toNat : Nat) : Int) = _
  rw [BitVec.toNat_and, bv_nat h0 h1, bv_nat h2 h3]
  exact u64_nat _ (Nat.lt_of_le_of_lt Nat.and_le_left (by omega))
theorem bor {x y : Int} (h0 : 0 ≤ x) (h1 : x ≤ 18446744073709551615) (h2 : 0 ≤ y) (h3 : y ≤ 18446744073709551615) : bits .or .u64 x y = ((x.toNat ||| y.toNat : Nat) : Int) := by
  show IntKind.u64.wrap (((BitVec.ofInt 64 x ||| BitVec.ofInt 64 y).toNat : Nat) : Int) = _
  rw [BitVec.toNat_or, bv_nat h0 h1, bv_nat h2 h3]
  refine u64_nat _ ?_
  have := @Nat.or_lt_two_pow x.toNat y.toNat 64 (by omega) (by omega)
  omega
/-- The low 32 bits. -/
theorem and_half {x : Int} (h0 : 0 ≤ x) (h1 : x ≤ 18446744073709551615) : bits .and .u64 x 4294967295 = x % 4294967296 := by
  rw [band h0 h1 (by decide) (by decide)]
  have := Nat.and_two_pow_sub_one_eq_mod x.toNat 32
  rw [show ((4294967295 : Int)).toNat = 2 ^ 32 - 1 from rfl, this]
  omega
/-- The lowest bit. -/
theorem and_one {x : Int} (h0 : 0 ≤ x) (h1 : x ≤ 18446744073709551615) : bits .and .u64 x 1 = x % 2 := by
  rw [band h0 h1 (by decide) (by decide)]
  have := Nat.and_two_pow_sub_one_eq_mod x.toNat 1
  rw [show ((1 : Int)).toNat = 2 ^ 1 - 1 from rfl, this]
  omega
/-- Parts that share no bit. -/
theorem or_parts {a b : Int} (i : Nat) (ha : 0 ≤ a) (hb : 0 ≤ b) (hi : b < 2 ^ i) (hm : a * 2 ^ i ≤ 18446744073709551615) (hb2 : b ≤ 18446744073709551615) : bits .or .u64 (a * 2 ^ i) b = a * 2 ^ i + b := by
  obtain ⟨m, rfl⟩ := Int.eq_ofNat_of_zero_le ha
  obtain ⟨n, rfl⟩ := Int.eq_ofNat_of_zero_le hb
  have e : ((m : Int) * 2 ^ i) = ((m * 2 ^ i : Nat) : Int) := by simp
  have hn : n < 2 ^ i := by exact_mod_cast hi
  rw [e] at hm ⊢
  rw [bor (by omega) hm hb hb2, Int.toNat_natCast, Int.toNat_natCast, Nat.mul_comm m, ← Nat.two_pow_add_eq_or_of_lt hn]
  simp
/-- Two halves. -/
theorem or_half {n b : Int} (hn : 0 ≤ n) (hb : 0 ≤ b) (hb2 : b ≤ 4294967295) : bits .or .u64 (IntKind.u64.wrap (n * 4294967296)) b = n % 4294967296 * 4294967296 + b := by
  have e : (2 : Int) ^ 32 = 4294967296 := by decide
  have h := or_parts (a := n % 4294967296) (b := b) 32 (by omega) hb (by rw [e]; omega) (by rw [e]; omega) (by omega)
  rw [e] at h
  rw [← h, IntKind.wrap_u64]
  congr 1
  omega
/-- A doubled word and a bit. -/
theorem or_bit {x b : Int} (h0 : 0 ≤ x) (hb : 0 ≤ b) (hb2 : b ≤ 1) : bits .or .u64 (IntKind.u64.wrap (x * 2)) b = x * 2 % 18446744073709551616 + b := by
  have h := or_parts (a := x % 9223372036854775808) (b := b) 1 (by omega) hb (by omega) (by omega) (by omega)
  have e : (2 : Int) ^ 1 = 2 := by decide
  rw [e] at h
  have e2 : x % 9223372036854775808 * 2 = x * 2 % 18446744073709551616 := by omega
  rw [e2] at h
  rw [← h, IntKind.wrap_u64]
/-- The complement. -/
theorem xor_max {x : Int} (h0 : 0 ≤ x) (h1 : x ≤ 18446744073709551615) : bits .xor .u64 IntKind.u64.max x = 18446744073709551615 - x := by
  show IntKind.u64.wrap (((BitVec.ofInt 64 18446744073709551615 ^^^ BitVec.ofInt 64 x).toNat : Nat) : Int) = _
  have e : BitVec.ofInt 64 18446744073709551615 = BitVec.allOnes 64 := by decide
  rw [e, BitVec.allOnes_xor, BitVec.toNat_not, bv_nat h0 h1]
  have := u64_nat (2 ^ 64 - 1 - x.toNat) (by omega)
  rw [this]
  omega
theorem u64_sg : IntKind.u64.signed = false := rfl
/-- The low six bits of a count. -/
theorem and_63 {n : Nat} (h : n < 128) : bits .and .i64 (n : Int) 63 = ((n % 64 : Nat) : Int) := by
  have e : ∀ m : Fin 128, bits .and .i64 ((m.val : Nat) : Int) 63 = ((m.val % 64 : Nat) : Int) := by decide +kernel
  exact e ⟨n, h⟩
theorem div_word {x : Int} (n : Nat) (h0 : 0 ≤ x) (h1 : x ≤ 18446744073709551615) : 0 ≤ x / 2 ^ n ∧ x / 2 ^ n ≤ 18446744073709551615 :=
  ⟨Int.ediv_nonneg h0 (Int.le_of_lt (Int.pow_pos (by decide))), Int.le_trans (Int.ediv_le_self _ h0) h1⟩
end Go.Proofs.Ytgkbjkgafiojjaa
