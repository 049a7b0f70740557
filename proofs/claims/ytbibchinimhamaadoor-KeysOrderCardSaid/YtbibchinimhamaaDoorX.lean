/- The sign's bit turned is 2^63 added, the rest of 2^64 taken; a byte pushed in from below is times 256 and added. -/
import Derived.Laws.BitsLemmas
import Derived.Laws.BitsAllLaws
import Derived.WalkKit
namespace Go.Proofs.YtbibchinimhamaaDoor

theorem nat_xor_lt (a : Nat) (h : a < 2 ^ 63) : a ^^^ 2 ^ 63 = 2 ^ 63 + a := by
  have h1 : 2 ^ 63 + a = 2 ^ 63 ||| a := by
    have := Nat.two_pow_add_eq_or_of_lt h 1
    simpa using this
  rw [h1]
  apply Nat.eq_of_testBit_eq
  intro i
  rw [Nat.testBit_xor, Nat.testBit_or, Nat.testBit_two_pow]
  by_cases hi : 63 = i
  · subst hi
    rw [Nat.testBit_lt_two_pow h]
    simp
  · simp [hi]
theorem nat_xor_ge (a : Nat) (h : a < 2 ^ 63) : (2 ^ 63 + a) ^^^ 2 ^ 63 = a := by
  rw [← nat_xor_lt a h, Nat.xor_assoc, Nat.xor_self, Nat.xor_zero]

theorem sign_xor (a : Int) (h0 : 0 ≤ a) (h1 : a < 18446744073709551616) : bits .xor .u64 a 9223372036854775808 = (a + 9223372036854775808) % 18446744073709551616 := by
  rw [u64_xor a _ h0 h1 (by omega) (by omega)]
  obtain ⟨n, rfl⟩ := Int.eq_ofNat_of_zero_le h0
  have e : (9223372036854775808 : Int).toNat = 2 ^ 63 := by decide
  have e2 : ((n : Nat) : Int).toNat = n := by omega
  rw [e, e2]
  rcases Nat.lt_or_ge n (2 ^ 63) with h | h
  · rw [nat_xor_lt n h]
    have : (2 : Nat) ^ 63 = 9223372036854775808 := by decide
    omega
  · obtain ⟨m, rfl⟩ : ∃ m, n = 2 ^ 63 + m := ⟨n - 2 ^ 63, by omega⟩
    have : (2 : Nat) ^ 63 = 9223372036854775808 := by decide
    rw [nat_xor_ge m (by omega)]
    omega

theorem byte_in (x y : Int) (hy0 : 0 ≤ y) (hy1 : y ≤ 255) :
    bits .or .u64 (IntKind.u64.wrap (x * 256)) (IntKind.u64.wrap y) = (x * 256) % 18446744073709551616 + y := by
  rw [IntKind.wrap_u64, IntKind.wrap_u64]
  have e : y % 18446744073709551616 = y := by omega
  rw [e]
  have e2 : (2 : Int) ^ 8 = 256 := by decide
  have e3 : (2 : Int) ^ 64 = 18446744073709551616 := by decide
  refine bits_join .u64 64 (by decide) (fun n h0 h1 => by rw [IntKind.wrap_u64]; omega) 8 _ _ (by omega) ?_ (by omega) hy0 (by omega) (by omega)
  rw [e2]
  omega
end Go.Proofs.YtbibchinimhamaaDoor
