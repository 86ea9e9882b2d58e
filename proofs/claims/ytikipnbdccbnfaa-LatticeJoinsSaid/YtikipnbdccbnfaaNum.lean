/-
  Numbers of 64 bits: the product's two halves, masks (plain laws; no program in sight).
-/
import Derived.Laws.BitsLemmas
import Derived.Test.YtikipnbdccbnfaaWWords
set_option linter.unusedVariables false
set_option linter.unusedSimpArgs false
namespace Go.Proofs.Ytikipnbdccbnfaa
open Go.RowKit

theorem wrap_u64 (n : Int) : IntKind.u64.wrap n = n % 18446744073709551616 := by simp [IntKind.wrap, IntKind.bits, IntKind.signed]
theorem wraps_u64 (n : Int) (h₀ : 0 ≤ n) (h₁ : n < 2 ^ 64) : IntKind.u64.wrap n = n := by rw [wrap_u64]; omega
theorem u64_and32 (x : Int) (h₀ : 0 ≤ x) (h₁ : x < 18446744073709551616) : Go.bits .and .u64 x 4294967295 = x % 4294967296 := bits_mask .u64 64 (by decide) wraps_u64 32 (by decide) x h₀ h₁

theorem mul_partsB (B x1 x0 y1 y0 : Int) : (x1 * B + x0) * (y1 * B + y0) = (x1 * y1) * (B * B) + (x0 * y1 + x1 * y0) * B + x0 * y0 := by
  rw [Int.add_mul, Int.mul_add, Int.mul_add, Int.add_mul]
  simp only [Int.mul_assoc, Int.mul_left_comm, Int.mul_comm, Int.add_assoc, Int.add_left_comm, Int.add_comm]
theorem mul_parts (a b x1 x0 y1 y0 : Int) (ha : a = x1 * 4294967296 + x0) (hb : b = y1 * 4294967296 + y0) : a * b = (x1 * y1) * 18446744073709551616 + (x0 * y1 + x1 * y0) * 4294967296 + x0 * y0 := by
  subst ha hb
  rw [mul_partsB]
  rfl
theorem mul_lt {x y B : Int} (hx : 0 ≤ x) (hxB : x ≤ B) (hy : 0 ≤ y) (hyB : y ≤ B) : 0 ≤ x * y ∧ x * y ≤ B * B :=
  ⟨Int.mul_nonneg hx hy, Int.mul_le_mul hxB hyB hy (by omega)⟩

/-- The upper half of a product, as the library reckons it. -/
theorem mul64_hi (a b : Int) (ha : 0 ≤ a) (ha2 : a < 18446744073709551616) (hb : 0 ≤ b) (hb2 : b < 18446744073709551616) :
    IntKind.u64.wrap ((IntKind.u64.wrap ((IntKind.u64.wrap ((a / 4294967296) * (b / 4294967296))) + ((IntKind.u64.wrap ((IntKind.u64.wrap ((a / 4294967296) * (Go.bits .and .u64 b 4294967295))) + ((IntKind.u64.wrap ((Go.bits .and .u64 a 4294967295) * (Go.bits .and .u64 b 4294967295))) / 4294967296))) / 4294967296))) + ((IntKind.u64.wrap ((Go.bits .and .u64 (IntKind.u64.wrap ((IntKind.u64.wrap ((a / 4294967296) * (Go.bits .and .u64 b 4294967295))) + ((IntKind.u64.wrap ((Go.bits .and .u64 a 4294967295) * (Go.bits .and .u64 b 4294967295))) / 4294967296))) 4294967295) + (IntKind.u64.wrap ((Go.bits .and .u64 a 4294967295) * (b / 4294967296))))) / 4294967296)) = a * b / 18446744073709551616 := by
  rw [u64_and32 a ha ha2, u64_and32 b hb hb2]
  obtain ⟨x1, hx1⟩ : ∃ x, x = a / 4294967296 := ⟨_, rfl⟩
  obtain ⟨x0, hx0⟩ : ∃ x, x = a % 4294967296 := ⟨_, rfl⟩
  obtain ⟨y1, hy1⟩ : ∃ x, x = b / 4294967296 := ⟨_, rfl⟩
  obtain ⟨y0, hy0⟩ : ∃ x, x = b % 4294967296 := ⟨_, rfl⟩
  have hab := mul_parts a b x1 x0 y1 y0 (by omega) (by omega)
  have p11 := mul_lt (x := x1) (y := y1) (B := 4294967295) (by omega) (by omega) (by omega) (by omega)
  have p10 := mul_lt (x := x1) (y := y0) (B := 4294967295) (by omega) (by omega) (by omega) (by omega)
  have p01 := mul_lt (x := x0) (y := y1) (B := 4294967295) (by omega) (by omega) (by omega) (by omega)
  have p00 := mul_lt (x := x0) (y := y0) (B := 4294967295) (by omega) (by omega) (by omega) (by omega)
  rw [← hx1, ← hx0, ← hy1, ← hy0, hab]
  generalize x1 * y1 = q11 at *
  generalize x1 * y0 = q10 at *
  generalize x0 * y1 = q01 at *
  generalize x0 * y0 = q00 at *
  simp only [show (4294967295 : Int) * 4294967295 = 18446744065119617025 by decide] at p11 p10 p01 p00
  have e00 : IntKind.u64.wrap q00 = q00 := by rw [wrap_u64]; omega
  have e10 : IntKind.u64.wrap q10 = q10 := by rw [wrap_u64]; omega
  have e01 : IntKind.u64.wrap q01 = q01 := by rw [wrap_u64]; omega
  have e11 : IntKind.u64.wrap q11 = q11 := by rw [wrap_u64]; omega
  rw [e00, e10, e01, e11]
  have et : IntKind.u64.wrap (q10 + q00 / 4294967296) = q10 + q00 / 4294967296 := by rw [wrap_u64]; omega
  rw [et]
  generalize ht : q10 + q00 / 4294967296 = t
  rw [u64_and32 t (by omega) (by omega)]
  have ew : IntKind.u64.wrap (t % 4294967296 + q01) = t % 4294967296 + q01 := by rw [wrap_u64]; omega
  rw [ew]
  generalize hw : (t % 4294967296 + q01) / 4294967296 = v
  rw [wrap_u64, wrap_u64]
  omega
theorem mul64_lo (a b : Int) : IntKind.u64.wrap (a * b) = a * b % 18446744073709551616 := wrap_u64 _
end Go.Proofs.Ytikipnbdccbnfaa
