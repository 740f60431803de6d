/- The sum by four bits at once is the sum bit by bit (plain numbers; this claim's own lemmas). -/
import Derived.Test.YtnamanalacjhnaaDoorGSum
namespace Go.Proofs.YtnamanalacjhnaaDoor.G
open Go.RowKit Go.Proofs.YtnamanalacjhnaaDoorW.PrintWords Go.Proofs.YtnamanalacjhnaaDoor.Own
set_option linter.unusedVariables false
/-- One bit's step of the sum. -/
def stepN (x : Nat) : Nat := if x % 2 = 1 then x / 2 ^^^ 2197175160 else x / 2
theorem xor_half (a b : Nat) : (a ^^^ b) / 2 = a / 2 ^^^ b / 2 := by
  have := Nat.shiftRight_xor_distrib (a := a) (b := b) (i := 1)
  simpa [Nat.shiftRight_eq_div_pow] using this
theorem xor_odd (a b : Nat) : (a ^^^ b) % 2 = (a % 2) ^^^ (b % 2) := by
  have := Nat.xor_mod_two_pow (a := a) (b := b) (n := 1)
  simpa using this
theorem stepN_xor (a b : Nat) : stepN (a ^^^ b) = stepN a ^^^ stepN b := by
  unfold stepN
  rw [xor_half, xor_odd]
  rcases Nat.mod_two_eq_zero_or_one a with ha | ha <;> rcases Nat.mod_two_eq_zero_or_one b with hb | hb <;> rw [ha, hb] <;> simp
  · rw [Nat.xor_assoc]
  · rw [Nat.xor_assoc, Nat.xor_assoc]
    congr 1
    exact Nat.xor_comm _ _
  · rw [Nat.xor_assoc, ← Nat.xor_assoc 2197175160, Nat.xor_comm 2197175160, Nat.xor_assoc, Nat.xor_self, Nat.xor_zero]
theorem stepN_two (m : Nat) : stepN (2 * m) = m := by
  unfold stepN
  rw [if_neg (by omega)]
  omega
theorem split16 (x : Nat) : x = (16 * (x / 16)) ^^^ (x % 16) := by
  apply Nat.eq_of_testBit_eq
  intro i
  rw [Nat.testBit_xor, show (16 : Nat) = 2 ^ 4 from rfl, Nat.testBit_two_pow_mul, Nat.testBit_mod_two_pow, Nat.testBit_div_two_pow]
  by_cases h : i < 4
  · simp [h, show ¬ 4 ≤ i by omega]
  · simp [h, show 4 ≤ i by omega, show i - 4 + 4 = i by omega]
def step4 (x : Nat) : Nat := stepN (stepN (stepN (stepN x)))
theorem step4_xor (a b : Nat) : step4 (a ^^^ b) = step4 a ^^^ step4 b := by simp only [step4, stepN_xor]
theorem step4_low (i : Nat) (h : i < 16) : (step4 i : Int) = nibs.getD i 0 := by
  have : i = 0 ∨ i = 1 ∨ i = 2 ∨ i = 3 ∨ i = 4 ∨ i = 5 ∨ i = 6 ∨ i = 7 ∨ i = 8 ∨ i = 9 ∨ i = 10 ∨ i = 11 ∨ i = 12 ∨ i = 13 ∨ i = 14 ∨ i = 15 := by omega
  rcases this with rfl | rfl | rfl | rfl | rfl | rfl | rfl | rfl | rfl | rfl | rfl | rfl | rfl | rfl | rfl | rfl <;> decide
theorem step4_eq (x : Nat) (hx : x < 4294967296) : (step4 x : Int) = sum1 (x : Int) := by
  have h1 : step4 x = x / 16 ^^^ step4 (x % 16) := by
    conv => lhs; rw [split16 x, step4_xor]
    congr 1
    unfold step4
    rw [show 16 * (x / 16) = 2 * (2 * (2 * (2 * (x / 16)))) by omega, stepN_two, stepN_two, stepN_two, stepN_two]
  have hU : U32 (x : Int) := ⟨by omega, by omega⟩
  unfold sum1
  rw [and15 hU]
  have h2 := step4_low (x % 16) (by omega)
  have h3 : ((x : Int) % 16).toNat = x % 16 := by omega
  unfold nibv
  rw [h3, ← h2, show ((x : Int) / 16) = ((x / 16 : Nat) : Int) by omega]
  have hr := nibv_range ((x : Int) % 16)
  unfold nibv at hr
  rw [h3, ← h2] at hr
  rw [u32_xor_nat _ _ (by have := hr.2; omega) (by omega), h1, Nat.xor_comm]
end Go.Proofs.YtnamanalacjhnaaDoor.G
