/- One bit of a list of bytes turned (plain laws; this claim's own lemmas). -/
import Derived.Test.YtipefhadafildaaDoorLawD
namespace Go.Proofs.YtipefhadafildaaDoor.G
open Go.RowKit Go.Proofs.YtipefhadafildaaDoorW.PrintWords Go.Proofs.YtipefhadafildaaDoor.Own
set_option linter.unusedVariables false
theorem bit_of (x r : Nat) : x / 2 ^ r % 2 = (x.testBit r).toNat := (Nat.toNat_testBit x r).symm
theorem bit_flip (c b r : Nat) : (c ^^^ 2 ^ b) / 2 ^ r % 2 = c / 2 ^ r % 2 ^^^ (if r = b then 1 else 0) := by
  rw [bit_of, bit_of, Nat.testBit_xor, Nat.testBit_two_pow]
  by_cases h : b = r
  · subst h
    cases c.testBit b <;> simp
  · rw [if_neg (fun e => h e.symm)]
    cases c.testBit r <;> simp [h]
theorem rd_set (l : List Int) (i j : Nat) (x : Int) (hi : i < l.length) : rd (l.set i x) (j : Int) = if j = i then x else rd l (j : Int) := by
  simp only [rd, Int.toNat_natCast, List.getD_eq_getElem?_getD, List.getElem?_set]
  by_cases h : j = i
  · subst h
    simp [hi]
  · rw [if_neg (fun e => h e.symm), if_neg h]
theorem bitAt_flip (l : List Int) (hl : Bytes l) (p q : Nat) (hp : p / 8 < l.length) : bitAt (l.set (p / 8) (bits .xor .u8 (rd l ((p / 8 : Nat) : Int)) ((2 ^ (p % 8) : Nat) : Int))) q = bitAt l q ^^^ (if q = p then 1 else 0) := by
  unfold bitAt
  rw [rd_set _ _ _ _ hp]
  obtain ⟨c, hc⟩ := Int.eq_ofNat_of_zero_le (bytes_rd hl (p / 8) hp).1
  have hc2 := (bytes_rd hl (p / 8) hp).2
  have h2 : 2 ^ (p % 8) < 2 ^ 8 := Nat.pow_lt_pow_right (by omega) (by omega)
  by_cases h : q / 8 = p / 8
  · rw [if_pos h, h, hc, u8_xor_nat _ _ (by omega) (by omega), Int.toNat_natCast, Int.toNat_natCast, bit_flip]
    congr 1
    by_cases e : q = p
    · subst e; simp
    · rw [if_neg e, if_neg (by omega)]
  · rw [if_neg h, if_neg (by intro e; subst e; exact h rfl), Nat.xor_zero]
theorem flip_bytes {l : List Int} (hl : Bytes l) (p : Nat) (hp : p / 8 < l.length) : Bytes (l.set (p / 8) (bits .xor .u8 (rd l ((p / 8 : Nat) : Int)) ((2 ^ (p % 8) : Nat) : Int))) := fun y hy => by
  rcases List.mem_or_eq_of_mem_set hy with h1 | rfl
  · exact hl y h1
  · obtain ⟨c, hc⟩ := Int.eq_ofNat_of_zero_le (bytes_rd hl (p / 8) hp).1
    have hc2 := (bytes_rd hl (p / 8) hp).2
    have h2 : 2 ^ (p % 8) < 2 ^ 8 := Nat.pow_lt_pow_right (by omega) (by omega)
    rw [hc, u8_xor_nat _ _ (by omega) (by omega)]
    have := Nat.xor_lt_two_pow (x := c) (y := 2 ^ (p % 8)) (n := 8) (by omega) h2
    constructor <;> omega
/-- The turned bits, below number j of the span. -/
def dm (P0 T j q : Nat) : Nat := if P0 ≤ q ∧ q < P0 + j then T / 2 ^ (q - P0) % 2 else 0
theorem dm_step (P0 T j q : Nat) : dm P0 T (j + 1) q = dm P0 T j q ^^^ (if q = P0 + j then T / 2 ^ j % 2 else 0) := by
  unfold dm
  by_cases h : q = P0 + j
  · subst h
    rw [if_pos ⟨by omega, by omega⟩, if_neg (by omega), if_pos rfl, Nat.zero_xor, show P0 + j - P0 = j by omega]
  · rw [if_neg h, Nat.xor_zero]
    by_cases h2 : P0 ≤ q ∧ q < P0 + j
    · rw [if_pos h2, if_pos ⟨by omega, by omega⟩]
    · rw [if_neg h2, if_neg (by omega)]
theorem low_step (T j : Nat) : (T % 2 ^ (j + 1) ≠ 0) ↔ (T % 2 ^ j ≠ 0 ∨ T / 2 ^ j % 2 = 1) := by
  have h1 : T % 2 ^ (j + 1) = T % 2 ^ j + 2 ^ j * (T / 2 ^ j % 2) := by rw [Nat.pow_succ, Nat.mod_mul]
  have hp : 0 < 2 ^ j := Nat.two_pow_pos j
  rcases Nat.mod_two_eq_zero_or_one (T / 2 ^ j) with e | e <;> rw [h1, e]
  · simp
  · simp only [Nat.mul_one, or_true, iff_true]
    omega
end Go.Proofs.YtipefhadafildaaDoor.G
