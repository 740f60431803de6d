/- Plain functions on lists of bytes: numbers, texts as the codec lays and reads them (this claim's own definitions; no program in sight). -/
import Derived.Test.YtnamanalacjhnaaOwn
import Derived.Laws.BitsAllLaws
namespace Go.Proofs.Ytnamanalacjhnaa.Own
open Go.RowKit Go.Proofs.YtnamanalacjhnaaW.PrintWords Go.Proofs.YtnamanalacjhnaaW.PrintMore
set_option linter.unusedVariables false

def okB (l : List Int) : Bool := l.all fun x => decide (0 ≤ x ∧ x ≤ 255)
theorem okB_iff {l : List Int} : okB l = true ↔ Bytes l := by simp [okB, Bytes, List.all_eq_true]

theorem u64_nat {n : Nat} (h : n < 18446744073709551616) : IntKind.u64.wrap (n : Int) = (n : Int) := by
  simp [IntKind.wrap, IntKind.bits, IntKind.signed]
  omega
/-- A number's bytes. -/
def numL (n : Nat) : List Int := if n < 128 then [(n : Int)] else ((n % 128 + 128 : Nat) : Int) :: numL (n / 128)
termination_by n
decreasing_by omega
theorem numL_small {n : Nat} (h : n < 128) : numL n = [(n : Int)] := by rw [numL, if_pos h]
theorem numL_big {n : Nat} (h : ¬ n < 128) : numL n = ((n % 128 + 128 : Nat) : Int) :: numL (n / 128) := by rw [numL, if_neg h]
theorem numL_bytes (n : Nat) : Bytes (numL n) := by
  induction n using Nat.strongRecOn with
  | _ n ih =>
    by_cases h : n < 128
    · rw [numL_small h]
      intro x hx
      obtain rfl := List.mem_singleton.1 hx
      omega
    · rw [numL_big h]
      intro x hx
      rcases List.mem_cons.1 hx with rfl | hx
      · omega
      · exact ih (n / 128) (by omega) x hx
theorem numL_len (d : Nat) : ∀ n : Nat, n < 128 ^ (d + 1) → (numL n).length ≤ d + 1 := by
  induction d with
  | zero => intro n h; rw [numL_small (by omega)]; simp
  | succ d ih =>
    intro n h
    by_cases h1 : n < 128
    · rw [numL_small h1]; simp
    · rw [numL_big h1]
      have := ih (n / 128) (by rw [Nat.pow_succ] at h; omega)
      simp only [List.length_cons]
      omega
theorem numL_len10 {n : Nat} (h : n < 18446744073709551616) : (numL n).length ≤ 10 := numL_len 9 n (by omega)
theorem numL_pos (n : Nat) : 1 ≤ (numL n).length := by
  by_cases h : n < 128
  · rw [numL_small h]; simp
  · rw [numL_big h]; simp

/-- A number read: from place i on, with what was read so far. -/
def uintR : List Int → Nat → Nat → Nat × Nat × Nat
  | [], _, _ => (0, 0, 20)
  | c :: r, i, a => if (c = 0 ∧ 0 < i) ∨ (i = 9 ∧ c ≠ 1) then (0, 0, 21) else if c < 128 then (a + c.toNat % 128 * 128 ^ i, i + 1, 0) else uintR r (i + 1) (a + c.toNat % 128 * 128 ^ i)
def uintN (l : List Int) : Nat × Nat × Nat := uintR l 0 0
def i3 (x : Nat × Nat × Nat) : Int × Int × Int := ((x.1 : Int), (x.2.1 : Int), (x.2.2 : Int))
def uintL (l : List Int) : Int × Int × Int := i3 (uintN l)

theorem or128 (a : Nat) (h : a < 256) : a ||| 128 = a % 128 + 128 := by
  have h1 : a % 128 ||| 128 = a % 128 + 128 := by
    rw [Nat.or_comm, ← Nat.two_pow_add_eq_or_of_lt (i := 7) (by omega) 1]
    omega
  have h2 : a ||| 128 = (a % 128) ||| 128 := by
    apply Nat.eq_of_testBit_eq
    intro i
    rw [Nat.testBit_or, Nat.testBit_or, show (128 : Nat) = 2 ^ 7 from rfl, Nat.testBit_mod_two_pow, Nat.testBit_two_pow]
    by_cases hi : i < 7
    · simp [hi]
    · by_cases h7 : 7 = i
      · simp [h7]
      · have : a.testBit i = false := Nat.testBit_lt_two_pow (Nat.lt_of_lt_of_le h (show 2 ^ 8 ≤ 2 ^ i from Nat.pow_le_pow_right (by decide) (by omega)))
        simp [this]
  rw [h2, h1]
theorem own_or128 (x : Int) (h : 0 ≤ x) : Go.bits .or .u8 (x % 256) 128 = ((x.toNat % 128 + 128 : Nat) : Int) := by
  obtain ⟨a, rfl⟩ := Int.eq_ofNat_of_zero_le h
  rw [show ((a : Int) % 256) = ((a % 256 : Nat) : Int) by omega, show (128 : Int) = ((128 : Nat) : Int) from rfl, u8_or_nat _ _ (by omega) (by omega), or128 _ (by omega)]
  have : a % 256 % 128 = a % 128 := by omega
  rw [this]
  rfl
theorem uintR_spec (l : List Int) (hl : Bytes l) : ∀ i a, i ≤ 9 → a < 128 ^ i → (uintR l i a).1 < 18446744073709551616 ∧ (uintR l i a).2.1 ≤ l.length + i ∧ (uintR l i a).2.1 ≤ 10 := by
  induction l with
  | nil => intro i a _ _; simp [uintR]
  | cons c r ih =>
    intro i a hi ha
    have hc := hl c (by simp)
    have hp : 128 ^ i ≤ 128 ^ 9 := Nat.pow_le_pow_right (by decide) hi
    have h9 : (128 : Nat) ^ 9 = 9223372036854775808 := by decide
    have h8 : i ≤ 8 → 128 ^ i ≤ 72057594037927936 := fun h => Nat.le_trans (Nat.pow_le_pow_right (by decide) h) (by decide)
    simp only [uintR]
    by_cases hz : c = 0 ∧ 0 < i ∨ i = 9 ∧ c ≠ 1
    · rw [if_pos hz]; simp
    · rw [if_neg hz]
      by_cases h1 : c < 128
      · rw [if_pos h1]
        refine ⟨?_, by simp; omega, by simp; omega⟩
        simp only
        rcases Nat.lt_or_ge i 9 with h | h
        · have h2 : c.toNat % 128 * 128 ^ i ≤ 127 * 72057594037927936 := Nat.mul_le_mul (by omega) (h8 (by omega))
          omega
        · obtain rfl : i = 9 := by omega
          have : c = 1 := by omega
          subst this
          simp
          omega
      · rw [if_neg h1]
        have := ih (fun y hy => hl y (by simp [hy])) (i + 1) (a + c.toNat % 128 * 128 ^ i) (by omega) (by
          rw [Nat.pow_succ]
          have : c.toNat % 128 * 128 ^ i ≤ 127 * 128 ^ i := Nat.mul_le_mul_right _ (by omega)
          omega)
        refine ⟨this.1, by simp; omega, this.2.2⟩
theorem uintN_spec (l : List Int) (hl : Bytes l) : (uintN l).1 < 18446744073709551616 ∧ (uintN l).2.1 ≤ l.length ∧ (uintN l).2.1 ≤ 10 := by
  have := uintR_spec l hl 0 0 (by omega) (by decide)
  simpa [uintN] using this
/-- A text read. -/
def textL (l : List Int) (most : Int) : ByteArray × Int × Int :=
  let u := uintN l
  if ¬ u.2.2 = 0 then ((⟨#[]⟩ : ByteArray), 0, (u.2.2 : Int))
  else if most < 0 ∨ (u.1 : Int) > most then ((⟨#[]⟩ : ByteArray), 0, 22)
  else if u.1 > l.length - u.2.1 then ((⟨#[]⟩ : ByteArray), 0, 20)
  else (strOfNums ((l.take (u.2.1 + u.1)).drop u.2.1), ((u.2.1 + u.1 : Nat) : Int), 0)
theorem own_and127 (x : Int) (h : 0 ≤ x ∧ x ≤ 255) : Go.bits .and .u8 x 127 = ((x.toNat % 128 : Nat) : Int) := by
  obtain ⟨a, rfl⟩ := Int.eq_ofNat_of_zero_le h.1
  rw [show (127 : Int) = ((127 : Nat) : Int) from rfl, u8_and_nat _ _ (by omega) (by omega)]
  have : a &&& 127 = a % 128 := Nat.and_two_pow_sub_one_eq_mod a 7
  rw [this]
  rfl
theorem pow128 (i : Nat) : 128 ^ i = 2 ^ (7 * i) := by rw [show 128 = 2 ^ 7 from rfl, ← Nat.pow_mul]
/-- One more group of seven bits. -/
theorem acc_step (a c i : Nat) (ha : a < 128 ^ i) (hc : c < 128) (hi : i ≤ 8 ∨ i = 9 ∧ c = 1) :
    Go.bits .or .u64 (a : Int) (shl .u64 (c : Int) (7 * (i : Int))) = ((a + c * 128 ^ i : Nat) : Int) ∧ a + c * 128 ^ i < 18446744073709551616 := by
  have hp : 128 ^ i ≤ 128 ^ 9 := Nat.pow_le_pow_right (by decide) (by omega)
  have h9 : (128 : Nat) ^ 9 = 9223372036854775808 := by decide
  have h8 : i ≤ 8 → 128 ^ i ≤ 72057594037927936 := fun h => Nat.le_trans (Nat.pow_le_pow_right (by decide) h) (by decide)
  have hlt : c * 128 ^ i ≤ 9223372036854775808 := by
    rcases hi with h | ⟨rfl, rfl⟩
    · have h1 : c * 128 ^ i ≤ 127 * 72057594037927936 := Nat.mul_le_mul (by omega) (h8 h)
      omega
    · omega
  have hsum : a + c * 128 ^ i < 18446744073709551616 := by omega
  refine ⟨?_, hsum⟩
  have hm : min (7 * (i : Int)).toNat IntKind.u64.bits = 7 * i := by
    have h1 : (7 * (i : Int)).toNat = 7 * i := by omega
    have h2 : IntKind.u64.bits = 64 := rfl
    rw [h1, h2]
    omega
  have hs : shl .u64 (c : Int) (7 * (i : Int)) = ((c * 128 ^ i : Nat) : Int) := by
    unfold shl
    rw [hm, show ((2 : Int) ^ (7 * i)) = ((128 ^ i : Nat) : Int) by rw [pow128]; simp]
    have hw : ∀ n : Nat, n < 18446744073709551616 → IntKind.u64.wrap (n : Int) = (n : Int) := fun n hn => by
      simp [IntKind.wrap, IntKind.bits, IntKind.signed]
      omega
    rw [← Int.natCast_mul]
    exact hw _ (by omega)
  rw [hs, u64_or_nat _ _ (by omega) (by omega)]
  congr 1
  rw [pow128] at ha ⊢
  rw [Nat.mul_comm c, Nat.add_comm a, Nat.two_pow_add_eq_or_of_lt ha, Nat.or_comm]
theorem acc_lt (a c i : Nat) (ha : a < 128 ^ i) (hc : c < 128) : a + c * 128 ^ i < 128 ^ (i + 1) := by
  rw [Nat.pow_succ]
  have : c * 128 ^ i ≤ 127 * 128 ^ i := Nat.mul_le_mul_right _ (by omega)
  omega
end Go.Proofs.Ytnamanalacjhnaa.Own
