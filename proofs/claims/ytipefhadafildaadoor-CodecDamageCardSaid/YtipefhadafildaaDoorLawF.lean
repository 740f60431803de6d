/- What the codec writes it reads (plain laws; this claim's own lemmas). -/
import Derived.Test.YtipefhadafildaaDoorGUnf
namespace Go.Proofs.YtipefhadafildaaDoor.G
open Go.RowKit Go.Proofs.YtipefhadafildaaDoorW.PrintWords Go.Proofs.YtipefhadafildaaDoor.Own
set_option linter.unusedVariables false
theorem uintR_numL (n : Nat) : ∀ (i a : Nat) (more : List Int), n * 128 ^ i < 18446744073709551616 → i ≤ 9 → (0 < i → 0 < n) → uintR (numL n ++ more) i a = (a + n * 128 ^ i, i + (numL n).length, 0) := by
  induction n using Nat.strongRecOn with
  | _ n ih =>
    intro i a more hn hi h0
    by_cases h : n < 128
    · rw [numL_small h]
      simp only [List.singleton_append, uintR, List.length_singleton]
      have h9 : ¬ (((n : Int) = 0 ∧ 0 < i) ∨ (i = 9 ∧ (n : Int) ≠ 1)) := by
        rintro (⟨h1, h2⟩ | ⟨rfl, h2⟩)
        · have := h0 h2; omega
        · have := h0 (by omega)
          simp only [Nat.reducePow] at hn
          omega
      rw [if_neg h9, if_pos (by omega), Int.toNat_natCast, Nat.mod_eq_of_lt h]
    · rw [numL_big h]
      simp only [List.cons_append, uintR, List.length_cons]
      have h9 : ¬ ((((n % 128 + 128 : Nat) : Int) = 0 ∧ 0 < i) ∨ (i = 9 ∧ ((n % 128 + 128 : Nat) : Int) ≠ 1)) := by
        rintro (⟨h1, h2⟩ | ⟨rfl, h2⟩)
        · omega
        · simp only [Nat.reducePow] at hn
          omega
      have hi9 : i ≠ 9 := by
        rintro rfl
        simp only [Nat.reducePow] at hn
        omega
      rw [if_neg h9, if_neg (by omega), Int.toNat_natCast, show (n % 128 + 128) % 128 = n % 128 by omega]
      have hp : 128 ^ (i + 1) = 128 * 128 ^ i := by rw [Nat.pow_succ, Nat.mul_comm]
      have hq : n * 128 ^ i = n % 128 * 128 ^ i + n / 128 * 128 ^ (i + 1) := by
        rw [hp, ← Nat.mul_assoc, ← Nat.add_mul]
        congr 1
        omega
      rw [ih (n / 128) (by omega) (i + 1) _ more (by omega) (by omega) (fun _ => by omega), hq]
      simp only [Prod.mk.injEq, and_true]
      omega
theorem uintN_numL (n : Nat) (more : List Int) (hn : n < 18446744073709551616) : uintN (numL n ++ more) = (n, (numL n).length, 0) := by
  unfold uintN
  rw [uintR_numL n 0 0 more (by simpa using hn) (by omega) (by omega)]
  simp
theorem str_bytes (s : ByteArray) : strOfNums (bytesOf s) = s := by
  cases s with
  | mk d =>
    unfold strOfNums bytesOf
    congr 1
    apply Array.ext'
    simp only [List.map_map]
    conv => rhs; rw [← List.map_id d.toList]
    apply List.map_congr_left
    intro b _
    simp
theorem textL_words (s : ByteArray) (more : List Int) (hs : s.size < 18446744073709551616) : textL ((numL s.size ++ bytesOf s) ++ more) (s.size : Int) = (s, (((numL s.size ++ bytesOf s).length : Nat) : Int), 0) := by
  unfold textL
  have hl : (bytesOf s).length = s.size := bytesOf_length s
  rw [List.append_assoc, uintN_numL _ _ hs]
  simp only
  rw [if_neg (by simp), if_neg (by omega), if_neg (by simp only [List.length_append, hl]; omega)]
  rw [← List.append_assoc, List.take_append_of_le_length (by simp only [List.length_append, hl]; omega), List.take_of_length_le (by simp only [List.length_append, hl]; omega), List.drop_left, str_bytes, List.length_append, hl]
theorem unframeL_frame (l more : List Int) (hl : l.length ≤ 262144) : unframeL (frameL l ++ more) = (l, (((frameL l).length : Nat) : Int), 0) := by
  obtain ⟨q, hq⟩ : ∃ q, q = fourL (sumF (numL l.length ++ l)) := ⟨_, rfl⟩
  have hq4 : q.length = 4 := by rw [hq]; rfl
  unfold unframeL frameL
  rw [← hq]
  have hu : uintN (numL l.length ++ l ++ q ++ more) = (l.length, (numL l.length).length, 0) := by
    rw [List.append_assoc, List.append_assoc]
    exact uintN_numL _ _ (by omega)
  have ht1 : (numL l.length ++ l ++ q ++ more).take ((numL l.length).length + l.length) = numL l.length ++ l := by
    rw [List.append_assoc, ← List.length_append]
    exact List.take_left
  have ht2 : ((numL l.length ++ l ++ q ++ more).take ((numL l.length).length + l.length + 4)).drop ((numL l.length).length + l.length) = q := by
    rw [show (numL l.length).length + l.length + 4 = (numL l.length ++ l ++ q).length by simp only [List.length_append, hq4], List.take_left, ← List.length_append, List.drop_left]
  rw [hu]
  simp only
  rw [ht1, ht2, if_neg (by simp), if_neg (by omega), if_neg (by simp only [List.length_append, hq4]; omega), if_pos hq.symm, List.drop_left]
  simp only [List.length_append, hq4]
end Go.Proofs.YtipefhadafildaaDoor.G
