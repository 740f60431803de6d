/- What the codec reads is written as the bytes that were read; a beginning is no thing (plain laws; this claim's own lemmas). -/
import Derived.Test.YtipefhadafildaaDoorLawF
namespace Go.Proofs.YtipefhadafildaaDoor.G
open Go.RowKit Go.Proofs.YtipefhadafildaaDoorW.PrintWords Go.Proofs.YtipefhadafildaaDoor.Own
set_option linter.unusedVariables false
theorem uintR_back (l : List Int) (hl : Bytes l) : ∀ (i a v j : Nat), i ≤ 9 → uintR l i a = (v, j, 0) → ∃ n, v = a + n * 128 ^ i ∧ numL n = l.take (j - i) ∧ i < j ∧ j - i ≤ l.length ∧ (0 < i → 0 < n) := by
  induction l with
  | nil =>
    intro i a v j hi h
    simp [uintR] at h
  | cons c r ih =>
    intro i a v j hi h
    have hc := hl c (by simp)
    simp only [uintR] at h
    by_cases h1 : (c = 0 ∧ 0 < i) ∨ (i = 9 ∧ c ≠ 1)
    · rw [if_pos h1] at h
      simp at h
    · rw [if_neg h1] at h
      by_cases h2 : c < 128
      · rw [if_pos h2] at h
        simp only [Prod.mk.injEq, and_true] at h
        obtain ⟨h3, rfl⟩ := h
        rw [show c.toNat % 128 = c.toNat by omega] at h3
        refine ⟨c.toNat, h3.symm, ?_, by omega, by simp, fun h0 => ?_⟩
        · rw [numL_small (by omega), show i + 1 - i = 1 by omega]
          simp only [List.take_succ_cons, List.take_zero]
          congr 1
          omega
        · have : c ≠ 0 := fun hc0 => h1 (.inl ⟨hc0, h0⟩)
          omega
      · rw [if_neg h2] at h
        have hi9 : i ≠ 9 := by
          rintro rfl
          exact h1 (.inr ⟨rfl, by omega⟩)
        obtain ⟨n, e1, e2, e3, e4, e5⟩ := ih (fun y hy => hl y (by simp [hy])) (i + 1) _ v j (by omega) h
        have hn := e5 (by omega)
        refine ⟨c.toNat % 128 + 128 * n, ?_, ?_, by omega, by simp only [List.length_cons]; omega, fun _ => by omega⟩
        · rw [e1, Nat.pow_succ, Nat.add_mul, Nat.mul_comm (128 ^ i) 128, ← Nat.mul_assoc, Nat.mul_comm n 128]
          omega
        · rw [numL_big (by omega), show (c.toNat % 128 + 128 * n) / 128 = n by omega, e2, show (c.toNat % 128 + 128 * n) % 128 = c.toNat % 128 by omega, show j - i = (j - (i + 1)) + 1 by omega, List.take_succ_cons]
          congr 1
          omega
theorem uintR_cut (l : List Int) : ∀ (i a v j t : Nat), uintR l i a = (v, j, 0) → t < j - i → (uintR (l.take t) i a).2.2 ≠ 0 := by
  induction l with
  | nil =>
    intro i a v j t h
    simp [uintR] at h
  | cons c r ih =>
    intro i a v j t h ht
    cases t with
    | zero => simp [uintR]
    | succ t =>
      simp only [List.take_succ_cons, uintR] at h ⊢
      by_cases h1 : (c = 0 ∧ 0 < i) ∨ (i = 9 ∧ c ≠ 1)
      · rw [if_pos h1]
        simp
      · rw [if_neg h1] at h ⊢
        by_cases h2 : c < 128
        · rw [if_pos h2] at h
          simp only [Prod.mk.injEq, and_true] at h
          omega
        · rw [if_neg h2] at h ⊢
          exact ih (i + 1) _ v j t h (by omega)
theorem uintN_back {l : List Int} (hl : Bytes l) {n k : Nat} (h : uintN l = (n, k, 0)) : numL n = l.take k ∧ 1 ≤ k ∧ k ≤ l.length ∧ n < 18446744073709551616 := by
  obtain ⟨m, e1, e2, e3, e4, _⟩ := uintR_back l hl 0 0 n k (by omega) h
  have hs := (uintN_spec l hl).1
  rw [h] at hs
  obtain rfl : n = m := by simpa using e1
  exact ⟨by simpa using e2, by omega, by omega, hs⟩
theorem uintN_cut {l : List Int} {n k t : Nat} (h : uintN l = (n, k, 0)) (ht : t < k) : (uintN (l.take t)).2.2 ≠ 0 := uintR_cut l 0 0 n k t h (by omega)
theorem uintN_more {l : List Int} (hl : Bytes l) {n k t : Nat} (h : uintN l = (n, k, 0)) (ht : k ≤ t) : uintN (l.take t) = (n, k, 0) := by
  obtain ⟨h1, h2, h3, h4⟩ := uintN_back hl h
  have hk : (numL n).length = k := by rw [h1, List.length_take]; omega
  have hq : l.take t = numL n ++ (l.take t).drop k := by
    rw [h1]
    conv => lhs; rw [← List.take_append_drop k (l.take t)]
    rw [List.take_take, Nat.min_eq_left ht]
  rw [hq, uintN_numL n _ h4, hk]
theorem bytes_take {l : List Int} (hl : Bytes l) (t : Nat) : Bytes (l.take t) := fun y hy => hl y (List.mem_of_mem_take hy)
theorem bytes_drop {l : List Int} (hl : Bytes l) (t : Nat) : Bytes (l.drop t) := fun y hy => hl y (List.mem_of_mem_drop hy)
theorem bytesOf_str {l : List Int} (hl : Bytes l) : bytesOf (strOfNums l) = l := by
  unfold bytesOf
  rw [strOfNums_data, List.map_map]
  conv => rhs; rw [← List.map_id l]
  apply List.map_congr_left
  intro y hy
  have := hl y hy
  simp only [Function.comp_apply, UInt8.toNat_ofNat', id_eq]
  omega
theorem take_two (l : List Int) (a b : Nat) : l.take a ++ (l.take (a + b)).drop a = l.take (a + b) := by
  conv => rhs; rw [← List.take_append_drop a (l.take (a + b))]
  rw [List.take_take, Nat.min_eq_left (by omega)]
theorem textL_back {l : List Int} (hl : Bytes l) {m k e : Int} {s : ByteArray} (h : textL l m = (s, k, e)) (he : e = 0) : ∃ q : Nat, k = (q : Int) ∧ 1 ≤ q ∧ q ≤ l.length ∧ (s.size : Int) ≤ m ∧ numL s.size ++ bytesOf s = l.take q ∧ ∀ t : Nat, t < q → (textL (l.take t) m).2.2 ≠ 0 := by
  subst he
  obtain ⟨n, k0, e0, hu⟩ : ∃ n k0 e0, uintN l = (n, k0, e0) := ⟨_, _, _, rfl⟩
  unfold textL at h
  rw [hu] at h
  simp only at h
  by_cases h0 : e0 = 0
  · subst h0
    obtain ⟨u1, u2, u3, u4⟩ := uintN_back hl hu
    rw [if_neg (by simp)] at h
    by_cases hm : m < 0 ∨ (n : Int) > m
    · rw [if_pos hm] at h
      simp at h
    · rw [if_neg hm] at h
      by_cases hq : n > l.length - k0
      · rw [if_pos hq] at h
        simp at h
      · rw [if_neg hq] at h
        simp only [Prod.mk.injEq, and_true] at h
        obtain ⟨rfl, rfl⟩ := h
        have hlen : ((l.take (k0 + n)).drop k0).length = n := by rw [List.length_drop, List.length_take]; omega
        have hsz : (strOfNums ((l.take (k0 + n)).drop k0)).size = n := by rw [strOfNums_size, hlen]
        refine ⟨k0 + n, rfl, by omega, by omega, by rw [hsz]; omega, ?_, fun t ht => ?_⟩
        · rw [hsz, bytesOf_str (bytes_drop (bytes_take hl _) _), u1, take_two]
        · unfold textL
          by_cases htk : t < k0
          · have hc := uintN_cut hu htk
            simp only
            rw [if_pos hc]
            simpa using hc
          · rw [uintN_more hl hu (by omega)]
            simp only
            rw [if_neg (by simp), if_neg hm, if_pos (by rw [List.length_take]; omega)]
            simp
  · rw [if_pos h0] at h
    simp only [Prod.mk.injEq] at h
    omega
theorem unframeL_back {l : List Int} (hl : Bytes l) {x : List Int} {k e : Int} (h : unframeL l = (x, k, e)) : (e ≠ 0 ∧ x = [] ∧ k = 0) ∨ (e = 0 ∧ ∃ q : Nat, k = (q : Int) ∧ 5 ≤ q ∧ q ≤ l.length ∧ x.length ≤ 262144 ∧ Bytes x ∧ frameL x = l.take q ∧ ∀ t : Nat, t < q → (unframeL (l.take t)).2.2 ≠ 0) := by
  obtain ⟨n, k0, e0, hu⟩ : ∃ n k0 e0, uintN l = (n, k0, e0) := ⟨_, _, _, rfl⟩
  unfold unframeL at h
  rw [hu] at h
  simp only at h
  by_cases h0 : e0 = 0
  · subst h0
    obtain ⟨u1, u2, u3, u4⟩ := uintN_back hl hu
    rw [if_neg (by simp)] at h
    by_cases hm : n > 262144
    · rw [if_pos hm] at h
      simp only [Prod.mk.injEq] at h
      obtain ⟨rfl, rfl, rfl⟩ := h
      exact .inl ⟨by decide, rfl, rfl⟩
    · rw [if_neg hm] at h
      by_cases hq : n + 4 > l.length - k0
      · rw [if_pos hq] at h
        simp only [Prod.mk.injEq] at h
        obtain ⟨rfl, rfl, rfl⟩ := h
        exact .inl ⟨by decide, rfl, rfl⟩
      · rw [if_neg hq] at h
        by_cases hf : fourL (sumF (l.take (k0 + n))) = (l.take (k0 + n + 4)).drop (k0 + n)
        · rw [if_pos hf] at h
          simp only [Prod.mk.injEq] at h
          obtain ⟨rfl, rfl, rfl⟩ := h
          have hlen : ((l.take (k0 + n)).drop k0).length = n := by rw [List.length_drop, List.length_take]; omega
          refine .inr ⟨rfl, k0 + n + 4, rfl, by omega, by omega, by omega, bytes_drop (bytes_take hl _) _, ?_, fun t ht => ?_⟩
          · unfold frameL
            rw [hlen, u1, take_two, hf, take_two]
          · unfold unframeL
            by_cases htk : t < k0
            · have hc := uintN_cut hu htk
              rw [if_pos hc]
              simpa using hc
            · rw [uintN_more hl hu (by omega)]
              simp only
              rw [if_neg (by simp), if_neg hm, if_pos (by rw [List.length_take]; omega)]
              simp
        · rw [if_neg hf] at h
          simp only [Prod.mk.injEq] at h
          obtain ⟨rfl, rfl, rfl⟩ := h
          exact .inl ⟨by decide, rfl, rfl⟩
  · rw [if_pos h0] at h
    simp only [Prod.mk.injEq] at h
    obtain ⟨rfl, rfl, rfl⟩ := h
    exact .inl ⟨by omega, rfl, rfl⟩
end Go.Proofs.YtipefhadafildaaDoor.G
