/- A burst of at most 32 bits changes the sum (plain laws; this claim's own lemmas). -/
import Derived.Test.YtipefhadafildaaDoorCrc
import Derived.Test.YtipefhadafildaaDoorLawG
namespace Go.Proofs.YtipefhadafildaaDoor.G
open Go.RowKit Go.Proofs.YtipefhadafildaaDoorW.PrintWords Go.Proofs.YtipefhadafildaaDoor.Own
set_option linter.unusedVariables false
/-- The sum fed bit by bit. -/
def feed (x : Nat) (b : Nat → Nat) : Nat → Nat
  | 0 => x
  | p + 1 => stepN (feed x b p ^^^ b p)
def stepI : Nat → Nat → Nat
  | 0, x => x
  | j + 1, x => stepN (stepI j x)
theorem stepN_zero : stepN 0 = 0 := by decide
theorem stepN_less (x : Nat) (hx : x < 4294967296) : stepN x < 4294967296 := by
  unfold stepN
  split
  · exact Nat.xor_lt_two_pow (n := 32) (by omega) (by omega)
  · omega
theorem stepI_xor (j a b : Nat) : stepI j (a ^^^ b) = stepI j a ^^^ stepI j b := by
  induction j with
  | zero => rfl
  | succ j ih => simp only [stepI, ih, stepN_xor]
theorem stepI_less (j x : Nat) (hx : x < 4294967296) : stepI j x < 4294967296 := by
  induction j with
  | zero => exact hx
  | succ j ih => exact stepN_less _ ih
theorem stepN_ne (x : Nat) (hx : x < 4294967296) (h : x ≠ 0) : stepN x ≠ 0 := by
  unfold stepN
  split
  · intro he
    have h1 : x / 2 = 2197175160 := by
      have := congrArg (· ^^^ 2197175160) he
      simpa [Nat.xor_assoc] using this
    omega
  · omega
theorem stepI_ne (j x : Nat) (hx : x < 4294967296) (h : x ≠ 0) : stepI j x ≠ 0 := by
  induction j with
  | zero => exact h
  | succ j ih => exact stepN_ne _ (stepI_less j x hx) ih
theorem stepI_pow (j t : Nat) : stepI j (t * 2 ^ j) = t := by
  induction j generalizing t with
  | zero => simp [stepI]
  | succ j ih =>
    have h : stepI j (t * 2 ^ (j + 1)) = 2 * t := by
      rw [Nat.pow_succ, show t * (2 ^ j * 2) = (2 * t) * 2 ^ j by rw [Nat.mul_comm (2 ^ j) 2, ← Nat.mul_assoc, Nat.mul_comm t 2]]
      exact ih (2 * t)
    show stepN (stepI j _) = t
    rw [h, stepN_two]
theorem feed_xor (x y : Nat) (b c : Nat → Nat) (p : Nat) : feed (x ^^^ y) (fun q => b q ^^^ c q) p = feed x b p ^^^ feed y c p := by
  induction p with
  | zero => rfl
  | succ p ih =>
    simp only [feed, ih, ← stepN_xor]
    congr 1
    rw [Nat.xor_assoc, ← Nat.xor_assoc (feed y c p), Nat.xor_comm (feed y c p) (b p), Nat.xor_assoc, ← Nat.xor_assoc (feed x b p)]
theorem feed_congr (x : Nat) (b c : Nat → Nat) (p : Nat) (h : ∀ q, q < p → b q = c q) : feed x b p = feed x c p := by
  induction p with
  | zero => rfl
  | succ p ih => simp only [feed, ih (fun q hq => h q (by omega)), h p (by omega)]
theorem xor_low (T j : Nat) : T % 2 ^ j ^^^ (T / 2 ^ j % 2) * 2 ^ j = T % 2 ^ (j + 1) := by
  apply Nat.eq_of_testBit_eq
  intro i
  rw [Nat.testBit_xor, Nat.testBit_mod_two_pow, Nat.testBit_mod_two_pow, Nat.mul_comm, Nat.testBit_two_pow_mul]
  have h2 : T / 2 ^ j % 2 = T / 2 ^ j % 2 ^ 1 := by simp
  rw [h2, Nat.testBit_mod_two_pow, Nat.testBit_div_two_pow]
  by_cases h : i < j
  · simp [h, show ¬ j ≤ i by omega, show i < j + 1 by omega]
  · by_cases he : i = j
    · subst he
      simp
    · simp [h, show j ≤ i by omega, show ¬ i < j + 1 by omega]
      omega
/-- A burst: the state that it leaves. -/
theorem feed_burst (b : Nat → Nat) (P0 J T : Nat) (h0 : ∀ q, q < P0 → b q = 0) (hb : ∀ j, j < J → b (P0 + j) = T / 2 ^ j % 2) (j : Nat) (hj : j ≤ J) : feed 0 b (P0 + j) = stepI j (T % 2 ^ j) := by
  induction j with
  | zero =>
    have hz : ∀ p, p ≤ P0 → feed 0 b p = 0 := by
      intro p
      induction p with
      | zero => intro _; rfl
      | succ p ih =>
        intro hp
        simp only [feed, ih (by omega), h0 p (by omega)]
        decide
    rw [Nat.add_zero, hz P0 (Nat.le_refl _)]
    simp [stepI, Nat.mod_one]
  | succ j ih =>
    show stepN (feed 0 b (P0 + j) ^^^ b (P0 + j)) = _
    rw [ih (by omega), hb j (by omega)]
    show _ = stepN (stepI j (T % 2 ^ (j + 1)))
    rw [← xor_low T j, stepI_xor, stepI_pow]
theorem feed_burst_ne (b : Nat → Nat) (P0 J T : Nat) (hT : T < 4294967296) (h0 : ∀ q, q < P0 → b q = 0) (hb : ∀ j, j < J → b (P0 + j) = T / 2 ^ j % 2) (hne : T % 2 ^ J ≠ 0) : feed 0 b (P0 + J) ≠ 0 := by
  rw [feed_burst b P0 J T h0 hb J (Nat.le_refl _)]
  exact stepI_ne J _ (Nat.lt_of_le_of_lt (Nat.mod_le _ _) hT) hne
/-- Bit number q of a list of bytes, the lowest first. -/
def bitAt (l : List Int) (q : Nat) : Nat := (rd l ((q / 8 : Nat) : Int)).toNat / 2 ^ (q % 8) % 2
theorem feedJ (x y c J : Nat) (b : Nat → Nat) (p : Nat) (hb : ∀ j, j < J → b (p + j) = c / 2 ^ j % 2) (hx : feed x b p = y) : feed x b (p + J) = stepI J (y ^^^ c % 2 ^ J) := by
  have key : ∀ j, j ≤ J → feed x b (p + j) = stepI j (y ^^^ c % 2 ^ j) := by
    intro j
    induction j with
    | zero => intro _; simp [stepI, hx, Nat.mod_one]
    | succ j ih =>
      intro hj
      show stepN (feed x b (p + j) ^^^ b (p + j)) = _
      rw [ih (by omega), hb j (by omega)]
      show _ = stepN (stepI j (y ^^^ c % 2 ^ (j + 1)))
      rw [← xor_low c j, ← Nat.xor_assoc, stepI_xor j (y ^^^ c % 2 ^ j), stepI_pow]
  exact key J (Nat.le_refl _)
theorem feed8 (x y c : Nat) (hc : c < 256) (b : Nat → Nat) (p : Nat) (hb : ∀ j, j < 8 → b (p + j) = c / 2 ^ j % 2) (hx : feed x b p = y) : feed x b (p + 8) = step4 (step4 (y ^^^ c)) := by
  rw [feedJ x y c 8 b p hb hx, Nat.mod_eq_of_lt (by omega)]
  rfl
theorem feed_sum (l : List Int) (hl : Bytes l) (m : Nat) (hm : m ≤ l.length) : ((feed 4294967295 (bitAt l) (8 * m) : Nat) : Int) = sumf (l.take m) := by
  induction m with
  | zero => simp [feed, sumf]
  | succ m ih =>
    have h := ih (by omega)
    have hr := sumf_range (l := l.take m) (fun y hy => hl y (List.mem_of_mem_take hy))
    obtain ⟨c, hc⟩ := Int.eq_ofNat_of_zero_le (bytes_rd hl m (by omega)).1
    have hc2 : c < 256 := by have := (bytes_rd hl m (by omega)).2; omega
    rw [sumf_snoc l m (by omega), ← h, hc]
    have hf := feed8 4294967295 (feed 4294967295 (bitAt l) (8 * m)) c hc2 (bitAt l) (8 * m) (fun j hj => by unfold bitAt; rw [show (8 * m + j) / 8 = m by omega, show (8 * m + j) % 8 = j by omega, hc]; rfl) rfl
    rw [show 8 * (m + 1) = 8 * m + 8 by omega, hf]
    have hy : feed 4294967295 (bitAt l) (8 * m) < 4294967296 := by rw [← h] at hr; have := hr.2; omega
    have hxc : feed 4294967295 (bitAt l) (8 * m) ^^^ c < 4294967296 := Nat.xor_lt_two_pow (n := 32) (by omega) (by omega)
    unfold sumc
    rw [u32_xor_nat _ _ (by omega) (by omega), ← step4_eq _ hxc]
    exact step4_eq _ (stepN_less _ (stepN_less _ (stepN_less _ (stepN_less _ hxc))))
theorem rd_four (s i : Nat) (hi : i < 4) (hs : s < 4294967296) : rd (fourL (s : Int)) (i : Int) = ((s / 256 ^ i % 256 : Nat) : Int) := by
  have : i = 0 ∨ i = 1 ∨ i = 2 ∨ i = 3 := by omega
  rcases this with rfl | rfl | rfl | rfl
  · show (s : Int) % 256 = _; omega
  · show (s : Int) / 256 % 256 = _; omega
  · show (s : Int) / 65536 % 256 = _; omega
  · show (s : Int) / 16777216 = _; omega
theorem rd_tail (l : List Int) (M i : Nat) (hl : M + 4 = l.length) (hi : i < 4) : rd l ((M + i : Nat) : Int) = rd ((l.take (M + 4)).drop M) (i : Int) := by
  simp only [rd, Int.toNat_natCast, List.getD_eq_getElem?_getD, List.getElem?_drop, List.getElem?_take]
  rw [if_pos (by omega)]
theorem feed_whole (l : List Int) (hl : Bytes l) (M : Nat) (hM : M + 4 = l.length) (h : fourL (sumF (l.take M)) = (l.take (M + 4)).drop M) : feed 4294967295 (bitAt l) (8 * M + 32) = stepI 32 4294967295 := by
  have h1 := feed_sum l hl M (by omega)
  have hr := sumf_range (l := l.take M) (fun y hy => hl y (List.mem_of_mem_take hy))
  obtain ⟨y, hy⟩ : ∃ y, y = feed 4294967295 (bitAt l) (8 * M) := ⟨_, rfl⟩
  rw [← hy] at h1
  have hyl : y < 4294967296 := by rw [← h1] at hr; have := hr.2; omega
  have hs : sumF (l.take M) = ((4294967295 ^^^ y : Nat) : Int) := by
    unfold sumF
    rw [← h1, show (4294967295 : Int) = ((4294967295 : Nat) : Int) from rfl, u32_xor_nat _ _ (by omega) (by omega)]
  have hsl : 4294967295 ^^^ y < 4294967296 := Nat.xor_lt_two_pow (n := 32) (by omega) (by omega)
  rw [hs] at h
  rw [feedJ 4294967295 y (4294967295 ^^^ y) 32 (bitAt l) (8 * M) (fun j hj => ?_) hy.symm]
  · rw [Nat.mod_eq_of_lt (by omega), Nat.xor_comm 4294967295 y, ← Nat.xor_assoc, Nat.xor_self, Nat.zero_xor]
  · unfold bitAt
    rw [show (8 * M + j) / 8 = M + j / 8 by omega, show (8 * M + j) % 8 = j % 8 by omega, rd_tail l M (j / 8) hM (by omega), ← h, rd_four _ _ (by omega) hsl, Int.toNat_natCast]
    generalize 4294967295 ^^^ y = s
    have hj8 : 2 ^ j = 256 ^ (j / 8) * 2 ^ (j % 8) := by
      rw [show (256 : Nat) = 2 ^ 8 from rfl, ← Nat.pow_mul, ← Nat.pow_add]
      congr 1
      omega
    rw [hj8, ← Nat.div_div_eq_div_mul]
    generalize s / 256 ^ (j / 8) = u
    have : j % 8 = 0 ∨ j % 8 = 1 ∨ j % 8 = 2 ∨ j % 8 = 3 ∨ j % 8 = 4 ∨ j % 8 = 5 ∨ j % 8 = 6 ∨ j % 8 = 7 := by omega
    rcases this with e | e | e | e | e | e | e | e <;> rw [e] <;> simp only [Nat.reducePow] <;> omega
theorem bits_byte {a b : Nat} (ha : a < 256) (hb : b < 256) (h : ∀ j, j < 8 → a / 2 ^ j % 2 = b / 2 ^ j % 2) : a = b := by
  have h0 := h 0 (by omega)
  have h1 := h 1 (by omega)
  have h2 := h 2 (by omega)
  have h3 := h 3 (by omega)
  have h4 := h 4 (by omega)
  have h5 := h 5 (by omega)
  have h6 := h 6 (by omega)
  have h7 := h 7 (by omega)
  simp only [Nat.reducePow] at h0 h1 h2 h3 h4 h5 h6 h7
  omega
theorem frame_whole (x : List Int) (k : Nat) (hk : k = (numL x.length).length) : fourL (sumF ((frameL x).take (k + x.length))) = ((frameL x).take (k + x.length + 4)).drop (k + x.length) := by
  unfold frameL
  obtain ⟨p, hp⟩ : ∃ p, p = numL x.length ++ x := ⟨_, rfl⟩
  rw [← hp]
  obtain ⟨q, hq⟩ : ∃ q, q = fourL (sumF p) := ⟨_, rfl⟩
  rw [← hq]
  have hpl : p.length = k + x.length := by rw [hp, List.length_append, hk]
  have hql : q.length = 4 := by rw [hq]; rfl
  rw [← hpl, List.take_left, List.take_of_length_le (by rw [List.length_append, hql]; omega), List.drop_left, hq]
set_option maxHeartbeats 1000000 in
theorem damaged (x l : List Int) (hx : Bytes x) (hxl : x.length ≤ 262144) (hl : Bytes l) (hlen : l.length = (frameL x).length) (d : Nat → Nat) (hd : ∀ q, q < 8 * l.length → bitAt l q = bitAt (frameL x) q ^^^ d q) (P0 J T : Nat) (hT : T < 4294967296) (hP : 8 * (numL x.length).length ≤ P0) (hPJ : P0 + J = 8 * l.length) (h0 : ∀ q, q < P0 → d q = 0) (hb : ∀ j, j < J → d (P0 + j) = T / 2 ^ j % 2) (hne : T % 2 ^ J ≠ 0) : unframeL l = ([], 0, 23) := by
  obtain ⟨k, hk⟩ : ∃ k, k = (numL x.length).length := ⟨_, rfl⟩
  have hB : Bytes (numL x.length ++ x) := bytes_app (numL_bytes _) hx
  have hfl : (frameL x).length = k + x.length + 4 := by unfold frameL; simp only [List.length_append, four_len]; omega
  have hfb : Bytes (frameL x) := bytes_app hB (bytes_four (sumF_range hB))
  have hbyte : ∀ i, i < k → rd l (i : Int) = rd (frameL x) (i : Int) := by
    intro i hi
    obtain ⟨a, ha⟩ := Int.eq_ofNat_of_zero_le (bytes_rd hl i (by omega)).1
    obtain ⟨b, hb'⟩ := Int.eq_ofNat_of_zero_le (bytes_rd hfb i (by omega)).1
    have ha2 := (bytes_rd hl i (by omega)).2
    have hb2 := (bytes_rd hfb i (by omega)).2
    rw [ha, hb']
    congr 1
    refine bits_byte (by omega) (by omega) (fun j hj => ?_)
    have hq := hd (8 * i + j) (by omega)
    rw [h0 _ (by omega), Nat.xor_zero] at hq
    unfold bitAt at hq
    rw [show (8 * i + j) / 8 = i by omega, show (8 * i + j) % 8 = j by omega, ha, hb'] at hq
    exact hq
  have htake : l.take k = numL x.length := by
    have h1 : (frameL x).take k = numL x.length := by unfold frameL; rw [hk, List.append_assoc, List.take_left]
    rw [← h1]
    apply List.ext_getElem
    · simp only [List.length_take]; omega
    · intro i h2 h3
      have hi : i < k := by simp only [List.length_take] at h2; omega
      have := hbyte i hi
      simp only [rd, Int.toNat_natCast, List.getD_eq_getElem?_getD] at this
      rw [List.getElem?_eq_getElem (by omega), List.getElem?_eq_getElem (by omega)] at this
      simpa using this
  have hu : uintN l = (x.length, k, 0) := by
    rw [← List.take_append_drop k l, htake, uintN_numL _ _ (by omega), hk]
  unfold unframeL
  rw [hu]
  simp only
  rw [if_neg (by simp), if_neg (by omega), if_neg (by omega), if_neg]
  intro he
  have hM : k + x.length + 4 = l.length := by omega
  have w1 := feed_whole l hl (k + x.length) hM he
  have w2 := feed_whole (frameL x) hfb (k + x.length) hfl.symm (frame_whole x k hk)
  have w3 := feed_burst_ne d P0 J T hT h0 hb hne
  obtain ⟨N, hN⟩ : ∃ N, N = 8 * (k + x.length) + 32 := ⟨_, rfl⟩
  rw [show P0 + J = N by omega] at w3
  rw [← hN] at w1 w2
  obtain ⟨K, hK⟩ : ∃ K, K = stepI 32 4294967295 := ⟨_, rfl⟩
  rw [← hK] at w1 w2
  apply w3
  have w4 := feed_xor 4294967295 4294967295 (bitAt (frameL x)) (bitAt l) N
  generalize hX : (4294967295 : Nat) = X at w1 w2 w4
  have w5 : feed (X ^^^ X) (fun q => bitAt (frameL x) q ^^^ bitAt l q) N = 0 := by rw [w4, w2, w1, Nat.xor_self]
  rw [Nat.xor_self] at w5
  refine Eq.trans (feed_congr 0 d _ N (fun q hq => ?_)) w5
  rw [hd q (by omega), ← Nat.xor_assoc, Nat.xor_self, Nat.zero_xor]
end Go.Proofs.YtipefhadafildaaDoor.G
