-- Printed by a program of this claim's own out of the translation.
import Derived.Test.YtlcohooognjmaaaDoorQBlx0
namespace Go.Proofs.YtlcohooognjmaaaDoor.QBl
open Go.Proofs.YtlcohooognjmaaaDoor.Own
open Go.RowKit Go.Proofs.YtlcohooognjmaaaDoorW.PrintWords Go.Proofs.YtlcohooognjmaaaDoorW.PrintLast Go.Proofs.YtlcohooognjmaaaDoorW.PrintMore
attribute [local go_sem] max2_int min2_int max_two min_two max_three min_three max_four min_four   -- for this text's walks alone
set_option linter.unusedVariables false
set_option linter.unusedSimpArgs false

/-! ### screeref2_Sum_p: function 38 -/
mutual
def screeref2_Sum_p.l0 : Nat → List Int → Int → Int → Option (Int)
  | 0, _, _, _ => none
  | k + 1, x0, x3, x4 => if x4 < (x0.length : Int) then (if 0 ≤ x4 then (screeref2_Sum_p.l1 k x0 (Go.bits .xor .u32 x3 ((rd x0 x4) % 4294967296)) x4 0) else (none)) else (some (Go.bits .xor .u32 x3 4294967295))
def screeref2_Sum_p.l1 : Nat → List Int → Int → Int → Int → Option (Int)
  | 0, _, _, _, _ => none
  | k + 1, x0, x3, x4, x5 => if x5 < 8 then (if (Int.tmod x3 2) = 1 then (screeref2_Sum_p.l1 k x0 (Go.bits .xor .u32 ((Int.tdiv x3 2) % 4294967296) 2197175160) x4 (wrap64 (x5 + 1))) else (screeref2_Sum_p.l1 k x0 ((Int.tdiv x3 2) % 4294967296) x4 (wrap64 (x5 + 1)))) else (screeref2_Sum_p.l0 k x0 x3 (wrap64 (x4 + 1)))
end
def screeref2_Sum_p.f (k : Nat) (l0 : List Int) : Option (Int) := screeref2_Sum_p.l0 k l0 4294967295 0
theorem screeref2_Sum_p.mono_l : ∀ k, (∀ y0 y1 y2, LeO (screeref2_Sum_p.l0 k y0 y1 y2) (screeref2_Sum_p.l0 (k + 1) y0 y1 y2)) ∧ (∀ y0 y1 y2 y3, LeO (screeref2_Sum_p.l1 k y0 y1 y2 y3) (screeref2_Sum_p.l1 (k + 1) y0 y1 y2 y3))
  | 0 => ⟨fun _ _ _ r h => by simp [screeref2_Sum_p.l0] at h, fun _ _ _ _ r h => by simp [screeref2_Sum_p.l1] at h⟩
  | k + 1 => by
    obtain ⟨ih0, ih1⟩ := screeref2_Sum_p.mono_l k
    refine ⟨?_, ?_⟩
    · intro y0 y1 y2
      unfold screeref2_Sum_p.l0
      repeat' first
      | (with_reducible exact ih0 _ _ _)
      | (with_reducible exact ih1 _ _ _ _)
      | (with_reducible exact LeO.refl _)
      | (with_reducible exact LeO.none _)
      | (with_reducible refine LeO.ite ?_ ?_)
      | (with_reducible refine LeO.bind ?_ (fun _ => ?_))
      | exact ih0 _ _ _
      | exact ih1 _ _ _ _
      | exact LeO.none _
      | refine LeO.ite ?_ ?_
      | refine LeO.bind ?_ (fun _ => ?_)
    · intro y0 y1 y2 y3
      unfold screeref2_Sum_p.l1
      repeat' first
      | (with_reducible exact ih0 _ _ _)
      | (with_reducible exact ih1 _ _ _ _)
      | (with_reducible exact LeO.refl _)
      | (with_reducible exact LeO.none _)
      | (with_reducible refine LeO.ite ?_ ?_)
      | (with_reducible refine LeO.bind ?_ (fun _ => ?_))
      | exact ih0 _ _ _
      | exact ih1 _ _ _ _
      | exact LeO.none _
      | refine LeO.ite ?_ ?_
      | refine LeO.bind ?_ (fun _ => ?_)
theorem screeref2_Sum_p.mono : ∀ a0 k, LeO (screeref2_Sum_p.f k a0) (screeref2_Sum_p.f (k + 1) a0) := by
  intro a0 k
  obtain ⟨ih0, ih1⟩ := screeref2_Sum_p.mono_l k
  unfold screeref2_Sum_p.f
  repeat' first
      | (with_reducible exact ih0 _ _ _)
      | (with_reducible exact ih1 _ _ _ _)
      | (with_reducible exact LeO.refl _)
      | (with_reducible exact LeO.none _)
      | (with_reducible refine LeO.ite ?_ ?_)
      | (with_reducible refine LeO.bind ?_ (fun _ => ?_))
      | exact ih0 _ _ _
      | exact ih1 _ _ _ _
      | exact LeO.none _
      | refine LeO.ite ?_ ?_
      | refine LeO.bind ?_ (fun _ => ?_)
set_option maxHeartbeats 8000000 in
set_option maxRecDepth 100000 in
theorem screeref2_Sum_p.calls (k : Nat) (A0 : Option Addr) (c0 : Nat) (l0 : List Int) (r : Int) (w : World) (hr0 : Kd.C (Kd.int .u8) w A0 l0.length l0) (hc0 : l0.length ≤ c0) (h : screeref2_Sum_p.f k l0 = some r) :
    Calls Tryd.prog 38 #[.slice A0 l0.length c0] w fun e w' => e = .returned (.int .u32 r) ∧ Drawn0 w w' := by
  have HR0 := Aside0.mk hr0
  have HC0 := Aside0.mk hc0
  clear hr0 hc0
  have H : (screeref2_Sum_p.l0 k l0 4294967295 0) = some r := h
  clear h
  have H' := Aside0.mk H
  clear H
  go_enter Tryd.func38, Tryd.ntmps38
  go_wp2
  go_loopg [3, 4] k (fun kq v3 v4 w' => ∃ (x3_1 : Int) (x4_1 : Int), v3 = .int .u32 x3_1 ∧ v4 = .int .i64 x4_1 ∧ Aside0 (screeref2_Sum_p.l0 kq l0 x3_1 x4_1 = some r) ∧ Aside0 (kq ≤ k) ∧ Drawn0 w w')
  case atStart => exact ⟨(4294967295), (0), (by first | rfl | (simp; done) | (simp [*]; done)), (by first | rfl | (simp; done) | (simp [*]; done)), H', ⟨Nat.le_refl _⟩, by repeat (first | exact Drawn0.refl _ | apply Drawn0.step)⟩
  case round =>
    clear H'
    obtain ⟨x3_1, x4_1, rfl, rfl, HA, HK1, ⟨m1, rfl⟩⟩ := hrel
    cases gk with
    | zero => exact absurd HA.out (by simp [screeref2_Sum_p.l0])
    | succ k1 =>
      have H := HA.out
      clear HA
      simp only [screeref2_Sum_p.l0] at H
      by_cases c2 : x4_1 < (l0.length : Int)
      · rw [if_pos c2] at H
        have c2b0 : decide (x4_1 < (l0.length : Int)) = true := decide_eq_true c2
        clear c2
        by_cases c3 : 0 ≤ x4_1
        · rw [if_pos c3] at H
          have c3b0 : decide (0 ≤ x4_1) = true := decide_eq_true c3
          clear c3
          have H' := Aside0.mk H
          clear H
          have p216 : 0 ≤ (x4_1 : Int) := of_decide_eq_true (by first | (with_reducible assumption) | assumption)
          have q216 : x4_1 < (l0.length : Int) := of_decide_eq_true (by first | (with_reducible assumption) | assumption)
          obtain ⟨ad216, e216, hx216_0⟩ := Kd.at_int HR0.out x4_1 p216 q216
          cases e216
          replace p216 := eq_true p216
          replace q216 := eq_true q216
          go_wp2
          go_loopg [3, 5] k1 (fun kq v3 v5 w' => ∃ (x3_2 : Int) (x5_2 : Int), v3 = .int .u32 x3_2 ∧ v5 = .int .i64 x5_2 ∧ Aside0 (screeref2_Sum_p.l1 kq l0 x3_2 x4_1 x5_2 = some r) ∧ Aside0 (kq ≤ k1) ∧ Drawn0 w w')
          case atStart => exact ⟨(Go.bits .xor .u32 x3_1 ((rd l0 x4_1) % 4294967296)), (0), (by first | rfl | (simp; done) | (simp [*]; done)), (by first | rfl | (simp; done) | (simp [*]; done)), H', ⟨Nat.le_refl _⟩, by repeat (first | exact Drawn0.refl _ | apply Drawn0.step)⟩
          case round =>
            clear H'
            try clear c2
            try clear c2b0
            try clear p2
            try clear q2
            try clear hx2
            try clear c3
            try clear c3b0
            try clear hx216_0
            try clear p216
            try clear q216
            obtain ⟨x3_2, x5_2, rfl, rfl, HA, HK2, ⟨m2, rfl⟩⟩ := hrel
            cases gk with
            | zero => exact absurd HA.out (by simp [screeref2_Sum_p.l1])
            | succ k2 =>
              have H := HA.out
              clear HA
              simp only [screeref2_Sum_p.l1] at H
              by_cases c4 : x5_2 < 8
              · rw [if_pos c4] at H
                have c4b0 : decide (x5_2 < 8) = true := decide_eq_true c4
                clear c4
                by_cases c5 : (Int.tmod x3_2 2) = 1
                · rw [if_pos c5] at H
                  have c5b0 : ((Int.tmod x3_2 2) == 1) = true := beq_iff_eq.mpr c5
                  have c5b1 : ((Int.tmod x3_2 2) != 1) = false := bne_eq_false_iff_eq.mpr c5
                  clear c5
                  have H' := Aside0.mk H
                  clear H
                  go_wp2
                  go_roundg k2
                  case measure => have := HK1.out; have := HK2.out; omega
                  case rel => exact ⟨(Go.bits .xor .u32 ((Int.tdiv x3_2 2) % 4294967296) 2197175160), (wrap64 (x5_2 + 1)), (by first | rfl | (simp; done) | (simp [*]; done)), (by first | rfl | (simp; done) | (simp [*]; done)), H', ⟨by have := HK1.out; have := HK2.out; omega⟩, by repeat (first | exact Drawn0.refl _ | apply Drawn0.step)⟩
                · rw [if_neg c5] at H
                  have c5b0 : ((Int.tmod x3_2 2) == 1) = false := beq_eq_false_iff_ne.mpr c5
                  have c5b1 : ((Int.tmod x3_2 2) != 1) = true := bne_iff_ne.mpr c5
                  have H' := Aside0.mk H
                  clear H
                  go_wp2
                  go_roundg k2
                  case measure => have := HK1.out; have := HK2.out; omega
                  case rel => exact ⟨((Int.tdiv x3_2 2) % 4294967296), (wrap64 (x5_2 + 1)), (by first | rfl | (simp; done) | (simp [*]; done)), (by first | rfl | (simp; done) | (simp [*]; done)), H', ⟨by have := HK1.out; have := HK2.out; omega⟩, by repeat (first | exact Drawn0.refl _ | apply Drawn0.step)⟩
              · rw [if_neg c4] at H
                have c4b0 : decide (x5_2 < 8) = false := decide_eq_false c4
                clear c4
                have H' := Aside0.mk H
                clear H
                go_wp2
                go_roundg k2
                case measure => have := HK1.out; have := HK2.out; omega
                case rel => exact ⟨(x3_2), (wrap64 (x4_1 + 1)), (by first | rfl | (simp; done) | (simp [*]; done)), (by first | rfl | (simp; done) | (simp [*]; done)), H', ⟨by have := HK1.out; have := HK2.out; omega⟩, by repeat (first | exact Drawn0.refl _ | apply Drawn0.step)⟩
        · rw [if_neg c3] at H
          exact absurd H (by simp)
      · rw [if_neg c2] at H
        have c2b0 : decide (x4_1 < (l0.length : Int)) = false := decide_eq_false c2
        clear c2
        obtain rfl := Option.some.inj H
        go_wp2
        go_ret
        exact ⟨by first | rfl | (simp; done) | (simp [*]; done), by repeat (first | exact Drawn0.refl _ | apply Drawn0.step)⟩

/-! ### screeref2_Sum: function 38 -/
open Go.Proofs.YtlcohooognjmaaaDoor.G
theorem bits_step (x : Nat) (hx : x < 4294967296) : (if Int.tmod (x : Int) 2 = 1 then Go.bits .xor .u32 ((Int.tdiv (x : Int) 2) % 4294967296) 2197175160 else (Int.tdiv (x : Int) 2) % 4294967296) = ((stepN x : Nat) : Int) := by
  have h1 : Int.tmod (x : Int) 2 = ((x % 2 : Nat) : Int) := rfl
  have h2 : Int.tdiv (x : Int) 2 % 4294967296 = ((x / 2 : Nat) : Int) := by rw [show Int.tdiv (x : Int) 2 = ((x / 2 : Nat) : Int) from rfl]; omega
  rw [h1, h2]
  unfold stepN
  by_cases h : x % 2 = 1
  · rw [if_pos h, if_pos (by omega), show (2197175160 : Int) = ((2197175160 : Nat) : Int) from rfl, u32_xor_nat _ _ (by omega) (by omega)]
  · rw [if_neg h, if_neg (by omega)]
theorem stepN_lt (x : Nat) (hx : x < 4294967296) : stepN x < 4294967296 := by
  unfold stepN
  split
  · exact Nat.xor_lt_two_pow (n := 32) (by omega) (by omega)
  · omega
def iter : Nat → Nat → Nat
  | 0, x => x
  | d + 1, x => iter d (stepN x)
theorem l1_ev (l : List Int) (i r : Int) (d : Nat) : ∀ (j : Int) (x : Nat), x < 4294967296 → j + d = 8 → 0 ≤ j → Ev (fun k => screeref2_Sum_p.l0 k l (iter d x : Nat) (wrap64 (i + 1))) r → Ev (fun k => screeref2_Sum_p.l1 k l (x : Int) i j) r := by
  induction d with
  | zero =>
    intro j x hx hj h0 h
    refine Ev.step (fun k => ?_) h
    simp only [screeref2_Sum_p.l1]
    rw [if_neg (by omega)]
    rfl
  | succ d ih =>
    intro j x hx hj h0 h
    refine Ev.step (f := fun k => screeref2_Sum_p.l1 k l (stepN x : Nat) i (j + 1)) (fun k => ?_) (ih (j + 1) (stepN x) (stepN_lt x hx) (by omega) (by omega) h)
    simp only [screeref2_Sum_p.l1]
    rw [if_pos (by omega), show wrap64 (j + 1) = j + 1 by unfold wrap64; omega, ← bits_step x hx]
    split <;> rfl
theorem iter8 (x : Nat) (hx : x < 4294967296) : ((iter 8 x : Nat) : Int) = sum1 (sum1 (x : Int)) := by
  have h1 : iter 8 x = step4 (step4 x) := rfl
  have h2 : step4 x < 4294967296 := stepN_lt _ (stepN_lt _ (stepN_lt _ (stepN_lt _ hx)))
  rw [h1, step4_eq _ h2, step4_eq _ hx]
theorem l0_ev (l : List Int) (hl : Bytes l) (hm : l.length ≤ 9223372036854775806) (d : Nat) : ∀ (i : Nat), i + d = l.length → Ev (fun k => screeref2_Sum_p.l0 k l (sumf (l.take i)) (i : Int)) (sumF l) := by
  induction d with
  | zero =>
    intro i hi
    refine Ev.step (f := fun _ => some (sumF l)) (fun k => ?_) (Ev.now _)
    simp only [screeref2_Sum_p.l0]
    rw [if_neg (by omega), List.take_of_length_le (by omega)]
    have hr := sumf_range hl
    obtain ⟨a, ha⟩ := Int.eq_ofNat_of_zero_le hr.1
    unfold sumF
    rw [ha, show (4294967295 : Int) = ((4294967295 : Nat) : Int) from rfl, u32_xor_nat _ _ (by have := hr.2; omega) (by omega), u32_xor_nat _ _ (by omega) (by have := hr.2; omega), Nat.xor_comm]
  | succ d ih =>
    intro i hi
    have h := ih (i + 1) (by omega)
    have hlt : i < l.length := by omega
    have hr : U32 (sumf (l.take i)) := sumf_range (fun y hy => hl y (List.mem_of_mem_take hy))
    have hb := bytes_rd hl i hlt
    rw [sumf_snoc l i hlt] at h
    have hx := u32_xor_range hr (y := rd l i) ⟨hb.1, by omega⟩
    obtain ⟨x, hxe⟩ := Int.eq_ofNat_of_zero_le hx.1
    have hxl : x < 4294967296 := by have := hx.2; omega
    refine Ev.step (f := fun k => screeref2_Sum_p.l1 k l (x : Int) (i : Int) 0) (fun k => ?_) (l1_ev l i _ 8 0 x hxl (by omega) (by omega) ?_)
    · simp only [screeref2_Sum_p.l0]
      rw [if_pos (by omega), if_pos (by omega), show rd l (i : Int) % 4294967296 = rd l (i : Int) by omega, hxe]
    · rw [iter8 x hxl, show wrap64 ((i : Int) + 1) = ((i + 1 : Nat) : Int) by unfold wrap64; omega]
      unfold sumc at h
      rw [hxe] at h
      exact h
def screeref2_Sum.f (l0 : List Int) : Option Int := if okB l0 = true ∧ l0.length ≤ 140737488355328 then some (sumF l0) else none
theorem screeref2_Sum.calls (A0 : Option Addr) (c0 : Nat) (l0 : List Int) (r : Int) (w : World) (hr0 : Kd.C (Kd.int .u8) w A0 l0.length l0) (hc0 : l0.length ≤ c0) (h : screeref2_Sum.f l0 = some r) :
    Calls Tryd.prog 38 #[.slice A0 l0.length c0] w fun e w' => e = .returned (.int .u32 r) ∧ Drawn0 w w' := by
  unfold screeref2_Sum.f at h
  split at h
  · rename_i hh
    obtain ⟨k, hk⟩ := (l0_ev l0 (okB_iff.1 hh.1) (by omega) l0.length 0 (by omega)).rounds
    rw [Option.some.inj h] at hk
    exact screeref2_Sum_p.calls k A0 c0 l0 r w hr0 hc0 hk
  · cases h

/-! ### screeref8_spots: function 19 -/
open Go.Proofs.YtlcohooognjmaaaDoor.Bl Go.Proofs.YtlcohooognjmaaaDoor.G
def screeref8_spots.f (a0 : ByteArray) (a1 a2 : Int) : Option (List Int) := if a0.size ≤ 140737488355328 ∧ 0 ≤ a1 ∧ a1 ≤ 1000 ∧ 0 < a2 ∧ a2 < 18446744073709551616 then some ((spotsL (hashS a0) a1.toNat a2.toNat).map fun (p : Nat) => (p : Int)) else none
theorem info_u64 : (Tryd.prog.info? 55).map (fun i => (i.zero, i.size, i.bytes)) = some (some (.int .u64 0), 1, 8) := by kernel_rfl
theorem run_step (H j : Nat) : (H + (j + 1) * rotN H) % 4294967296 = ((H + j * rotN H) % 4294967296 + rotN H) % 4294967296 := by
  rw [Nat.mod_add_mod, Nat.add_mul, Nat.one_mul, Nat.add_assoc]
set_option maxHeartbeats 4000000 in
set_option maxRecDepth 100000 in
theorem screeref8_spots.calls (a0 : ByteArray) (a1 a2 : Int) (r : List Int) (w : World) (h : screeref8_spots.f a0 a1 a2 = some r) :
    Calls Tryd.prog 19 #[.string a0, .int .i64 a1, .int .u64 a2] w fun e w' => ∃ v0_ : Value, e = .returned (v0_) ∧ Kd.R (Kd.int .u64) 55 w' w.heap.size (fun _ => True) v0_ r ∧ Below w.heap.size w w' := by
  unfold screeref8_spots.f at h
  split at h
  · rename_i hh
    obtain ⟨hs, h0, h1, h2, h3⟩ := hh
    have h := Option.some.inj h
    obtain ⟨k, rfl⟩ := Int.eq_ofNat_of_zero_le h0
    obtain ⟨m, rfl⟩ := Int.eq_ofNat_of_zero_le (Int.le_of_lt h2)
    rw [Int.toNat_natCast, Int.toNat_natCast] at h
    obtain ⟨A, c, w1, hrun, hc1, hC, hb1⟩ := conv_bytes (P := Tryd.prog) w 9 42 5 a0 Tryd.underlying9 Tryd.underlying42 Tryd.underlying5 (by omega)
    have HC := Aside0.mk hC
    have HX : Aside0 (screeref2_Sum.f (bytesOf a0) = some ((hashS a0 : Nat) : Int)) := ⟨by unfold screeref2_Sum.f; rw [if_pos ⟨okB_iff.2 (bytes_str a0), by rw [bytesOf_length]; omega⟩, hashS_eq]⟩
    have hlt32 := hash_lt a0
    obtain ⟨H, hH⟩ : ∃ H, H = hashS a0 := ⟨_, rfl⟩
    rw [← hH] at HX hlt32 h
    have HB1 := Aside0.mk hb1
    have HR : Aside0 ((spotsL H k m).map (fun (p : Nat) => (p : Int)) = r) := ⟨h⟩
    obtain ⟨D, hD⟩ : ∃ D, D = rotN H := ⟨_, rfl⟩
    have hdl : D < 4294967296 := by rw [hD]; unfold rotN; omega
    have e1 : (H : Int) / 131072 + (H : Int) % 131072 * 32768 = (D : Int) := by rw [hD]; unfold rotN; omega
    have HD := Aside0.mk hD
    clear hC hb1 hH h hD
    go_enter Tryd.func19, Tryd.ntmps19
    go_wp2_with fail
    refine (screeref2_Sum.calls A c (bytesOf a0) _ w1 HC.out hc1 HX.out).mono ?_
    rintro e w2 ⟨rfl, hDr⟩
    have HB2 := Aside0.mk (below_then HB1.out HB1.out.size hDr.below)
    clear hDr HC HB1
    go_wp2_with fail
    go_loopw [9, 10, 11] (fun v x iv wr => ∃ (j X : Nat), j ≤ k ∧ iv = .int .i64 (j : Int) ∧ x = .int .u32 (X : Int) ∧ X < 4294967296 ∧ Aside0 (X = (H + j * rotN H) % 4294967296) ∧ Aside0 (Kd.R (Kd.int .u64) 55 wr w.heap.size (fun _ => True) v ((spotsL H j m).map fun (p : Nat) => (p : Int))) ∧ Aside0 (Below w.heap.size w wr)) (fun _ _ iv _ => k - (intOf iv).toNat)
    case atStart => exact ⟨0, H, by omega, rfl, rfl, hlt32, ⟨by omega⟩, ⟨Kd.R_nil _ _ _ _ _⟩, HB2⟩
    case round =>
      clear HB2 hrun
      obtain ⟨j, X, hj, rfl, rfl, hXl, HX2, HO, HB⟩ := hrel
      by_cases hlt : j < k
      · have hm0 : ((m : Int) == 0) = false := by rw [beq_eq_false_iff_ne]; omega
        have hlen : Aside0 (((spotsL H j m).map fun (p : Nat) => (p : Int)).length ≤ 1000) := ⟨by simp [spotsL]; omega⟩
        go_wp2_with (first
              | ((with_reducible refine gate_builtin (b := .append) (xs := #[.tmp 27, .tmp 32]) rfl ?_); at_builtin; go_must (refine Kd.R_append (Kd.int .u64) (w0 := w) w.heap.size rfl (.tmp 27) (.tmp 32) 53 55 (.int .u64 0) 8 rfl Tryd.underlying53 info_u64 rfl (by decide) (by omega) _ ((spotsL H j m).map fun (p : Nat) => (p : Int)) ((X : Int) % (m : Int)) [.int .u64 ((X : Int) % (m : Int))] (fun _ => True) (fun _ => False) rfl rfl rfl (fun _ hk => hk.elim) (fun _ _ => trivial) ?aO ?aB ?aS ?aL ?_); (case aO => exact HO.out); (case aB => exact HB.out); (case aS => exact HB.out.size); (case aL => have := hlen.out; omega); intro v2 w2 ho hb hg_ hn_; (have HO2 := Aside0.mk ho); (have HB2 := Aside0.mk hb); clear ho hb hg_ hn_))
        have hxw : ((X : Int) + (D : Int)) % 4294967296 = (((X + D) % 4294967296 : Nat) : Int) := by omega
        have HST := Aside0.mk (run_step H j)
        have hxl := Nat.mod_lt (X + D) (show 0 < 4294967296 by omega)
        have HE : Aside0 ((X : Int) % (m : Int) = ((prb H j m : Nat) : Int)) := ⟨by rw [HX2.out]; first | done | rfl⟩
        have HO3 : Aside0 (Kd.R (Kd.int .u64) 55 w2 w.heap.size (fun _ => True) v2 ((spotsL H (j + 1) m).map fun (p : Nat) => (p : Int))) := ⟨by have ho := HO2.out; rw [HE.out] at ho; rw [spots_succ, List.map_append]; exact ho⟩
        exact ⟨⟨j + 1, (X + D) % 4294967296, by omega, by go_num, by rw [← hxw], hxl, ⟨by rw [HST.out, ← HX2.out, ← HD.out]⟩, HO3, HB2⟩, by simp [intOf]; omega⟩
      · obtain rfl : j = k := by omega
        go_wp2_with fail
        go_ret
        exact ⟨_, rfl, by rw [← HR.out]; exact HO.out, HB.out⟩
  · cases h

/-! ### screeref8_May: function 14 -/
open Go.Proofs.YtlcohooognjmaaaDoor.Bl Go.Proofs.YtlcohooognjmaaaDoor.G
def screeref8_May.f (l0 : List Int) (a1 : ByteArray) : Option Bool := if okB l0 = true ∧ l0.length ≤ 140737488351232 ∧ a1.size ≤ 140737488355328 then some (mayL l0 a1) else none
set_option maxHeartbeats 2000000 in
set_option maxRecDepth 100000 in
theorem screeref8_May.calls (A0 : Option Addr) (c0 : Nat) (l0 : List Int) (a1 : ByteArray) (r : Bool) (w : World) (hr0 : Kd.C (Kd.int .u8) w A0 l0.length l0) (hc0 : l0.length ≤ c0) (h : screeref8_May.f l0 a1 = some r) :
    Calls Tryd.prog 14 #[.slice A0 l0.length c0, .string a1] w fun e w' => e = .returned (.bool r) ∧ Below w.heap.size w w' := by
  unfold screeref8_May.f at h
  split at h
  · rename_i hh
    obtain ⟨hb, hl, hs⟩ := hh
    have hb := okB_iff.1 hb
    have h := Option.some.inj h
    unfold mayL at h
    have HR0 := Aside0.mk hr0
    have HB := Aside0.mk hb
    clear hr0 hb
    by_cases h9 : l0.length < 9
    · rw [if_pos h9] at h
      subst h
      have d1 : decide ((l0.length : Int) - 1 < 8) = true := decide_eq_true (by omega)
      go_enter Tryd.func14, Tryd.ntmps14
      go_wp2
      go_ret
      exact ⟨rfl, Below.refl _ _⟩
    · rw [if_neg h9] at h
      obtain ⟨n, hn⟩ : ∃ n, n = l0.length - 1 := ⟨_, rfl⟩
      rw [← hn] at h
      have hni : (l0.length : Int) - 1 = (n : Int) := by omega
      obtain ⟨ad, e1, hcell⟩ := Kd.at_int HR0.out (n : Int) (by omega) (by omega)
      cases e1
      rw [Int.toNat_natCast] at hcell
      obtain ⟨k, hk⟩ := Int.eq_ofNat_of_zero_le (bytes_rd HB.out n (by omega)).1
      have hk2 := (bytes_rd HB.out n (by omega)).2
      rw [hk] at hcell h hk2
      rw [Int.toNat_natCast] at h
      have HN := Aside0.mk hn
      have h8 : 8 ≤ n := by omega
      have d1 : decide ((n : Int) < 8) = false := decide_eq_false (by omega)
      clear hk hn
      by_cases hk0 : k = 0
      · rw [if_pos (.inl hk0)] at h
        subst h hk0
        go_enter Tryd.func14, Tryd.ntmps14
        go_wp2
        go_ret
        exact ⟨rfl, Below.refl _ _⟩
      · have k0 : ((k : Int) == 0) = false := by rw [beq_eq_false_iff_ne]; omega
        by_cases hk11 : 11 < k
        · rw [if_pos (.inr hk11)] at h
          subst h
          have d2 : decide ((11 : Int) < (k : Int)) = true := decide_eq_true (by omega)
          go_enter Tryd.func14, Tryd.ntmps14
          go_wp2
          go_ret
          exact ⟨rfl, Below.refl _ _⟩
        · rw [if_neg (by omega)] at h
          have d2 : decide ((11 : Int) < (k : Int)) = false := decide_eq_false (by omega)
          obtain ⟨H, hH⟩ : ∃ H, H = hashS a1 := ⟨_, rfl⟩
          rw [← hH] at h
          have HX : Aside0 (screeref8_spots.f a1 (k : Int) ((n : Int) * 8) = some ((spotsL H k (8 * n)).map fun (p : Nat) => (p : Int))) := ⟨by
            unfold screeref8_spots.f
            rw [if_pos ⟨by omega, by omega, by omega, by omega, by omega⟩, ← hH, Int.toNat_natCast, show ((n : Int) * 8).toNat = 8 * n by omega]⟩
          clear hH
          go_enter Tryd.func14, Tryd.ntmps14
          go_wp2_with fail
          refine (screeref8_spots.calls a1 (k : Int) ((n : Int) * 8) _ w HX.out).mono ?_
          rintro e w1 ⟨v, rfl, hR, hb1⟩
          have HSL := Aside0.mk (spots_rd H k (8 * n))
          obtain ⟨L, hL⟩ : ∃ L, L = (spotsL H k (8 * n)).map fun (p : Nat) => (p : Int) := ⟨_, rfl⟩
          have hLl : L.length = k := by rw [hL, List.length_map, spots_len]
          rw [← hL] at hR HSL
          obtain ⟨As, cs, e1, h1, h2⟩ := Kd.R_reads hR
          rw [hLl] at e1 h1 h2
          subst e1
          have HSC := Aside0.mk h2
          have HB1 := Aside0.mk hb1
          have HR1 := Aside0.mk (Kd.C_below HR0.out hb1)
          clear hL hLl hR h1 h2 hb1 hcell
          go_wp2_with fail
          go_loopw [7] (fun i wr => ∃ j : Nat, j ≤ k ∧ i = .int .i64 (j : Int) ∧ Aside0 (Below w1.heap.size w1 wr) ∧ Aside0 (∀ q, q < j → hasB l0 (prb H q (8 * n)) = true)) (fun i _ => k - (intOf i).toNat)
          case atStart => exact ⟨0, by omega, rfl, ⟨Below.refl _ _⟩, ⟨fun q hq => by omega⟩⟩
          case round =>
            obtain ⟨j, hj, rfl, HBJ, HALL⟩ := hrel
            by_cases hlt2 : j < k
            · have hp := prb_lt H j (8 * n) (by omega)
              obtain ⟨P, hP⟩ : ∃ P, P = prb H j (8 * n) := ⟨_, rfl⟩
              obtain ⟨ad2, e2, hcell2⟩ := Kd.at_int (Kd.C_below HSC.out HBJ.out) (j : Int) (by omega) (by omega)
              cases e2
              rw [Int.toNat_natCast, HSL.out j hlt2, ← hP] at hcell2
              rw [← hP] at hp
              have HPP := Aside0.mk hP
              clear hP
              obtain ⟨ad, e1, hcell⟩ := Kd.at_int (Kd.C_below HR1.out HBJ.out) (((P / 8 : Nat)) : Int) (by omega) (by omega)
              cases e1
              rw [Int.toNat_natCast] at hcell
              have HBT := Aside0.mk (bit_test2 HB.out P)
              have HBT3 := Aside0.mk (bit_test3 HB.out P)
              have HBN : Aside0 (Below w.heap.size w wr) := ⟨below_then HB1.out HB1.out.size HBJ.out⟩
              have hpq : P / 8 < l0.length := by omega
              have hpq2 : ((P : Int) / 8) < (l0.length : Int) := by omega
              cases hq : hasB l0 P
              · have ht : (rd l0 ((P : Int) / 8) / 2 ^ (P % 8) % 2 == 0) = true := by rw [HBT.out, hq]; rfl
                have ht3 : ((rd l0 ((P : Int) / 8) / 2 ^ (P % 8)).tmod 2 == 0) = true := by rw [HBT3.out, hq]; rfl
                have hr : r = false := by
                  rw [← h, List.all_eq_false]
                  exact ⟨P, by rw [HPP.out]; exact List.mem_map.2 ⟨j, List.mem_range.2 hlt2, rfl⟩, by rw [hq]; simp⟩
                subst hr
                clear hq
                go_wp2_with fail
                go_quiet (fail)
                go_wp2_with fail
                go_ret
                exact ⟨rfl, pw_below_drewN HBN.out _⟩
              · have ht : (rd l0 ((P : Int) / 8) / 2 ^ (P % 8) % 2 == 0) = false := by rw [HBT.out, hq]; rfl
                have ht3 : ((rd l0 ((P : Int) / 8) / 2 ^ (P % 8)).tmod 2 == 0) = false := by rw [HBT3.out, hq]; rfl
                have HQ := Aside0.mk hq
                clear hq
                go_wp2_with fail
                go_quiet (fail)
                go_wp2_with fail
                exact ⟨⟨j + 1, by omega, by go_num, ⟨pw_below_drewN HBJ.out _⟩, ⟨fun q hq => by
                  by_cases e : q = j
                  · rw [e, ← HPP.out]; exact HQ.out
                  · exact HALL.out q (by omega)⟩⟩, by simp [intOf]; omega⟩
            · have hr : r = true := by
                rw [← h, List.all_eq_true]
                intro p hp
                obtain ⟨q, hq, rfl⟩ := List.mem_map.1 hp
                exact HALL.out q (by have := List.mem_range.1 hq; omega)
              subst hr
              have HBN : Aside0 (Below w.heap.size w wr) := ⟨below_then HB1.out HB1.out.size HBJ.out⟩
              go_wp2_with fail
              go_ret
              exact ⟨rfl, HBN.out⟩
  · cases h

-- NOT PRINTED: function 4 (screelaw8_BloomMays)

-- NOT PRINTED: function 18 (screeroom_Room_layTexts)

-- NOT PRINTED: function 7 (screeroom_Room_Texts)

/-! ### screeref8_Make: function 8 -/
open Go.Proofs.YtlcohooognjmaaaDoor.Bl Go.Proofs.YtlcohooognjmaaaDoor.G
def sizesC (l : List ByteArray) : Bool := l.all fun s => decide (s.size ≤ 140737488355328)
theorem sizesC_iff {l : List ByteArray} : sizesC l = true ↔ ∀ s ∈ l, s.size ≤ 140737488355328 := by simp [sizesC, List.all_eq_true]
def screeref8_Make.f (l0 : List ByteArray) (a1 : Int) : Option (List Int) := if sizesC l0 = true ∧ l0.length ≤ 8796093022208 ∧ -9223372036854775808 ≤ a1 ∧ a1 ≤ 9223372036854775807 then some (makeL l0 a1) else none
set_option maxHeartbeats 4000000 in
set_option maxRecDepth 100000 in
theorem screeref8_Make.calls (A0 : Option Addr) (c0 : Nat) (l0 : List ByteArray) (a1 : Int) (r : List Int) (w : World) (hr0 : Kd.C Kd.string w A0 l0.length l0) (hc0 : l0.length ≤ c0) (h : screeref8_Make.f l0 a1 = some r) :
    Calls Tryd.prog 8 #[.slice A0 l0.length c0, .int .i64 a1] w fun e w' => ∃ v0_ : Value, e = .returned (v0_) ∧ Kd.R (Kd.int .u8) 5 w' w.heap.size (fun _ => True) v0_ r ∧ Below w.heap.size w w' := by
  unfold screeref8_Make.f at h
  split at h
  · rename_i hh
    obtain ⟨hs, hl, ha1, ha2⟩ := hh
    have hs := sizesC_iff.1 hs
    have h := Option.some.inj h
    unfold makeL at h
    have HR0 := Aside0.mk hr0
    have HS := Aside0.mk hs
    clear hr0 hs
    by_cases h1 : a1 < 1
    · rw [if_pos (.inl h1)] at h
      subst h
      have d1 : decide (a1 < 1) = true := decide_eq_true h1
      go_enter Tryd.func8, Tryd.ntmps8
      go_wp2
      go_ret
      exact ⟨_, rfl, Kd.R_nil _ _ _ _ _, Below.refl _ _⟩
    · have d1 : decide (a1 < 1) = false := decide_eq_false h1
      by_cases h0 : l0.length = 0
      · have hn : l0 = [] := List.eq_nil_of_length_eq_zero h0
        rw [if_pos (.inr hn)] at h
        subst h
        have d2 : ((l0.length : Int) == 0) = true := by rw [beq_iff_eq]; omega
        have d3 : (l0.length == 0) = true := by rw [beq_iff_eq]; omega
        clear h0 hn
        go_enter Tryd.func8, Tryd.ntmps8
        go_wp2
        go_ret
        exact ⟨_, rfl, Kd.R_nil _ _ _ _ _, Below.refl _ _⟩
      · rw [if_neg (by rintro (h2 | h2); exact h1 h2; exact h0 (by rw [h2]; rfl))] at h
        have d2 : ((l0.length : Int) == 0) = false := by rw [beq_eq_false_iff_ne]; omega
        have d3 : (l0.length == 0) = false := by rw [beq_eq_false_iff_ne]; omega
        obtain ⟨b, rfl⟩ := Int.eq_ofNat_of_zero_le (show 0 ≤ a1 by omega)
        rw [Int.toNat_natCast] at h
        obtain ⟨sz, hsz⟩ : ∃ sz, sz = min b 16 := ⟨_, rfl⟩
        rw [← hsz] at h
        have hsz1 : 1 ≤ sz ∧ sz ≤ 16 := by omega
        obtain ⟨M, hM⟩ : ∃ M, M = l0.length * sz := ⟨_, rfl⟩
        have hM1 : M ≤ 140737488355328 := by
          rw [hM]
          have := Nat.mul_le_mul hl hsz1.2
          omega
        have e2 : wrap64 ((l0.length : Int) * (sz : Int)) = (M : Int) := by
          rw [← Int.natCast_mul, ← hM]
          unfold wrap64
          omega
        obtain ⟨m, hm⟩ : ∃ m, m = places l0.length sz := ⟨_, rfl⟩
        have hmg := places_ge l0.length sz
        rw [← hm] at hmg
        obtain ⟨X1, hX1⟩ : ∃ X, X = max M 64 := ⟨_, rfl⟩
        obtain ⟨X2, hX2⟩ : ∃ X, X = min X1 1048576 := ⟨_, rfl⟩
        have hmX : m = (X2 + 7) / 8 * 8 := by
          have h3 : m = min (max ((M + 7) / 8 * 8) 64) 1048576 := by rw [hm, hM]; rfl
          omega
        obtain ⟨q, hq⟩ : ∃ q, q = m / 8 := ⟨_, rfl⟩
        have e5 : ((m : Int) / 8) = (q : Int) := by omega
        obtain ⟨k, hk⟩ : ∃ k, k = probesN sz := ⟨_, rfl⟩
        have hkg := probes_ge sz hsz1.2
        rw [← hk] at hkg
        have hqm : 8 * q = m := by omega
        have HQM := Aside0.mk hqm
        have HSZ := Aside0.mk hsz
        have HX1 := Aside0.mk hX1
        have HX2 := Aside0.mk hX2
        have HMX := Aside0.mk hmX
        have HK := Aside0.mk hk
        have HH : Aside0 (l0.foldl (keyB k m) (List.replicate q 0) ++ [((k : Nat) : Int)] = r) := ⟨by rw [← h, hk, hq, hm]; rfl⟩
        have hq8 : 8 ≤ q ∧ q ≤ 131072 := by omega
        have hX1b : X1 ≤ 140737488355328 ∧ 64 ≤ X1 := by omega
        have hX2b : X2 ≤ 1048576 ∧ 64 ≤ X2 := by omega
        obtain ⟨hq8, hq9⟩ := hq8
        obtain ⟨hX1b, hX1c⟩ := hX1b
        obtain ⟨hX2b, hX2c⟩ := hX2b
        obtain ⟨hm1, hm2, -⟩ := hmg
        obtain ⟨hk1, hk2⟩ := hkg
        obtain ⟨hsz2, hsz3⟩ := hsz1
        clear h hsz hM hm hX1 hX2 hmX hq hk hqm
        go_enter Tryd.func8, Tryd.ntmps8
        go_upto_if 19 with fail
        go_cut [1] (fun s1 wx => s1 = .int .i64 (sz : Int) ∧ wx = w)
        case first =>
          have h := HSZ.out
          by_cases h16 : 16 < b
          · have d4 : decide ((16 : Int) < (b : Int)) = true := decide_eq_true (by omega)
            have hs16 : sz = 16 := by omega
            clear h
            go_wp2_with fail
            go_meet
            case rel => exact ⟨by first | rfl | (rw [hs16]; rfl), rfl⟩
          · have d4 : decide ((16 : Int) < (b : Int)) = false := decide_eq_false (by omega)
            have hs16 : b = sz := by omega
            clear h
            go_wp2_with fail
            go_meet
            case rel => exact ⟨by first | rfl | rw [hs16], rfl⟩
        case rest =>
          obtain ⟨rfl, rfl⟩ := hcut
          go_upto_if 25 with fail
          go_cut [5] (fun s5 wx => s5 = .int .i64 (X1 : Int) ∧ wx = wc)
          case first =>
            have h := HX1.out
            by_cases h16 : M < 64
            · have d4 : decide ((M : Int) < 64) = true := decide_eq_true (by omega)
              have hs16 : X1 = 64 := by omega
              clear h
              go_wp2_with fail
              go_meet
              case rel => exact ⟨by first | rfl | (rw [hs16]; rfl), rfl⟩
            · have d4 : decide ((M : Int) < 64) = false := decide_eq_false (by omega)
              have hs16 : M = X1 := by omega
              clear h
              go_wp2_with fail
              go_meet
              case rel => exact ⟨by first | rfl | rw [hs16], rfl⟩
          case rest =>
            obtain ⟨rfl, rfl⟩ := hcut
            clear e2
            go_upto_if 27 with fail
            go_cut [5] (fun s5 wx => s5 = .int .i64 (X2 : Int) ∧ wx = wc)
            case first =>
              have h := HX2.out
              by_cases h16 : 1048576 < X1
              · have d4 : decide ((1048576 : Int) < (X1 : Int)) = true := decide_eq_true (by omega)
                have hs16 : X2 = 1048576 := by omega
                clear h
                go_wp2_with fail
                go_meet
                case rel => exact ⟨by first | rfl | (rw [hs16]; rfl), rfl⟩
              · have d4 : decide ((1048576 : Int) < (X1 : Int)) = false := decide_eq_false (by omega)
                have hs16 : X1 = X2 := by omega
                clear h
                go_wp2_with fail
                go_meet
                case rel => exact ⟨by first | rfl | rw [hs16], rfl⟩
            case rest =>
              obtain ⟨rfl, rfl⟩ := hcut
              go_wp2_with fail
              go_loop [5] (fun v => ∃ x : Nat, v = .int .i64 (x : Int) ∧ X2 ≤ x ∧ x ≤ m) (fun v => m - (intOf v).toNat)
              case atStart => exact ⟨X2, rfl, Nat.le_refl _, by have := HMX.out; omega⟩
              case round =>
                obtain ⟨x, rfl, hx1, hx2⟩ := hrel
                by_cases hx8 : x % 8 = 0
                · obtain rfl : x = m := by have := HMX.out; omega
                  have d8 : ((x : Int) % 8 != 0) = false := by rw [bne_eq_false_iff_eq]; omega
                  clear hx8
                  go_upto_if 37 with fail
                  go_cut [6] (fun s6 wx => s6 = .int .i64 (k : Int) ∧ wx = wc)
                  case first =>
                    have h := HK.out
                    unfold probesN at h
                    by_cases h16 : (sz : Int) * 69 / 100 < 1
                    · have d4 : decide ((sz : Int) * 69 / 100 < 1) = true := decide_eq_true h16
                      have hs16 : k = 1 := by omega
                      clear h
                      go_wp2_with fail
                      go_meet
                      case rel => exact ⟨by first | rfl | (rw [hs16]; rfl), rfl⟩
                    · have d4 : decide ((sz : Int) * 69 / 100 < 1) = false := decide_eq_false h16
                      have hs16 : (sz : Int) * 69 / 100 = (k : Int) := by omega
                      clear h
                      go_wp2_with fail
                      go_meet
                      case rel => exact ⟨by first | rfl | rw [hs16], rfl⟩
                  case rest =>
                    obtain ⟨rfl, rfl⟩ := hcut
                    go_wp2_with (first | (at_make; go_must (refine R_make_cap (enc := Value.int .u8) (h1 := fun _ => rfl) (w0 := wc) wc.heap.size 5 rfl (N := 40) rfl 42 _ _ rfl (q : Int) (q : Int) rfl rfl Tryd.underlying42 (0 : Int) 1 info5 rfl (by omega) (ok := fun _ => True) trivial (by omega) (by omega) (by omega) (Below.refl _ _) (Nat.le_refl _) ?_); intro v1 w1 ho hb hg hn; (have HO := Aside0.mk ho); (have HB := Aside0.mk hb); clear ho hb hg hn))
                    have hzz := HO.out
                    rw [Int.toNat_natCast] at hzz
                    have HO1 := Aside0.mk hzz
                    obtain ⟨A7, c7, e7⟩ := Kd.R_slice hzz
                    rw [List.length_replicate] at e7
                    subst e7
                    obtain ⟨g, rfl, hg⟩ := own_block HO1.out (by omega)
                    clear HO hzz
                    go_wp2_with fail
                    go_loopw [8] (fun iv wr => ∃ (i : Nat) (L : List Int), i ≤ l0.length ∧ iv = .int .i64 (i : Int) ∧ Aside0 (L = (l0.take i).foldl (keyB k x) (List.replicate q 0)) ∧ Aside0 (Bytes L) ∧ Aside0 (Kd.R (Kd.int .u8) 5 wr wc.heap.size (fun _ => True) (.slice (some ⟨g, 0, none⟩) q c7) L) ∧ Aside0 (Below wc.heap.size wc wr)) (fun iv _ => l0.length - (intOf iv).toNat)
                    case atStart => exact ⟨0, _, by omega, rfl, ⟨rfl⟩, ⟨zeros_bytes q⟩, HO1, HB⟩
                    case round =>
                      clear HO1 HB
                      obtain ⟨i, L, hi, rfl, HL, HLB, HO, HB⟩ := hrel
                      by_cases hlt : i < l0.length
                      · obtain ⟨ad, e1', hcell⟩ := Kd.at_string (Kd.C_below HR0.out HB.out) (i : Int) (by omega) (by omega)
                        cases e1'
                        rw [Int.toNat_natCast] at hcell
                        obtain ⟨s, hs'⟩ : ∃ s, s = l0[i] := ⟨_, rfl⟩
                        have hrd : rdOf ByteArray.empty l0 (i : Int) = s := by rw [hs']; simp [rdOf, List.getD_eq_getElem?_getD, hlt]
                        rw [hrd] at hcell
                        obtain ⟨H, hH⟩ : ∃ H, H = hashS s := ⟨_, rfl⟩
                        have HX : Aside0 (screeref8_spots.f s (k : Int) (x : Int) = some ((spotsL H k x).map fun (p : Nat) => (p : Int))) := ⟨by
                          unfold screeref8_spots.f
                          rw [if_pos ⟨HS.out s (by rw [hs']; exact List.getElem_mem hlt), by omega, by omega, by omega, by omega⟩, ← hH, Int.toNat_natCast, Int.toNat_natCast]⟩
                        have HKS := Aside0.mk (keys_succ k x l0 i hlt (List.replicate q 0))
                        have HSE := Aside0.mk hs'
                        have HHE := Aside0.mk hH
                        clear hH hs' hrd
                        go_wp2_with fail
                        refine (screeref8_spots.calls s (k : Int) (x : Int) _ wr HX.out).mono ?_
                        rintro e w2 ⟨v, rfl, hR, hb1⟩
                        have HSL := Aside0.mk (spots_rd H k x)
                        obtain ⟨Ls, hL⟩ : ∃ L, L = (spotsL H k x).map fun (p : Nat) => (p : Int) := ⟨_, rfl⟩
                        have hLl : Ls.length = k := by rw [hL, List.length_map, spots_len]
                        rw [← hL] at hR HSL
                        have hLo := hR
                        obtain ⟨As, cs, e1, h1', h2⟩ := Kd.R_reads hR
                        rw [hLl] at e1 h1' h2
                        subst e1
                        have HSg : Aside0 (g < wr.heap.size) := ⟨by
                          obtain ⟨inner, hi⟩ := Kd.R_own HO.out
                          exact own_lt hi g rfl⟩
                        have HSO : Aside0 (Kd.R (Kd.int .u64) 55 w2 wr.heap.size (fun q => q ≠ g) (.slice As k cs) Ls) := ⟨Kd.R_mono (Kd.R_bound hLo) (fun q hq => by have h1 := hq.2.1; have h2 := HSg.out; omega)⟩
                        have HO2 := Aside0.mk (Kd.R_below HO.out hb1)
                        have HB2 := Aside0.mk (below_then HB.out HB.out.size hb1)
                        clear hL hLl hR hLo h1' h2 hb1 HO HB hcell
                        go_wp2_with fail
                        go_loopw [10] (fun jv wq => ∃ (j : Nat) (L2 : List Int), j ≤ k ∧ jv = .int .i64 (j : Int) ∧ Aside0 (L2 = (spotsL H j x).foldl setB L) ∧ Aside0 (Bytes L2) ∧ Aside0 (Kd.R (Kd.int .u8) 5 wq wc.heap.size (fun _ => True) (.slice (some ⟨g, 0, none⟩) q c7) L2) ∧ Aside0 (Below wc.heap.size wc wq) ∧ Aside0 (Kd.R (Kd.int .u64) 55 wq wr.heap.size (fun q => q ≠ g) (.slice As k cs) Ls)) (fun jv _ => k - (intOf jv).toNat)
                        case atStart => exact ⟨0, L, by omega, rfl, ⟨rfl⟩, HLB, HO2, HB2, HSO⟩
                        case round =>
                          clear HO2 HB2 HSO
                          obtain ⟨j, L2, hj, rfl, HL2, HLB2, HO, HB, HSO⟩ := hrel
                          by_cases hlt2 : j < k
                          · have hp := prb_lt H j x (by omega)
                            obtain ⟨P, hP⟩ : ∃ P, P = prb H j x := ⟨_, rfl⟩
                            have hsc := (Kd.R_reads' HSO.out).2.2
                            rw [← (Kd.R_reads' HSO.out).1] at hsc
                            obtain ⟨ad2, e2', hcell2⟩ := Kd.at_int hsc (j : Int) (by omega) (by omega)
                            cases e2'
                            rw [Int.toNat_natCast, HSL.out j hlt2, ← hP] at hcell2
                            rw [← hP] at hp
                            have HPP := Aside0.mk hP
                            have hpq : P / 8 < q := by have := HQM.out; omega
                            obtain ⟨hcell, hfz⟩ := Kd.R_celln (0 : Int) HO.out ((P / 8 : Nat) : Int) (by omega) (by omega)
                            rw [Int.toNat_natCast] at hcell hfz
                            clear hP hsc
                            go_wp2_with fail
                            go_region
                            all_goals go_wp2_with fail
                            all_goals exact ⟨⟨j + 1, setB L2 P, by omega, by go_num, ⟨by rw [spots_succ, List.foldl_append, ← HL2.out, ← HPP.out]; rfl⟩, ⟨setB_bytes HLB2.out P⟩, ⟨by rw [← set_eq]; exact Kd.R_putn HO.out ((P / 8 : Nat) : Int) _⟩, ⟨below_drew (below_set HB.out hg)⟩, ⟨Kd.R_far HSO.out (p := ⟨g, P / 8, none⟩) (fun q hq => hq) _⟩⟩, by simp [intOf]; omega⟩
                          · obtain rfl : j = k := by omega
                            go_wp2_with fail
                            exact ⟨⟨i + 1, L2, by omega, by go_num, ⟨by rw [HKS.out, HL2.out, HL.out, ← HSE.out, HHE.out]; rfl⟩, HLB2, HO, HB⟩, by simp [intOf]; omega⟩
                      · obtain rfl : i = l0.length := by omega
                        have HR : Aside0 (L ++ [((k : Nat) : Int)] = r) := ⟨by rw [← HH.out, HL.out, List.take_length]⟩
                        have hkb : (k : Int) % 256 = (k : Int) := by omega
                        go_wp2_with (first
                          | ((with_reducible refine gate_builtin (b := .append) (xs := #[.tmp 83, .tmp 86]) rfl ?_); at_builtin; go_must (refine Kd.R_append (Kd.int .u8) (w0 := wc) wc.heap.size rfl (.tmp 83) (.tmp 86) 42 5 (.int .u8 0) 1 rfl Tryd.underlying42 info5 rfl (by decide) (by omega) _ L (k : Int) [.int .u8 (k : Int)] (fun _ => True) (fun _ => False) rfl rfl rfl (fun _ hk => hk.elim) (fun _ _ => trivial) ?aO ?aB ?aS ?aL ?_); (case aO => exact HO.out); (case aB => exact HB.out); (case aS => exact HB.out.size); (case aL => have := (Kd.R_reads' HO.out).1; omega); intro v2 w2 ho hb hg_ hn_; (have HO2 := Aside0.mk ho); (have HB2 := Aside0.mk hb); clear ho hb hg_ hn_))
                        go_ret
                        exact ⟨_, rfl, by rw [← HR.out]; exact HO2.out, HB2.out⟩
                · have d8 : ((x : Int) % 8 != 0) = true := by rw [bne_iff_ne]; omega
                  go_wp2_with fail
                  go_round
                  case rel => exact ⟨x + 1, by go_num, by omega, by have := HMX.out; omega⟩
                  case measure => have h_ := HMX.out; simp [intOf]; omega
  · cases h

/-! ### screelaw8_sameTexts: function 11 -/
def screelaw8_sameTexts.l0 : Nat → List ByteArray → List ByteArray → Int → Option (Bool)
  | 0, _, _, _ => none
  | k + 1, x0, x1, x5 => if x5 < (x0.length : Int) then (if 0 ≤ x5 then (if x5 < (x1.length : Int) then (if (rdOf ByteArray.empty x0 x5).toList = (rdOf ByteArray.empty x1 x5).toList then (screelaw8_sameTexts.l0 k x0 x1 (wrap64 (x5 + 1))) else (some false)) else (none)) else (none)) else (some true)
def screelaw8_sameTexts.f (k : Nat) (l0 : List ByteArray) (l1 : List ByteArray) : Option (Bool) := if (l0.length : Int) = (l1.length : Int) then (screelaw8_sameTexts.l0 k l0 l1 0) else (some false)
theorem screelaw8_sameTexts.mono_l : ∀ k, (∀ y0 y1 y2, LeO (screelaw8_sameTexts.l0 k y0 y1 y2) (screelaw8_sameTexts.l0 (k + 1) y0 y1 y2))
  | 0 => fun _ _ _ r h => by simp [screelaw8_sameTexts.l0] at h
  | k + 1 => by
    have ih0 := screelaw8_sameTexts.mono_l k
    · intro y0 y1 y2
      unfold screelaw8_sameTexts.l0
      repeat' first
      | (with_reducible exact ih0 _ _ _)
      | (with_reducible exact LeO.refl _)
      | (with_reducible exact LeO.none _)
      | (with_reducible refine LeO.ite ?_ ?_)
      | (with_reducible refine LeO.bind ?_ (fun _ => ?_))
      | exact ih0 _ _ _
      | exact LeO.none _
      | refine LeO.ite ?_ ?_
      | refine LeO.bind ?_ (fun _ => ?_)
theorem screelaw8_sameTexts.mono : ∀ a0 a1 k, LeO (screelaw8_sameTexts.f k a0 a1) (screelaw8_sameTexts.f (k + 1) a0 a1) := by
  intro a0 a1 k
  have ih0 := screelaw8_sameTexts.mono_l k
  unfold screelaw8_sameTexts.f
  repeat' first
      | (with_reducible exact ih0 _ _ _)
      | (with_reducible exact LeO.refl _)
      | (with_reducible exact LeO.none _)
      | (with_reducible refine LeO.ite ?_ ?_)
      | (with_reducible refine LeO.bind ?_ (fun _ => ?_))
      | exact ih0 _ _ _
      | exact LeO.none _
      | refine LeO.ite ?_ ?_
      | refine LeO.bind ?_ (fun _ => ?_)
set_option maxHeartbeats 8000000 in
set_option maxRecDepth 100000 in
theorem screelaw8_sameTexts.calls (k : Nat) (A0 : Option Addr) (c0 : Nat) (l0 : List ByteArray) (A1 : Option Addr) (c1 : Nat) (l1 : List ByteArray) (r : Bool) (w : World) (hr0 : Kd.C Kd.string w A0 l0.length l0) (hc0 : l0.length ≤ c0) (hr1 : Kd.C Kd.string w A1 l1.length l1) (hc1 : l1.length ≤ c1) (h : screelaw8_sameTexts.f k l0 l1 = some r) :
    Calls Tryd.prog 11 #[.slice A0 l0.length c0, .slice A1 l1.length c1] w fun e w' => e = .returned (.bool r) ∧ Drawn0 w w' := by
  have HR0 := Aside0.mk hr0
  have HC0 := Aside0.mk hc0
  clear hr0 hc0
  have HR1 := Aside0.mk hr1
  have HC1 := Aside0.mk hc1
  clear hr1 hc1
  have H : (if (l0.length : Int) = (l1.length : Int) then (screelaw8_sameTexts.l0 k l0 l1 0) else (some false)) = some r := h
  clear h
  by_cases c3 : (l0.length : Int) = (l1.length : Int)
  · rw [if_pos c3] at H
    have c3b0 : ((l0.length : Int) == (l1.length : Int)) = true := beq_iff_eq.mpr c3
    have c3b1 : ((l0.length : Int) != (l1.length : Int)) = false := bne_eq_false_iff_eq.mpr c3
    have c3b2 : (l0.length == l1.length) = true := by first | simpa using c3 | (simp at c3 ⊢; omega)
    clear c3
    have H' := Aside0.mk H
    clear H
    go_enter Tryd.func11, Tryd.ntmps11
    go_wp2
    repeat (go_quiet (fail); try go_wp2)
    go_loopg [5] k (fun kq v5 w' => ∃ (x5_1 : Int), v5 = .int .i64 x5_1 ∧ Aside0 (screelaw8_sameTexts.l0 kq l0 l1 x5_1 = some r) ∧ Aside0 (kq ≤ k) ∧ Drawn0 w w')
    case atStart => exact ⟨(0), (by first | rfl | (simp; done) | (simp [*]; done)), H', ⟨Nat.le_refl _⟩, by repeat (first | exact Drawn0.refl _ | apply Drawn0.step)⟩
    case round =>
      clear H'
      try clear c1
      try clear p2
      try clear c3
      try clear c3b0
      try clear c3b1
      try clear c3b2
      obtain ⟨x5_1, rfl, HA, HK1, ⟨m1, rfl⟩⟩ := hrel
      cases gk with
      | zero => exact absurd HA.out (by simp [screelaw8_sameTexts.l0])
      | succ k1 =>
        have H := HA.out
        clear HA
        simp only [screelaw8_sameTexts.l0] at H
        by_cases c4 : x5_1 < (l0.length : Int)
        · rw [if_pos c4] at H
          have c4b0 : decide (x5_1 < (l0.length : Int)) = true := decide_eq_true c4
          clear c4
          by_cases c5 : 0 ≤ x5_1
          · rw [if_pos c5] at H
            have c5b0 : decide (0 ≤ x5_1) = true := decide_eq_true c5
            clear c5
            by_cases c6 : x5_1 < (l1.length : Int)
            · rw [if_pos c6] at H
              have c6b0 : decide (x5_1 < (l1.length : Int)) = true := decide_eq_true c6
              clear c6
              by_cases c7 : (rdOf ByteArray.empty l0 x5_1).toList = (rdOf ByteArray.empty l1 x5_1).toList
              · rw [if_pos c7] at H
                have c7b0 : ((rdOf ByteArray.empty l0 x5_1).toList == (rdOf ByteArray.empty l1 x5_1).toList) = true := beq_iff_eq.mpr c7
                have c7b1 : ((rdOf ByteArray.empty l0 x5_1).toList != (rdOf ByteArray.empty l1 x5_1).toList) = false := bne_eq_false_iff_eq.mpr c7
                clear c7
                have H' := Aside0.mk H
                clear H
                have p231 : 0 ≤ (x5_1 : Int) := of_decide_eq_true (by first | (with_reducible assumption) | assumption)
                have q231 : x5_1 < (l0.length : Int) := of_decide_eq_true (by first | (with_reducible assumption) | assumption)
                obtain ⟨ad231, e231, hx231_0⟩ := Kd.at_string HR0.out x5_1 p231 q231
                cases e231
                replace p231 := eq_true p231
                replace q231 := eq_true q231
                have p232 : 0 ≤ (x5_1 : Int) := of_decide_eq_true (by first | (with_reducible assumption) | assumption)
                have q232 : x5_1 < (l1.length : Int) := of_decide_eq_true (by first | (with_reducible assumption) | assumption)
                obtain ⟨ad232, e232, hx232_0⟩ := Kd.at_string HR1.out x5_1 p232 q232
                cases e232
                replace p232 := eq_true p232
                replace q232 := eq_true q232
                go_wp2
                repeat (go_quiet (fail); try go_wp2)
                go_roundg k1
                case measure => have := HK1.out; omega
                case rel => exact ⟨(wrap64 (x5_1 + 1)), (by first | rfl | (simp; done) | (simp [*]; done)), H', ⟨by have := HK1.out; omega⟩, by repeat (first | exact Drawn0.refl _ | apply Drawn0.step)⟩
              · rw [if_neg c7] at H
                have c7b0 : ((rdOf ByteArray.empty l0 x5_1).toList == (rdOf ByteArray.empty l1 x5_1).toList) = false := beq_eq_false_iff_ne.mpr c7
                have c7b1 : ((rdOf ByteArray.empty l0 x5_1).toList != (rdOf ByteArray.empty l1 x5_1).toList) = true := bne_iff_ne.mpr c7
                obtain rfl := Option.some.inj H
                have p231 : 0 ≤ (x5_1 : Int) := of_decide_eq_true (by first | (with_reducible assumption) | assumption)
                have q231 : x5_1 < (l0.length : Int) := of_decide_eq_true (by first | (with_reducible assumption) | assumption)
                obtain ⟨ad231, e231, hx231_0⟩ := Kd.at_string HR0.out x5_1 p231 q231
                cases e231
                replace p231 := eq_true p231
                replace q231 := eq_true q231
                have p232 : 0 ≤ (x5_1 : Int) := of_decide_eq_true (by first | (with_reducible assumption) | assumption)
                have q232 : x5_1 < (l1.length : Int) := of_decide_eq_true (by first | (with_reducible assumption) | assumption)
                obtain ⟨ad232, e232, hx232_0⟩ := Kd.at_string HR1.out x5_1 p232 q232
                cases e232
                replace p232 := eq_true p232
                replace q232 := eq_true q232
                go_wp2
                repeat (go_quiet (fail); try go_wp2)
                go_ret
                exact ⟨by first | rfl | (simp; done) | (simp [*]; done), by repeat (first | exact Drawn0.refl _ | apply Drawn0.step)⟩
            · rw [if_neg c6] at H
              exact absurd H (by simp)
          · rw [if_neg c5] at H
            exact absurd H (by simp)
        · rw [if_neg c4] at H
          have c4b0 : decide (x5_1 < (l0.length : Int)) = false := decide_eq_false c4
          clear c4
          obtain rfl := Option.some.inj H
          go_wp2
          repeat (go_quiet (fail); try go_wp2)
          go_ret
          exact ⟨by first | rfl | (simp; done) | (simp [*]; done), by repeat (first | exact Drawn0.refl _ | apply Drawn0.step)⟩
  · rw [if_neg c3] at H
    have c3b0 : ((l0.length : Int) == (l1.length : Int)) = false := beq_eq_false_iff_ne.mpr c3
    have c3b1 : ((l0.length : Int) != (l1.length : Int)) = true := bne_iff_ne.mpr c3
    have c3b2 : (l0.length == l1.length) = false := by first | simpa using c3 | (simp at c3 ⊢; omega)
    obtain rfl := Option.some.inj H
    go_enter Tryd.func11, Tryd.ntmps11
    go_wp2
    repeat (go_quiet (fail); try go_wp2)
    go_ret
    exact ⟨by first | rfl | (simp; done) | (simp [*]; done), by repeat (first | exact Drawn0.refl _ | apply Drawn0.step)⟩

-- NOT PRINTED: function 3 (screelaw8_BloomMakes)

end Go.Proofs.YtlcohooognjmaaaDoor.QBl
