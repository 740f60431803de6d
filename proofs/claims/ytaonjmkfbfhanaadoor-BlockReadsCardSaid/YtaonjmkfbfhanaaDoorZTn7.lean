/- Lemmas of this claim's own, put together: QBox8, RfA, Brst, DMkT, RfB, DMkE, QBox9, Q10, QBox11. -/
import Derived.Test.YtaonjmkfbfhanaaDoorZTn2
import Derived.Test.YtaonjmkfbfhanaaDoorZTn6
import Derived.Test.YtaonjmkfbfhanaaDoorZTn4
import Derived.Test.YtaonjmkfbfhanaaDoorZTn3
import Derived.BigQuiet
import Derived.WalkMore
import Derived.Deep.RegionHeld3
namespace Go.Proofs.YtaonjmkfbfhanaaDoor.QBo
open Go.Proofs.YtaonjmkfbfhanaaDoor.Own
open Go.RowKit Go.Proofs.YtaonjmkfbfhanaaDoorW.PrintWords Go.Proofs.YtaonjmkfbfhanaaDoorW.PrintLast Go.Proofs.YtaonjmkfbfhanaaDoorW.PrintMore
attribute [local go_sem] max2_int min2_int max_two min_two max_three min_three max_four min_four   -- for this text's walks alone
set_option linter.unusedVariables false
set_option linter.unusedSimpArgs false
mutual
def screeref2_Sum_p.l0 : Nat → List Int → Int → Int → Option (Int)
  | 0, _, _, _ => none
  | k + 1, x0, x3, x4 => if x4 < (x0.length : Int) then (if 0 ≤ x4 then (screeref2_Sum_p.l1 k x0 (Go.bits .xor .u32 x3 ((rd x0 x4) % 4294967296)) x4 0) else (none)) else (some (Go.bits .xor .u32 x3 4294967295))
def screeref2_Sum_p.l1 : Nat → List Int → Int → Int → Int → Option (Int)
  | 0, _, _, _, _ => none
  | k + 1, x0, x3, x4, x5 => if x5 < 8 then (if (Int.tmod x3 2) = 1 then (screeref2_Sum_p.l1 k x0 (Go.bits .xor .u32 ((Int.tdiv x3 2) % 4294967296) 2197175160) x4 (wrap64 (x5 + 1))) else (screeref2_Sum_p.l1 k x0 ((Int.tdiv x3 2) % 4294967296) x4 (wrap64 (x5 + 1)))) else (screeref2_Sum_p.l0 k x0 x3 (wrap64 (x4 + 1)))
end
def screeref2_Sum_p.f (k : Nat) (l0 : List Int) : Option (Int) := screeref2_Sum_p.l0 k l0 4294967295 0
theorem screeref2_Sum_p.mono_l : ∀ k, (∀ y0 y1 y2, LeO (screeref2_Sum_p.l0 k y0 y1 y2) (screeref2_Sum_p.l0 (k + 1) y0 y1 y2)) ∧ (∀ y0 y1 y2 y3, LeO (screeref2_Sum_p.l1 k y0 y1 y2 y3) (screeref2_Sum_p.l1 (k + 1) y0 y1 y2 y3))
  | 0 => ⟨fun _ _ _ r h => by simp [screeref2_Sum_p.l0] at h, fun _ _ _ _ r h => by simp [screeref2_Sum_p.l1] at h⟩
  | k + 1 => by
    obtain ⟨ih0, ih1⟩ := screeref2_Sum_p.mono_l k
    refine ⟨?_, ?_⟩
    · intro y0 y1 y2
      unfold screeref2_Sum_p.l0
      repeat' first
      | (with_reducible exact ih0 _ _ _)
      | (with_reducible exact ih1 _ _ _ _)
      | (with_reducible exact LeO.refl _)
      | (with_reducible exact LeO.none _)
      | (with_reducible refine LeO.ite ?_ ?_)
      | (with_reducible refine LeO.bind ?_ (fun _ => ?_))
      | exact ih0 _ _ _
      | exact ih1 _ _ _ _
      | exact LeO.none _
      | refine LeO.ite ?_ ?_
      | refine LeO.bind ?_ (fun _ => ?_)
    · intro y0 y1 y2 y3
      unfold screeref2_Sum_p.l1
      repeat' first
      | (with_reducible exact ih0 _ _ _)
      | (with_reducible exact ih1 _ _ _ _)
      | (with_reducible exact LeO.refl _)
      | (with_reducible exact LeO.none _)
      | (with_reducible refine LeO.ite ?_ ?_)
      | (with_reducible refine LeO.bind ?_ (fun _ => ?_))
      | exact ih0 _ _ _
      | exact ih1 _ _ _ _
      | exact LeO.none _
      | refine LeO.ite ?_ ?_
      | refine LeO.bind ?_ (fun _ => ?_)
theorem screeref2_Sum_p.mono : ∀ a0 k, LeO (screeref2_Sum_p.f k a0) (screeref2_Sum_p.f (k + 1) a0) := by
  intro a0 k
  obtain ⟨ih0, ih1⟩ := screeref2_Sum_p.mono_l k
  unfold screeref2_Sum_p.f
  repeat' first
      | (with_reducible exact ih0 _ _ _)
      | (with_reducible exact ih1 _ _ _ _)
      | (with_reducible exact LeO.refl _)
      | (with_reducible exact LeO.none _)
      | (with_reducible refine LeO.ite ?_ ?_)
      | (with_reducible refine LeO.bind ?_ (fun _ => ?_))
      | exact ih0 _ _ _
      | exact ih1 _ _ _ _
      | exact LeO.none _
      | refine LeO.ite ?_ ?_
      | refine LeO.bind ?_ (fun _ => ?_)
set_option maxHeartbeats 8000000 in
set_option maxRecDepth 100000 in
theorem screeref2_Sum_p.calls (k : Nat) (A0 : Option Addr) (c0 : Nat) (l0 : List Int) (r : Int) (w : World) (hr0 : Kd.C (Kd.int .u8) w A0 l0.length l0) (hc0 : l0.length ≤ c0) (h : screeref2_Sum_p.f k l0 = some r) :
    Calls Tryd.prog 37 #[.slice A0 l0.length c0] w fun e w' => e = .returned (.int .u32 r) ∧ Drawn0 w w' := by
  have HR0 := Aside0.mk hr0
  have HC0 := Aside0.mk hc0
  clear hr0 hc0
  have H : (screeref2_Sum_p.l0 k l0 4294967295 0) = some r := h
  clear h
  have H' := Aside0.mk H
  clear H
  go_enter Tryd.func37, Tryd.ntmps37
  go_wp2
  go_loopg [3, 4] k (fun kq v3 v4 w' => ∃ (x3_1 : Int) (x4_1 : Int), v3 = .int .u32 x3_1 ∧ v4 = .int .i64 x4_1 ∧ Aside0 (screeref2_Sum_p.l0 kq l0 x3_1 x4_1 = some r) ∧ Aside0 (kq ≤ k) ∧ Drawn0 w w')
  case atStart => exact ⟨(4294967295), (0), (by first | rfl | (simp; done) | (simp [*]; done)), (by first | rfl | (simp; done) | (simp [*]; done)), H', ⟨Nat.le_refl _⟩, by repeat (first | exact Drawn0.refl _ | apply Drawn0.step)⟩
  case round =>
    clear H'
    obtain ⟨x3_1, x4_1, rfl, rfl, HA, HK1, ⟨m1, rfl⟩⟩ := hrel
    cases gk with
    | zero => exact absurd HA.out (by simp [screeref2_Sum_p.l0])
    | succ k1 =>
      have H := HA.out
      clear HA
      simp only [screeref2_Sum_p.l0] at H
      by_cases c2 : x4_1 < (l0.length : Int)
      · rw [if_pos c2] at H
        have c2b0 : decide (x4_1 < (l0.length : Int)) = true := decide_eq_true c2
        clear c2
        by_cases c3 : 0 ≤ x4_1
        · rw [if_pos c3] at H
          have c3b0 : decide (0 ≤ x4_1) = true := decide_eq_true c3
          clear c3
          have H' := Aside0.mk H
          clear H
          have p223 : 0 ≤ (x4_1 : Int) := of_decide_eq_true (by first | (with_reducible assumption) | assumption)
          have q223 : x4_1 < (l0.length : Int) := of_decide_eq_true (by first | (with_reducible assumption) | assumption)
          obtain ⟨ad223, e223, hx223_0⟩ := Kd.at_int HR0.out x4_1 p223 q223
          cases e223
          replace p223 := eq_true p223
          replace q223 := eq_true q223
          go_wp2
          go_loopg [3, 5] k1 (fun kq v3 v5 w' => ∃ (x3_2 : Int) (x5_2 : Int), v3 = .int .u32 x3_2 ∧ v5 = .int .i64 x5_2 ∧ Aside0 (screeref2_Sum_p.l1 kq l0 x3_2 x4_1 x5_2 = some r) ∧ Aside0 (kq ≤ k1) ∧ Drawn0 w w')
          case atStart => exact ⟨(Go.bits .xor .u32 x3_1 ((rd l0 x4_1) % 4294967296)), (0), (by first | rfl | (simp; done) | (simp [*]; done)), (by first | rfl | (simp; done) | (simp [*]; done)), H', ⟨Nat.le_refl _⟩, by repeat (first | exact Drawn0.refl _ | apply Drawn0.step)⟩
          case round =>
            clear H'
            try clear c2
            try clear c2b0
            try clear p2
            try clear q2
            try clear hx2
            try clear c3
            try clear c3b0
            try clear hx223_0
            try clear p223
            try clear q223
            obtain ⟨x3_2, x5_2, rfl, rfl, HA, HK2, ⟨m2, rfl⟩⟩ := hrel
            cases gk with
            | zero => exact absurd HA.out (by simp [screeref2_Sum_p.l1])
            | succ k2 =>
              have H := HA.out
              clear HA
              simp only [screeref2_Sum_p.l1] at H
              by_cases c4 : x5_2 < 8
              · rw [if_pos c4] at H
                have c4b0 : decide (x5_2 < 8) = true := decide_eq_true c4
                clear c4
                by_cases c5 : (Int.tmod x3_2 2) = 1
                · rw [if_pos c5] at H
                  have c5b0 : ((Int.tmod x3_2 2) == 1) = true := beq_iff_eq.mpr c5
                  have c5b1 : ((Int.tmod x3_2 2) != 1) = false := bne_eq_false_iff_eq.mpr c5
                  clear c5
                  have H' := Aside0.mk H
                  clear H
                  go_wp2
                  go_roundg k2
                  case measure => have := HK1.out; have := HK2.out; omega
                  case rel => exact ⟨(Go.bits .xor .u32 ((Int.tdiv x3_2 2) % 4294967296) 2197175160), (wrap64 (x5_2 + 1)), (by first | rfl | (simp; done) | (simp [*]; done)), (by first | rfl | (simp; done) | (simp [*]; done)), H', ⟨by have := HK1.out; have := HK2.out; omega⟩, by repeat (first | exact Drawn0.refl _ | apply Drawn0.step)⟩
                · rw [if_neg c5] at H
                  have c5b0 : ((Int.tmod x3_2 2) == 1) = false := beq_eq_false_iff_ne.mpr c5
                  have c5b1 : ((Int.tmod x3_2 2) != 1) = true := bne_iff_ne.mpr c5
                  have H' := Aside0.mk H
                  clear H
                  go_wp2
                  go_roundg k2
                  case measure => have := HK1.out; have := HK2.out; omega
                  case rel => exact ⟨((Int.tdiv x3_2 2) % 4294967296), (wrap64 (x5_2 + 1)), (by first | rfl | (simp; done) | (simp [*]; done)), (by first | rfl | (simp; done) | (simp [*]; done)), H', ⟨by have := HK1.out; have := HK2.out; omega⟩, by repeat (first | exact Drawn0.refl _ | apply Drawn0.step)⟩
              · rw [if_neg c4] at H
                have c4b0 : decide (x5_2 < 8) = false := decide_eq_false c4
                clear c4
                have H' := Aside0.mk H
                clear H
                go_wp2
                go_roundg k2
                case measure => have := HK1.out; have := HK2.out; omega
                case rel => exact ⟨(x3_2), (wrap64 (x4_1 + 1)), (by first | rfl | (simp; done) | (simp [*]; done)), (by first | rfl | (simp; done) | (simp [*]; done)), H', ⟨by have := HK1.out; have := HK2.out; omega⟩, by repeat (first | exact Drawn0.refl _ | apply Drawn0.step)⟩
        · rw [if_neg c3] at H
          exact absurd H (by simp)
      · rw [if_neg c2] at H
        have c2b0 : decide (x4_1 < (l0.length : Int)) = false := decide_eq_false c2
        clear c2
        obtain rfl := Option.some.inj H
        go_wp2
        go_ret
        exact ⟨by first | rfl | (simp; done) | (simp [*]; done), by repeat (first | exact Drawn0.refl _ | apply Drawn0.step)⟩
open Go.Proofs.YtaonjmkfbfhanaaDoor.G
theorem bits_step (x : Nat) (hx : x < 4294967296) : (if Int.tmod (x : Int) 2 = 1 then Go.bits .xor .u32 ((Int.tdiv (x : Int) 2) % 4294967296) 2197175160 else (Int.tdiv (x : Int) 2) % 4294967296) = ((stepN x : Nat) : Int) := by
  have h1 : Int.tmod (x : Int) 2 = ((x % 2 : Nat) : Int) := rfl
  have h2 : Int.tdiv (x : Int) 2 % 4294967296 = ((x / 2 : Nat) : Int) := by rw [show Int.tdiv (x : Int) 2 = ((x / 2 : Nat) : Int) from rfl]; omega
  rw [h1, h2]
  unfold stepN
  by_cases h : x % 2 = 1
  · rw [if_pos h, if_pos (by omega), show (2197175160 : Int) = ((2197175160 : Nat) : Int) from rfl, u32_xor_nat _ _ (by omega) (by omega)]
  · rw [if_neg h, if_neg (by omega)]
theorem stepN_lt (x : Nat) (hx : x < 4294967296) : stepN x < 4294967296 := by
  unfold stepN
  split
  · exact Nat.xor_lt_two_pow (n := 32) (by omega) (by omega)
  · omega
def iter : Nat → Nat → Nat
  | 0, x => x
  | d + 1, x => iter d (stepN x)
theorem l1_ev (l : List Int) (i r : Int) (d : Nat) : ∀ (j : Int) (x : Nat), x < 4294967296 → j + d = 8 → 0 ≤ j → Ev (fun k => screeref2_Sum_p.l0 k l (iter d x : Nat) (wrap64 (i + 1))) r → Ev (fun k => screeref2_Sum_p.l1 k l (x : Int) i j) r := by
  induction d with
  | zero =>
    intro j x hx hj h0 h
    refine Ev.step (fun k => ?_) h
    simp only [screeref2_Sum_p.l1]
    rw [if_neg (by omega)]
    rfl
  | succ d ih =>
    intro j x hx hj h0 h
    refine Ev.step (f := fun k => screeref2_Sum_p.l1 k l (stepN x : Nat) i (j + 1)) (fun k => ?_) (ih (j + 1) (stepN x) (stepN_lt x hx) (by omega) (by omega) h)
    simp only [screeref2_Sum_p.l1]
    rw [if_pos (by omega), show wrap64 (j + 1) = j + 1 by unfold wrap64; omega, ← bits_step x hx]
    split <;> rfl
theorem iter8 (x : Nat) (hx : x < 4294967296) : ((iter 8 x : Nat) : Int) = sum1 (sum1 (x : Int)) := by
  have h1 : iter 8 x = step4 (step4 x) := rfl
  have h2 : step4 x < 4294967296 := stepN_lt _ (stepN_lt _ (stepN_lt _ (stepN_lt _ hx)))
  rw [h1, step4_eq _ h2, step4_eq _ hx]
theorem l0_ev (l : List Int) (hl : Bytes l) (hm : l.length ≤ 9223372036854775806) (d : Nat) : ∀ (i : Nat), i + d = l.length → Ev (fun k => screeref2_Sum_p.l0 k l (sumf (l.take i)) (i : Int)) (sumF l) := by
  induction d with
  | zero =>
    intro i hi
    refine Ev.step (f := fun _ => some (sumF l)) (fun k => ?_) (Ev.now _)
    simp only [screeref2_Sum_p.l0]
    rw [if_neg (by omega), List.take_of_length_le (by omega)]
    have hr := sumf_range hl
    obtain ⟨a, ha⟩ := Int.eq_ofNat_of_zero_le hr.1
    unfold sumF
    rw [ha, show (4294967295 : Int) = ((4294967295 : Nat) : Int) from rfl, u32_xor_nat _ _ (by have := hr.2; omega) (by omega), u32_xor_nat _ _ (by omega) (by have := hr.2; omega), Nat.xor_comm]
  | succ d ih =>
    intro i hi
    have h := ih (i + 1) (by omega)
    have hlt : i < l.length := by omega
    have hr : U32 (sumf (l.take i)) := sumf_range (fun y hy => hl y (List.mem_of_mem_take hy))
    have hb := bytes_rd hl i hlt
    rw [sumf_snoc l i hlt] at h
    have hx := u32_xor_range hr (y := rd l i) ⟨hb.1, by omega⟩
    obtain ⟨x, hxe⟩ := Int.eq_ofNat_of_zero_le hx.1
    have hxl : x < 4294967296 := by have := hx.2; omega
    refine Ev.step (f := fun k => screeref2_Sum_p.l1 k l (x : Int) (i : Int) 0) (fun k => ?_) (l1_ev l i _ 8 0 x hxl (by omega) (by omega) ?_)
    · simp only [screeref2_Sum_p.l0]
      rw [if_pos (by omega), if_pos (by omega), show rd l (i : Int) % 4294967296 = rd l (i : Int) by omega, hxe]
    · rw [iter8 x hxl, show wrap64 ((i : Int) + 1) = ((i + 1 : Nat) : Int) by unfold wrap64; omega]
      unfold sumc at h
      rw [hxe] at h
      exact h
def screeref2_Sum.f (l0 : List Int) : Option Int := if okB l0 = true ∧ l0.length ≤ 140737488355328 then some (sumF l0) else none
theorem screeref2_Sum.calls (A0 : Option Addr) (c0 : Nat) (l0 : List Int) (r : Int) (w : World) (hr0 : Kd.C (Kd.int .u8) w A0 l0.length l0) (hc0 : l0.length ≤ c0) (h : screeref2_Sum.f l0 = some r) :
    Calls Tryd.prog 37 #[.slice A0 l0.length c0] w fun e w' => e = .returned (.int .u32 r) ∧ Drawn0 w w' := by
  unfold screeref2_Sum.f at h
  split at h
  · rename_i hh
    obtain ⟨k, hk⟩ := (l0_ev l0 (okB_iff.1 hh.1) (by omega) l0.length 0 (by omega)).rounds
    rw [Option.some.inj h] at hk
    exact screeref2_Sum_p.calls k A0 c0 l0 r w hr0 hc0 hk
  · cases h
def screeref9_Bytes.l0 : Nat → List Int → List Int → Int → Option (List Int)
  | 0, _, _, _ => none
  | k + 1, x5, x6, x7 => if x7 < (x6.length : Int) then (if 0 ≤ x7 then ((screeref9_four.f (rd x6 x7)).bind fun t231 => (if x5.length + t231.length < 140737488355328 then (screeref9_Bytes.l0 k (x5 ++ t231) x6 (wrap64 (x7 + 1))) else (none))) else (none)) else ((screeref9_four.f (x6.length : Int)).bind fun t237 => (if x5.length + t237.length < 140737488355328 then ((some (x5 ++ t237 : List Int)).bind fun y240 => ((screeref2_Sum.f y240).bind fun t243 => ((screeref2_Four.f t243).bind fun t244 => (if y240.length + t244.length < 140737488355328 then (some (y240 ++ t244)) else (none))))) else (none)))
def screeref9_Bytes.f (k : Nat) (l0 : List (S30)) (a1 : Int) : Option (List Int) := (screeref9_body.f k l0 a1).bind fun bt224 => (screeref9_Bytes.l0 k bt224.1 bt224.2 0)
theorem screeref9_Bytes.mono_l : ∀ k, (∀ y0 y1 y2, LeO (screeref9_Bytes.l0 k y0 y1 y2) (screeref9_Bytes.l0 (k + 1) y0 y1 y2))
  | 0 => fun _ _ _ r h => by simp [screeref9_Bytes.l0] at h
  | k + 1 => by
    have ih0 := screeref9_Bytes.mono_l k
    · intro y0 y1 y2
      unfold screeref9_Bytes.l0
      repeat' first
      | (with_reducible exact ih0 _ _ _)
      | (with_reducible exact screeref9_body.mono _ _ _)
      | (with_reducible exact LeO.refl _)
      | (with_reducible exact LeO.none _)
      | (with_reducible refine LeO.ite ?_ ?_)
      | (with_reducible refine LeO.bind ?_ (fun _ => ?_))
      | exact ih0 _ _ _
      | exact screeref9_body.mono _ _ _
      | exact LeO.none _
      | refine LeO.ite ?_ ?_
      | refine LeO.bind ?_ (fun _ => ?_)
theorem screeref9_Bytes.mono : ∀ a0 a1 k, LeO (screeref9_Bytes.f k a0 a1) (screeref9_Bytes.f (k + 1) a0 a1) := by
  intro a0 a1 k
  have ih0 := screeref9_Bytes.mono_l k
  unfold screeref9_Bytes.f
  repeat' first
      | (with_reducible exact ih0 _ _ _)
      | (with_reducible exact screeref9_body.mono _ _ _)
      | (with_reducible exact LeO.refl _)
      | (with_reducible exact LeO.none _)
      | (with_reducible refine LeO.ite ?_ ?_)
      | (with_reducible refine LeO.bind ?_ (fun _ => ?_))
      | exact ih0 _ _ _
      | exact screeref9_body.mono _ _ _
      | exact LeO.none _
      | refine LeO.ite ?_ ?_
      | refine LeO.bind ?_ (fun _ => ?_)
set_option maxHeartbeats 8000000 in
set_option maxRecDepth 100000 in
theorem screeref9_Bytes.calls (k : Nat) (A0 : Option Addr) (c0 : Nat) (l0 : List (S30)) (a1 : Int) (r : List Int) (w : World) (hr0 : Kd.C k30 w A0 l0.length l0) (hc0 : l0.length ≤ c0) (h : screeref9_Bytes.f k l0 a1 = some r) :
    Calls Tryd.prog 12 #[.slice A0 l0.length c0, .int .i64 a1] w fun e w' => ∃ v0_ : Value, e = .returned (v0_) ∧ Kd.R (Kd.int .u8) 5 w' w.heap.size (fun _ => True) v0_ r ∧ Below w.heap.size w w' := by
  have HR0 := Aside0.mk hr0
  have HC0 := Aside0.mk hc0
  clear hr0 hc0
  have HB := Aside0.mk (Below.refl w.heap.size w)
  have H : ((screeref9_body.f k l0 a1).bind fun bt224 => (screeref9_Bytes.l0 k bt224.1 bt224.2 0)) = some r := h
  clear h
  replace H := Option.bind_eq_some_iff.mp H
  obtain ⟨⟨t224, t225⟩, A30, H⟩ := H
  replace H : (screeref9_Bytes.l0 k t224 t225 0) = some r := H
  have A3 := Aside0.mk A30
  clear A30
  have H' := Aside0.mk H
  clear H
  go_enter Tryd.func12, Tryd.ntmps12
  go_wp2_with (first | ((with_reducible refine gate_callee (f := 34) rfl ?_); refine goesL_ (some 11) rfl rfl Tryd.func34 (by kernel_rfl) rfl #[.slice A0 l0.length c0, .int .i64 a1] rfl (by (try simp only [List.map_toArray, List.map_cons, List.map_nil]); first | done | rfl | (simp only [List.length_drop, List.length_take]; rfl)) ?_; (with_reducible refine (screeref9_body.calls k _ _ l0 a1 t224 t225 _ ?side1 ?side2 A3.out).mono ?_); (case side1 => repeat (first | exact HR0.out | (with_reducible refine Kd.C_alloc ?_ _) | (with_reducible refine Kd.C_drewN ?_ _) | (with_reducible refine Kd.C_drew ?_))); (case side2 => exact HC0.out); rintro e w4 ⟨v226, v228, rfl, ho0, ho1, hb⟩; refine ⟨_, rfl, ?_⟩; have n0_ := Aside0.mk (Kd.R_lower ho0 (below_size (by repeat (first | (with_reducible first | exact HB.out | apply below_alloc | apply pw_below_drewN | apply below_drew1) | exact HB.out)))); have n1_ := Aside0.mk (Kd.R_lower ho1 (below_size (by repeat (first | (with_reducible first | exact HB.out | apply below_alloc | apply pw_below_drewN | apply below_drew1) | exact HB.out)))); have n2_ := Aside0.mk (below_step (by repeat (first | (with_reducible first | exact HB.out | apply below_alloc | apply pw_below_drewN | apply below_drew1) | exact HB.out)) hb); clear HB; have HO227 := n0_; have HO229 := n1_; have HB := n2_; clear n0_ n1_ n2_; (try clear hb); (try clear hb2); (try clear hk); (try clear hi); (try clear ho0); (try clear ho1)))
  go_loopg [5, 7] k (fun kq v5 v7 w' => ∃ (x5_1 : List Int) (x7_1 : Int), v7 = .int .i64 x7_1 ∧ Aside0 (screeref9_Bytes.l0 kq x5_1 t225 x7_1 = some r) ∧ Aside0 (kq ≤ k) ∧ Aside0 (Kd.R (Kd.int .u8) 5 w' w.heap.size (fun _ => True) v5 x5_1) ∧ Aside0 (Kd.R (Kd.int .i64) 3 w' w.heap.size (fun _ => True) v228 t225) ∧ Aside0 (Below w.heap.size w w'))
  case atStart => exact ⟨(t224), (0), (by first | rfl | (simp; done) | (simp [*]; done)), H', ⟨Nat.le_refl _⟩, ⟨by (with_reducible repeat (first | apply Kd.R_alloc | apply Kd.R_drewN | apply Kd.R_drew)); exact HO227.out⟩, ⟨by (with_reducible repeat (first | apply Kd.R_alloc | apply Kd.R_drewN | apply Kd.R_drew)); exact HO229.out⟩, ⟨by repeat (first | (with_reducible first | exact HB.out | apply below_alloc | apply pw_below_drewN | apply below_drew1) | exact HB.out)⟩⟩
  case round =>
    clear H'
    try clear c1
    try clear p2
    try clear c3
    obtain ⟨x5_1, x7_1, rfl, HA, HK1, HO_5, HO_6, HB⟩ := hrel
    cases gk with
    | zero => exact absurd HA.out (by simp [screeref9_Bytes.l0])
    | succ k1 =>
      have H := HA.out
      clear HA
      simp only [screeref9_Bytes.l0] at H
      by_cases c5 : x7_1 < (t225.length : Int)
      · rw [if_pos c5] at H
        have c5b0 : decide (x7_1 < (t225.length : Int)) = true := decide_eq_true c5
        clear c5
        by_cases c6 : 0 ≤ x7_1
        · rw [if_pos c6] at H
          have c6b0 : decide (0 ≤ x7_1) = true := decide_eq_true c6
          clear c6
          replace H := Option.bind_eq_some_iff.mp H
          obtain ⟨t231, A70, H⟩ := H
          replace H : (if x5_1.length + t231.length < 140737488355328 then (screeref9_Bytes.l0 k1 (x5_1 ++ t231) t225 (wrap64 (x7_1 + 1))) else (none)) = some r := H
          have A7 := Aside0.mk A70
          clear A70
          by_cases c8 : x5_1.length + t231.length < 140737488355328
          · rw [if_pos c8] at H
            have LMc8 := Aside0.mk c8
            clear c8
            obtain ⟨y234, hy234⟩ : ∃ y_ : List Int, y_ = (x5_1 ++ t231) := ⟨_, rfl⟩
            replace H : (screeref9_Bytes.l0 k1 y234 t225 (wrap64 (x7_1 + 1))) = some r := by first | (rw [hy234]; with_reducible exact H) | (have H2_ := (Option.bind_some _ _).symm.trans H; rw [hy234]; with_reducible exact H2_) | (have H2_ := (Option.bind_some _ _).symm.trans H; with_reducible exact H2_) | with_reducible exact H | (rw [hy234]; exact H) | exact H
            have Ny234 := Aside0.mk hy234
            clear hy234
            have H' := Aside0.mk H
            clear H
            obtain ⟨Ao9, co9, eo9⟩ := Kd.R_slice HO_6.out
            subst eo9
            have p230 : 0 ≤ (x7_1 : Int) := of_decide_eq_true (by first | (with_reducible assumption) | assumption)
            have q230 : x7_1 < (t225.length : Int) := of_decide_eq_true (by first | (with_reducible assumption) | assumption)
            obtain ⟨ad230, e230, hx230_0⟩ := Kd.at_int (Kd.R_reads' HO_6.out).2.2 x7_1 p230 q230
            cases e230
            replace p230 := eq_true p230
            replace q230 := eq_true q230
            go_wp2_with (first | ((with_reducible refine gate_callee (f := 35) rfl ?_); refine goesL_ (some 25) rfl rfl Tryd.func35 (by kernel_rfl) rfl #[.int .i64 (rd t225 x7_1)] rfl (by (try simp only [List.map_toArray, List.map_cons, List.map_nil]); first | done | rfl | (simp only [List.length_drop, List.length_take]; rfl)) ?_; (with_reducible refine (screeref9_four.calls (rd t225 x7_1) t231 _ A7.out).mono ?_); rintro e w10 ⟨v232, rfl, ho0, hb⟩; refine ⟨_, rfl, ?_⟩; have n0_ := Aside0.mk (Kd.R_elder' (by (with_reducible repeat (first | apply Kd.R_alloc | apply Kd.R_drewN | apply Kd.R_drew)); exact HO_5.out) (Kd.R_base ho0) hb); have n1_ := Aside0.mk (Kd.R_below (by (with_reducible repeat (first | apply Kd.R_alloc | apply Kd.R_drewN | apply Kd.R_drew)); exact HO_6.out) hb); have n2_ := Aside0.mk (Kd.R_lower (Kd.R_new' ho0 (Kd.R_lt (by (with_reducible repeat (first | apply Kd.R_alloc | apply Kd.R_drewN | apply Kd.R_drew)); exact HO_5.out))) (below_size (by repeat (first | (with_reducible first | exact HB.out | apply below_alloc | apply pw_below_drewN | apply below_drew1) | exact HB.out)))); have n3_ := Aside0.mk (below_step (by repeat (first | (with_reducible first | exact HB.out | apply below_alloc | apply pw_below_drewN | apply below_drew1) | exact HB.out)) hb); clear HO_5; clear HO_6; clear HB; have HO_5 := n0_; have HO_6 := n1_; have HO233 := n2_; have HB := n3_; clear n0_ n1_ n2_ n3_; (try clear hb); (try clear hb2); (try clear hk); (try clear hi); (try clear ho0); obtain ⟨Ao12, co12, eo12⟩ := Kd.R_slice HO233.out; subst eo12) | ((with_reducible refine gate_builtin (b := .append) (xs := #[.tmp 20, .tmp 25]) rfl ?_); at_builtin; refine Kd.R_append_rows (Kd.int .u8) (w0 := w) w.heap.size rfl (.tmp 20) (.tmp 25) 22 5 (.int .u8 0) 1 rfl Tryd.underlying22 info5 rfl (by decide) (by omega) u5 x5_1 t231 _ _ _ (fun k_ => some k_ ≠ (.slice Ao12 t231.length co12 : Value).ownBlock) (fun _ => False) rfl rfl ?aO ?aR (fun _ _ h => h) (fun _ h => h.elim) ?aF ?aB ?aS ?aL ?_; (case aR => repeat (first | exact (Kd.R_reads' HO233.out).2.2 | (with_reducible refine Kd.C_alloc ?_ _) | (with_reducible refine Kd.C_drewN ?_ _) | (with_reducible refine Kd.C_drew ?_))); (case aB => exact (by repeat (first | (with_reducible first | exact HB.out | apply below_alloc | apply pw_below_drewN | apply below_drew1) | exact HB.out))); (case aF => exact (fun k_ hk => Kd.fresh' (Kd.R_lt (by (with_reducible repeat (first | apply Kd.R_alloc | apply Kd.R_drewN | apply Kd.R_drew)); exact HO233.out)) k_ hk)); (case aO => exact (by (with_reducible repeat (first | apply Kd.R_alloc | apply Kd.R_drewN | apply Kd.R_drew)); exact Kd.R_mono HO_5.out (fun _ hk => hk.2))); (case aS => exact (below_size (by repeat (first | (with_reducible first | exact HB.out | apply below_alloc | apply pw_below_drewN | apply below_drew1) | exact HB.out)))); (case aL => have := LMc8.out; omega); intro v235 w11 ho hb hg hat; rw [← Ny234.out] at ho; have n0_ := Aside0.mk (Kd.R_over' (by (with_reducible repeat (first | apply Kd.R_alloc | apply Kd.R_drewN | apply Kd.R_drew)); exact HO_6.out) (Kd.R_typed (by (with_reducible repeat (first | apply Kd.R_alloc | apply Kd.R_drewN | apply Kd.R_drew)); exact HO_5.out)) (by decide) hg); have n1_ := Aside0.mk (Kd.R_after (ok := (fun _ => True)) (by (with_reducible repeat (first | apply Kd.R_alloc | apply Kd.R_drewN | apply Kd.R_drew)); exact HO233.out) hg hat); have n2_ := Aside0.mk (hb); have n3_ := Aside0.mk (ho); clear HO_6; clear HO233; clear HB; clear HO_5; have HO_6 := n0_; have HO233 := n1_; have HB := n2_; have HO236 := n3_; clear n0_ n1_ n2_ n3_; clear ho hb hg hat))
            go_roundg k1
            case measure => have := HK1.out; omega
            case rel => exact ⟨(y234), (wrap64 (x7_1 + 1)), (by first | rfl | (simp; done) | (simp [*]; done)), H', ⟨by have := HK1.out; omega⟩, ⟨by (with_reducible repeat (first | apply Kd.R_alloc | apply Kd.R_drewN | apply Kd.R_drew)); exact Kd.R_mono HO236.out (fun _ hk => trivial)⟩, ⟨by (with_reducible repeat (first | apply Kd.R_alloc | apply Kd.R_drewN | apply Kd.R_drew)); exact HO_6.out⟩, ⟨by repeat (first | (with_reducible first | exact HB.out | apply below_alloc | apply pw_below_drewN | apply below_drew1) | exact HB.out)⟩⟩
          · rw [if_neg c8] at H
            exact absurd H (by simp)
        · rw [if_neg c6] at H
          exact absurd H (by simp)
      · rw [if_neg c5] at H
        have c5b0 : decide (x7_1 < (t225.length : Int)) = false := decide_eq_false c5
        clear c5
        replace H := Option.bind_eq_some_iff.mp H
        obtain ⟨t237, A130, H⟩ := H
        replace H : (if x5_1.length + t237.length < 140737488355328 then ((some (x5_1 ++ t237 : List Int)).bind fun y240 => ((screeref2_Sum.f y240).bind fun t243 => ((screeref2_Four.f t243).bind fun t244 => (if y240.length + t244.length < 140737488355328 then (some (y240 ++ t244)) else (none))))) else (none)) = some r := H
        have A13 := Aside0.mk A130
        clear A130
        by_cases c14 : x5_1.length + t237.length < 140737488355328
        · rw [if_pos c14] at H
          have LMc14 := Aside0.mk c14
          clear c14
          obtain ⟨y240, hy240⟩ : ∃ y_ : List Int, y_ = (x5_1 ++ t237) := ⟨_, rfl⟩
          replace H : ((screeref2_Sum.f y240).bind fun t243 => ((screeref2_Four.f t243).bind fun t244 => (if y240.length + t244.length < 140737488355328 then (some (y240 ++ t244)) else (none)))) = some r := by first | (rw [hy240]; with_reducible exact H) | (have H2_ := (Option.bind_some _ _).symm.trans H; rw [hy240]; with_reducible exact H2_) | (have H2_ := (Option.bind_some _ _).symm.trans H; with_reducible exact H2_) | with_reducible exact H | (rw [hy240]; exact H) | exact H
          have Ny240 := Aside0.mk hy240
          clear hy240
          replace H := Option.bind_eq_some_iff.mp H
          obtain ⟨t243, A150, H⟩ := H
          replace H : ((screeref2_Four.f t243).bind fun t244 => (if y240.length + t244.length < 140737488355328 then (some (y240 ++ t244)) else (none))) = some r := H
          have A15 := Aside0.mk A150
          clear A150
          replace H := Option.bind_eq_some_iff.mp H
          obtain ⟨t244, A160, H⟩ := H
          replace H : (if y240.length + t244.length < 140737488355328 then (some (y240 ++ t244)) else (none)) = some r := H
          have A16 := Aside0.mk A160
          clear A160
          by_cases c17 : y240.length + t244.length < 140737488355328
          · rw [if_pos c17] at H
            have LMc17 := Aside0.mk c17
            clear c17
            obtain ⟨y247, hy247⟩ : ∃ y_ : List Int, y_ = (y240 ++ t244) := ⟨_, rfl⟩
            replace H : (some y247) = some r := by first | (rw [hy247]; with_reducible exact H) | (have H2_ := (Option.bind_some _ _).symm.trans H; rw [hy247]; with_reducible exact H2_) | (have H2_ := (Option.bind_some _ _).symm.trans H; with_reducible exact H2_) | with_reducible exact H | (rw [hy247]; exact H) | exact H
            have Ny247 := Aside0.mk hy247
            clear hy247
            obtain rfl := Option.some.inj H
            obtain ⟨Ao18, co18, eo18⟩ := Kd.R_slice HO_6.out
            subst eo18
            go_wp2_with (first | ((with_reducible refine gate_callee (f := 35) rfl ?_); refine goesL_ (some 30) rfl rfl Tryd.func35 (by kernel_rfl) rfl #[.int .i64 (t225.length : Int)] rfl (by (try simp only [List.map_toArray, List.map_cons, List.map_nil]); first | done | rfl | (simp only [List.length_drop, List.length_take]; rfl)) ?_; (with_reducible refine (screeref9_four.calls (t225.length : Int) t237 _ A13.out).mono ?_); rintro e w19 ⟨v238, rfl, ho0, hb⟩; refine ⟨_, rfl, ?_⟩; have n0_ := Aside0.mk (Kd.R_elder' (by (with_reducible repeat (first | apply Kd.R_alloc | apply Kd.R_drewN | apply Kd.R_drew)); exact HO_5.out) (Kd.R_base ho0) hb); have n1_ := Aside0.mk (Kd.R_below (by (with_reducible repeat (first | apply Kd.R_alloc | apply Kd.R_drewN | apply Kd.R_drew)); exact HO_6.out) hb); have n2_ := Aside0.mk (Kd.R_lower (Kd.R_new' ho0 (Kd.R_lt (by (with_reducible repeat (first | apply Kd.R_alloc | apply Kd.R_drewN | apply Kd.R_drew)); exact HO_5.out))) (below_size (by repeat (first | (with_reducible first | exact HB.out | apply below_alloc | apply pw_below_drewN | apply below_drew1) | exact HB.out)))); have n3_ := Aside0.mk (below_step (by repeat (first | (with_reducible first | exact HB.out | apply below_alloc | apply pw_below_drewN | apply below_drew1) | exact HB.out)) hb); clear HO_5; clear HO_6; clear HB; have HO_5 := n0_; have HO_6 := n1_; have HO239 := n2_; have HB := n3_; clear n0_ n1_ n2_ n3_; (try clear hb); (try clear hb2); (try clear hk); (try clear hi); (try clear ho0); obtain ⟨Ao21, co21, eo21⟩ := Kd.R_slice HO239.out; subst eo21) | ((with_reducible refine gate_builtin (b := .append) (xs := #[.tmp 27, .tmp 30]) rfl ?_); at_builtin; refine Kd.R_append_rows (Kd.int .u8) (w0 := w) w.heap.size rfl (.tmp 27) (.tmp 30) 22 5 (.int .u8 0) 1 rfl Tryd.underlying22 info5 rfl (by decide) (by omega) u5 x5_1 t237 _ _ _ (fun k_ => some k_ ≠ (.slice Ao21 t237.length co21 : Value).ownBlock) (fun _ => False) rfl rfl ?aO ?aR (fun _ _ h => h) (fun _ h => h.elim) ?aF ?aB ?aS ?aL ?_; (case aR => repeat (first | exact (Kd.R_reads' HO239.out).2.2 | (with_reducible refine Kd.C_alloc ?_ _) | (with_reducible refine Kd.C_drewN ?_ _) | (with_reducible refine Kd.C_drew ?_))); (case aB => exact (by repeat (first | (with_reducible first | exact HB.out | apply below_alloc | apply pw_below_drewN | apply below_drew1) | exact HB.out))); (case aF => exact (fun k_ hk => Kd.fresh' (Kd.R_lt (by (with_reducible repeat (first | apply Kd.R_alloc | apply Kd.R_drewN | apply Kd.R_drew)); exact HO239.out)) k_ hk)); (case aO => exact (by (with_reducible repeat (first | apply Kd.R_alloc | apply Kd.R_drewN | apply Kd.R_drew)); exact Kd.R_mono HO_5.out (fun _ hk => hk.2))); (case aS => exact (below_size (by repeat (first | (with_reducible first | exact HB.out | apply below_alloc | apply pw_below_drewN | apply below_drew1) | exact HB.out)))); (case aL => have := LMc14.out; omega); intro v241 w20 ho hb hg hat; rw [← Ny240.out] at ho; have n0_ := Aside0.mk (Kd.R_over' (by (with_reducible repeat (first | apply Kd.R_alloc | apply Kd.R_drewN | apply Kd.R_drew)); exact HO_6.out) (Kd.R_typed (by (with_reducible repeat (first | apply Kd.R_alloc | apply Kd.R_drewN | apply Kd.R_drew)); exact HO_5.out)) (by decide) hg); have n1_ := Aside0.mk (Kd.R_after (ok := (fun _ => True)) (by (with_reducible repeat (first | apply Kd.R_alloc | apply Kd.R_drewN | apply Kd.R_drew)); exact HO239.out) hg hat); have n2_ := Aside0.mk (hb); have n3_ := Aside0.mk (ho); clear HO_6; clear HO239; clear HB; clear HO_5; have HO_6 := n0_; have HO239 := n1_; have HB := n2_; have HO242 := n3_; clear n0_ n1_ n2_ n3_; clear ho hb hg hat; obtain ⟨Ao22, co22, eo22⟩ := Kd.R_slice HO242.out; subst eo22) | ((with_reducible refine gate_callee (f := 37) rfl ?_); refine goesL_ (some 34) rfl rfl Tryd.func37 (by kernel_rfl) rfl #[.slice Ao22 y240.length co22] rfl (by (try simp only [List.map_toArray, List.map_cons, List.map_nil]); first | done | rfl | (simp only [List.length_drop, List.length_take]; rfl)) ?_; (with_reducible refine (screeref2_Sum.calls _ _ y240 t243 _ ?side1 ?side2 A15.out).mono ?_); (case side1 => repeat (first | exact (Kd.R_reads' HO242.out).2.2 | (with_reducible refine Kd.C_alloc ?_ _) | (with_reducible refine Kd.C_drewN ?_ _) | (with_reducible refine Kd.C_drew ?_))); (case side2 => exact (Kd.R_reads' HO242.out).2.1); rintro e w' ⟨rfl, ⟨nd, rfl⟩⟩; refine ⟨_, rfl, ?_⟩) | ((with_reducible refine gate_callee (f := 36) rfl ?_); refine goesL_ (some 35) rfl rfl Tryd.func36 (by kernel_rfl) rfl #[.int .u32 t243] rfl (by (try simp only [List.map_toArray, List.map_cons, List.map_nil]); first | done | rfl | (simp only [List.length_drop, List.length_take]; rfl)) ?_; (with_reducible refine (screeref2_Four.calls t243 t244 _ A16.out).mono ?_); rintro e w23 ⟨v245, rfl, ho0, hb⟩; refine ⟨_, rfl, ?_⟩; have n0_ := Aside0.mk (Kd.R_below (by (with_reducible repeat (first | apply Kd.R_alloc | apply Kd.R_drewN | apply Kd.R_drew)); exact HO_6.out) hb); have n1_ := Aside0.mk (Kd.R_elder' (by (with_reducible repeat (first | apply Kd.R_alloc | apply Kd.R_drewN | apply Kd.R_drew)); exact HO239.out) (Kd.R_base ho0) hb); have n2_ := Aside0.mk (Kd.R_elder' (by (with_reducible repeat (first | apply Kd.R_alloc | apply Kd.R_drewN | apply Kd.R_drew)); exact HO242.out) (Kd.R_base ho0) hb); have n3_ := Aside0.mk (Kd.R_lower (Kd.R_new' (Kd.R_new' ho0 (Kd.R_lt (by (with_reducible repeat (first | apply Kd.R_alloc | apply Kd.R_drewN | apply Kd.R_drew)); exact HO239.out))) (Kd.R_lt (by (with_reducible repeat (first | apply Kd.R_alloc | apply Kd.R_drewN | apply Kd.R_drew)); exact HO242.out))) (below_size (by repeat (first | (with_reducible first | exact HB.out | apply below_alloc | apply pw_below_drewN | apply below_drew1) | exact HB.out)))); have n4_ := Aside0.mk (below_step (by repeat (first | (with_reducible first | exact HB.out | apply below_alloc | apply pw_below_drewN | apply below_drew1) | exact HB.out)) hb); clear HO_6; clear HO239; clear HO242; clear HB; have HO_6 := n0_; have HO239 := n1_; have HO242 := n2_; have HO246 := n3_; have HB := n4_; clear n0_ n1_ n2_ n3_ n4_; (try clear hb); (try clear hb2); (try clear hk); (try clear hi); (try clear ho0); obtain ⟨Ao25, co25, eo25⟩ := Kd.R_slice HO246.out; subst eo25) | ((with_reducible refine gate_builtin (b := .append) (xs := #[.tmp 32, .tmp 35]) rfl ?_); at_builtin; refine Kd.R_append_rows (Kd.int .u8) (w0 := w) w.heap.size rfl (.tmp 32) (.tmp 35) 22 5 (.int .u8 0) 1 rfl Tryd.underlying22 info5 rfl (by decide) (by omega) (.slice Ao22 y240.length co22) y240 t244 _ _ _ (fun k_ => some k_ ≠ (.slice Ao21 t237.length co21 : Value).ownBlock ∧ some k_ ≠ (.slice Ao25 t244.length co25 : Value).ownBlock) (fun _ => False) rfl rfl ?aO ?aR (fun _ _ h => h) (fun _ h => h.elim) ?aF ?aB ?aS ?aL ?_; (case aR => repeat (first | exact (Kd.R_reads' HO246.out).2.2 | (with_reducible refine Kd.C_alloc ?_ _) | (with_reducible refine Kd.C_drewN ?_ _) | (with_reducible refine Kd.C_drew ?_))); (case aB => exact (by repeat (first | (with_reducible first | exact HB.out | apply below_alloc | apply pw_below_drewN | apply below_drew1) | exact HB.out))); (case aF => exact (fun k_ hk => ⟨Kd.fresh' (Kd.R_lt (by (with_reducible repeat (first | apply Kd.R_alloc | apply Kd.R_drewN | apply Kd.R_drew)); exact HO239.out)) k_ hk, Kd.fresh' (Kd.R_lt (by (with_reducible repeat (first | apply Kd.R_alloc | apply Kd.R_drewN | apply Kd.R_drew)); exact HO246.out)) k_ hk⟩)); (case aO => exact (by (with_reducible repeat (first | apply Kd.R_alloc | apply Kd.R_drewN | apply Kd.R_drew)); exact HO242.out)); (case aS => exact (below_size (by repeat (first | (with_reducible first | exact HB.out | apply below_alloc | apply pw_below_drewN | apply below_drew1) | exact HB.out)))); (case aL => have := LMc17.out; omega); intro v248 w24 ho hb hg hat; rw [← Ny247.out] at ho; have n0_ := Aside0.mk (Kd.R_over' (by (with_reducible repeat (first | apply Kd.R_alloc | apply Kd.R_drewN | apply Kd.R_drew)); exact HO_6.out) (Kd.R_typed (by (with_reducible repeat (first | apply Kd.R_alloc | apply Kd.R_drewN | apply Kd.R_drew)); exact HO242.out)) (by decide) hg); have n1_ := Aside0.mk (Kd.R_after (ok := (fun k_ => some k_ ≠ (.slice Ao25 t244.length co25 : Value).ownBlock)) (by (with_reducible repeat (first | apply Kd.R_alloc | apply Kd.R_drewN | apply Kd.R_drew)); exact Kd.R_mono HO239.out (fun _ hk => ⟨hk.2, hk.1.2⟩)) hg hat); have n2_ := Aside0.mk (Kd.R_after (ok := (fun k_ => some k_ ≠ (.slice Ao21 t237.length co21 : Value).ownBlock)) (by (with_reducible repeat (first | apply Kd.R_alloc | apply Kd.R_drewN | apply Kd.R_drew)); exact Kd.R_mono HO246.out (fun _ hk => ⟨hk.1.2, hk.2⟩)) hg hat); have n3_ := Aside0.mk (hb); have n4_ := Aside0.mk (ho); clear HO_6; clear HO239; clear HO246; clear HB; clear HO242; have HO_6 := n0_; have HO239 := n1_; have HO246 := n2_; have HB := n3_; have HO249 := n4_; clear n0_ n1_ n2_ n3_ n4_; clear ho hb hg hat))
            go_ret
            exact ⟨_, by first | rfl | (simp [errW_none, errW_some] <;> rfl) | (simp [*, errW_none, errW_some] <;> rfl), by (with_reducible repeat (first | apply Kd.R_alloc | apply Kd.R_drewN | apply Kd.R_drew)); exact Kd.R_mono HO249.out (fun _ hk => trivial), by repeat (first | (with_reducible first | exact HB.out | apply below_alloc | apply pw_below_drewN | apply below_drew1) | exact HB.out)⟩
          · rw [if_neg c17] at H
            exact absurd H (by simp)
        · rw [if_neg c14] at H
          exact absurd H (by simp)
def screeref9_number.f (l0 : List Int) : Option (Int) := if 0 < (l0.length : Int) then (if 1 < (l0.length : Int) then (if 2 < (l0.length : Int) then (if 3 < (l0.length : Int) then (some (wrap64 ((wrap64 ((wrap64 ((wrap64 (rd l0 0)) + (wrap64 ((wrap64 (rd l0 1)) * 256)))) + (wrap64 ((wrap64 (rd l0 2)) * 65536)))) + (wrap64 ((wrap64 (rd l0 3)) * 16777216))))) else (none)) else (none)) else (none)) else (none)
set_option maxHeartbeats 8000000 in
set_option maxRecDepth 100000 in
theorem screeref9_number.calls (A0 : Option Addr) (c0 : Nat) (l0 : List Int) (r : Int) (w : World) (hr0 : Kd.C (Kd.int .u8) w A0 l0.length l0) (hc0 : l0.length ≤ c0) (h : screeref9_number.f l0 = some r) :
    Calls Tryd.prog 44 #[.slice A0 l0.length c0] w fun e w' => e = .returned (.int .i64 r) ∧ Drawn0 w w' := by
  have HR0 := Aside0.mk hr0
  have HC0 := Aside0.mk hc0
  clear hr0 hc0
  have H : (if 0 < (l0.length : Int) then (if 1 < (l0.length : Int) then (if 2 < (l0.length : Int) then (if 3 < (l0.length : Int) then (some (wrap64 ((wrap64 ((wrap64 ((wrap64 (rd l0 0)) + (wrap64 ((wrap64 (rd l0 1)) * 256)))) + (wrap64 ((wrap64 (rd l0 2)) * 65536)))) + (wrap64 ((wrap64 (rd l0 3)) * 16777216))))) else (none)) else (none)) else (none)) else (none)) = some r := h
  clear h
  by_cases c2 : 0 < (l0.length : Int)
  · rw [if_pos c2] at H
    have c2b0 : decide (0 < (l0.length : Int)) = true := decide_eq_true c2
    have c2b1 : decide (0 < l0.length) = true := decide_eq_true (by omega)
    clear c2
    by_cases c3 : 1 < (l0.length : Int)
    · rw [if_pos c3] at H
      have c3b0 : decide (1 < (l0.length : Int)) = true := decide_eq_true c3
      have c3b1 : decide (1 < l0.length) = true := decide_eq_true (by omega)
      clear c3
      by_cases c4 : 2 < (l0.length : Int)
      · rw [if_pos c4] at H
        have c4b0 : decide (2 < (l0.length : Int)) = true := decide_eq_true c4
        have c4b1 : decide (2 < l0.length) = true := decide_eq_true (by omega)
        clear c4
        by_cases c5 : 3 < (l0.length : Int)
        · rw [if_pos c5] at H
          have c5b0 : decide (3 < (l0.length : Int)) = true := decide_eq_true c5
          have c5b1 : decide (3 < l0.length) = true := decide_eq_true (by omega)
          clear c5
          obtain rfl := Option.some.inj H
          have p250 : 0 ≤ (0 : Int) := (by omega)
          have q250 : 0 < (l0.length : Int) := of_decide_eq_true (by first | (with_reducible assumption) | assumption)
          obtain ⟨ad250, e250, hx250_0⟩ := Kd.at_int HR0.out 0 p250 q250
          cases e250
          have qi250 : (0 < l0.length) = True := eq_true (by omega)
          (try rw [show ((0 : Int)).toNat = 0 from rfl] at hx250_0)
          (try rw [Addr.add_zero'] at hx250_0)
          replace p250 := eq_true p250
          replace q250 := eq_true q250
          have p251 : 0 ≤ (1 : Int) := (by omega)
          have q251 : 1 < (l0.length : Int) := of_decide_eq_true (by first | (with_reducible assumption) | assumption)
          obtain ⟨ad251, e251, hx251_0⟩ := Kd.at_int HR0.out 1 p251 q251
          obtain rfl : ad250 = ad251 := (by injection e251)
          (try simp only [show (1 : Int).toNat = 1 from rfl, Nat.reduceMul, Nat.reduceEqDiff, Go.Addr.add, ↓reduceIte] at hx251_0)
          have qi251 : (1 < l0.length) = True := eq_true (by omega)
          (try rw [show ((1 : Int)).toNat = 1 from rfl] at hx251_0)
          replace p251 := eq_true p251
          replace q251 := eq_true q251
          have p252 : 0 ≤ (2 : Int) := (by omega)
          have q252 : 2 < (l0.length : Int) := of_decide_eq_true (by first | (with_reducible assumption) | assumption)
          obtain ⟨ad252, e252, hx252_0⟩ := Kd.at_int HR0.out 2 p252 q252
          obtain rfl : ad250 = ad252 := (by injection e252)
          (try simp only [show (2 : Int).toNat = 2 from rfl, Nat.reduceMul, Nat.reduceEqDiff, Go.Addr.add, ↓reduceIte] at hx252_0)
          have qi252 : (2 < l0.length) = True := eq_true (by omega)
          (try rw [show ((2 : Int)).toNat = 2 from rfl] at hx252_0)
          replace p252 := eq_true p252
          replace q252 := eq_true q252
          have p253 : 0 ≤ (3 : Int) := (by omega)
          have q253 : 3 < (l0.length : Int) := of_decide_eq_true (by first | (with_reducible assumption) | assumption)
          obtain ⟨ad253, e253, hx253_0⟩ := Kd.at_int HR0.out 3 p253 q253
          obtain rfl : ad250 = ad253 := (by injection e253)
          (try simp only [show (3 : Int).toNat = 3 from rfl, Nat.reduceMul, Nat.reduceEqDiff, Go.Addr.add, ↓reduceIte] at hx253_0)
          have qi253 : (3 < l0.length) = True := eq_true (by omega)
          (try rw [show ((3 : Int)).toNat = 3 from rfl] at hx253_0)
          replace p253 := eq_true p253
          replace q253 := eq_true q253
          go_enter Tryd.func44, Tryd.ntmps44
          go_wp2
          repeat (go_quiet (fail); try go_wp2)
          go_ret
          exact ⟨by first | rfl | (simp; done) | (simp [*]; done), by repeat (first | exact Drawn0.refl _ | apply Drawn0.step)⟩
        · rw [if_neg c5] at H
          exact absurd H (by simp)
      · rw [if_neg c4] at H
        exact absurd H (by simp)
    · rw [if_neg c3] at H
      exact absurd H (by simp)
  · rw [if_neg c2] at H
    exact absurd H (by simp)
mutual
def screeref2_Uint_p.l0 : Nat → List Int → Int → Int → Option (Int × Int × Int)
  | 0, _, _, _ => none
  | k + 1, x0, x5, x6 => if x6 < (x0.length : Int) then (if 0 ≤ x6 then (if x6 > 0 then (if (rd x0 x6) = 0 then (screeref2_Uint_p.j1 k x0 x5 x6 (rd x0 x6) true) else (if x6 = 9 then (screeref2_Uint_p.j1 k x0 x5 x6 (rd x0 x6) ((rd x0 x6) != 1)) else (screeref2_Uint_p.j1 k x0 x5 x6 (rd x0 x6) false))) else (if x6 = 9 then (screeref2_Uint_p.j1 k x0 x5 x6 (rd x0 x6) ((rd x0 x6) != 1)) else (screeref2_Uint_p.j1 k x0 x5 x6 (rd x0 x6) false))) else (none)) else (some (0, 0, 20))
def screeref2_Uint_p.j1 : Nat → List Int → Int → Int → Int → Bool → Option (Int × Int × Int)
  | 0, _, _, _, _, _ => none
  | k + 1, x0, x5, x6, x7, x31 => if x31 = true then (some (0, 0, 21)) else (if 0 ≤ (IntKind.u64.wrap (wrap64 (7 * x6))) then (if x7 < 128 then (some (Go.bits .or .u64 x5 (shl .u64 (IntKind.u64.wrap (Int.tmod x7 128)) (IntKind.u64.wrap (wrap64 (7 * x6)))), wrap64 (x6 + 1), 0)) else (screeref2_Uint_p.l0 k x0 (Go.bits .or .u64 x5 (shl .u64 (IntKind.u64.wrap (Int.tmod x7 128)) (IntKind.u64.wrap (wrap64 (7 * x6))))) (wrap64 (x6 + 1)))) else (none))
end
def screeref2_Uint_p.f (k : Nat) (l0 : List Int) : Option (Int × Int × Int) := screeref2_Uint_p.l0 k l0 0 0
theorem screeref2_Uint_p.mono_l : ∀ k, (∀ y0 y1 y2, LeO (screeref2_Uint_p.l0 k y0 y1 y2) (screeref2_Uint_p.l0 (k + 1) y0 y1 y2)) ∧ (∀ y0 y1 y2 y3 y4, LeO (screeref2_Uint_p.j1 k y0 y1 y2 y3 y4) (screeref2_Uint_p.j1 (k + 1) y0 y1 y2 y3 y4))
  | 0 => ⟨fun _ _ _ r h => by simp [screeref2_Uint_p.l0] at h, fun _ _ _ _ _ r h => by simp [screeref2_Uint_p.j1] at h⟩
  | k + 1 => by
    obtain ⟨ih0, ih1⟩ := screeref2_Uint_p.mono_l k
    refine ⟨?_, ?_⟩
    · intro y0 y1 y2
      unfold screeref2_Uint_p.l0
      repeat' first
      | (with_reducible exact ih0 _ _ _)
      | (with_reducible exact ih1 _ _ _ _ _)
      | (with_reducible exact LeO.refl _)
      | (with_reducible exact LeO.none _)
      | (with_reducible refine LeO.ite ?_ ?_)
      | (with_reducible refine LeO.bind ?_ (fun _ => ?_))
      | exact ih0 _ _ _
      | exact ih1 _ _ _ _ _
      | exact LeO.none _
      | refine LeO.ite ?_ ?_
      | refine LeO.bind ?_ (fun _ => ?_)
    · intro y0 y1 y2 y3 y4
      unfold screeref2_Uint_p.j1
      repeat' first
      | (with_reducible exact ih0 _ _ _)
      | (with_reducible exact ih1 _ _ _ _ _)
      | (with_reducible exact LeO.refl _)
      | (with_reducible exact LeO.none _)
      | (with_reducible refine LeO.ite ?_ ?_)
      | (with_reducible refine LeO.bind ?_ (fun _ => ?_))
      | exact ih0 _ _ _
      | exact ih1 _ _ _ _ _
      | exact LeO.none _
      | refine LeO.ite ?_ ?_
      | refine LeO.bind ?_ (fun _ => ?_)
theorem screeref2_Uint_p.mono : ∀ a0 k, LeO (screeref2_Uint_p.f k a0) (screeref2_Uint_p.f (k + 1) a0) := by
  intro a0 k
  obtain ⟨ih0, ih1⟩ := screeref2_Uint_p.mono_l k
  unfold screeref2_Uint_p.f
  repeat' first
      | (with_reducible exact ih0 _ _ _)
      | (with_reducible exact ih1 _ _ _ _ _)
      | (with_reducible exact LeO.refl _)
      | (with_reducible exact LeO.none _)
      | (with_reducible refine LeO.ite ?_ ?_)
      | (with_reducible refine LeO.bind ?_ (fun _ => ?_))
      | exact ih0 _ _ _
      | exact ih1 _ _ _ _ _
      | exact LeO.none _
      | refine LeO.ite ?_ ?_
      | refine LeO.bind ?_ (fun _ => ?_)
set_option maxHeartbeats 8000000 in
set_option maxRecDepth 100000 in
theorem screeref2_Uint_p.calls (k : Nat) (A0 : Option Addr) (c0 : Nat) (l0 : List Int) (r1 : Int) (r2 : Int) (r3 : Int) (w : World) (hr0 : Kd.C (Kd.int .u8) w A0 l0.length l0) (hc0 : l0.length ≤ c0) (h : screeref2_Uint_p.f k l0 = some (r1, r2, r3)) :
    Calls Tryd.prog 78 #[.slice A0 l0.length c0] w fun e w' => e = .returned (.tuple #[.int .u64 r1, .int .i64 r2, .int .i64 r3]) ∧ Drawn0 w w' := by
  have HR0 := Aside0.mk hr0
  have HC0 := Aside0.mk hc0
  clear hr0 hc0
  have H : (screeref2_Uint_p.l0 k l0 0 0) = some (r1, r2, r3) := h
  clear h
  have H' := Aside0.mk H
  clear H
  go_enter Tryd.func78, Tryd.ntmps78
  go_wp2
  go_loopg [5, 6] k (fun kq v5 v6 w' => ∃ (x5_1 : Int) (x6_1 : Int), v5 = .int .u64 x5_1 ∧ v6 = .int .i64 x6_1 ∧ Aside0 (screeref2_Uint_p.l0 kq l0 x5_1 x6_1 = some (r1, r2, r3)) ∧ Aside0 (kq ≤ k) ∧ Drawn0 w w')
  case atStart => exact ⟨(0), (0), (by first | rfl | (simp; done) | (simp [*]; done)), (by first | rfl | (simp; done) | (simp [*]; done)), H', ⟨Nat.le_refl _⟩, by repeat (first | exact Drawn0.refl _ | apply Drawn0.step)⟩
  case round =>
    clear H'
    obtain ⟨x5_1, x6_1, rfl, rfl, HA, HK1, ⟨m1, rfl⟩⟩ := hrel
    cases gk with
    | zero => exact absurd HA.out (by simp [screeref2_Uint_p.l0])
    | succ k1 =>
      have H := HA.out
      clear HA
      simp only [screeref2_Uint_p.l0] at H
      by_cases c2 : x6_1 < (l0.length : Int)
      · rw [if_pos c2] at H
        have c2b0 : decide (x6_1 < (l0.length : Int)) = true := decide_eq_true c2
        clear c2
        by_cases c3 : 0 ≤ x6_1
        · rw [if_pos c3] at H
          have c3b0 : decide (0 ≤ x6_1) = true := decide_eq_true c3
          clear c3
          have HC4 := Aside0.mk H
          clear H
          have p254 : 0 ≤ (x6_1 : Int) := of_decide_eq_true (by first | (with_reducible assumption) | assumption)
          have q254 : x6_1 < (l0.length : Int) := of_decide_eq_true (by first | (with_reducible assumption) | assumption)
          obtain ⟨ad254, e254, hx254_0⟩ := Kd.at_int HR0.out x6_1 p254 q254
          cases e254
          replace p254 := eq_true p254
          replace q254 := eq_true q254
          go_upto_region 6 with (fail)
          (try (obtain ⟨tb1_, hTB1_⟩ : ∃ tb_ : Bool, (decide (0 < x6_1)) = tb_ := ⟨_, rfl⟩; simp only [hTB1_]; have TB1_ := Aside0.mk hTB1_; clear hTB1_))
          go_cut [31] (fun v31 wc => ∃ (kq : Nat) (x31_3 : Bool), v31 = .bool x31_3 ∧ Aside0 (screeref2_Uint_p.j1 kq l0 x5_1 x6_1 (rd l0 x6_1) x31_3 = some (r1, r2, r3)) ∧ Aside0 (kq ≤ k1) ∧ Drawn0 w wc)
          case first =>
            have H := HC4.out
            clear HC4
            by_cases c5 : x6_1 > 0
            · rw [if_pos c5] at H
              have c5b0 : decide (0 < x6_1) = true := decide_eq_true c5
              (try (obtain rfl := TB1_.out.symm.trans c5b0))
              clear c5
              (first | rw [c5b0] | (simp only [i64_w, i32_w]; rw [c5b0]) | skip)
              by_cases c6 : (rd l0 x6_1) = 0
              · rw [if_pos c6] at H
                have c6b0 : ((rd l0 x6_1) == 0) = true := beq_iff_eq.mpr c6
                have c6b1 : ((rd l0 x6_1) != 0) = false := bne_eq_false_iff_eq.mpr c6
                clear c6
                have H' := Aside0.mk H
                clear H
                go_wp2
                go_meet
                case rel => exact ⟨_, (true), (by first | rfl | (simp; done) | (simp [*]; done)), H', ⟨by have := HK1.out; first | omega | exact Nat.le_refl _⟩, by repeat (first | exact Drawn0.refl _ | apply Drawn0.step)⟩
              · rw [if_neg c6] at H
                have c6b0 : ((rd l0 x6_1) == 0) = false := beq_eq_false_iff_ne.mpr c6
                have c6b1 : ((rd l0 x6_1) != 0) = true := bne_iff_ne.mpr c6
                by_cases c7 : x6_1 = 9
                · rw [if_pos c7] at H
                  have c7b0 : (x6_1 == 9) = true := beq_iff_eq.mpr c7
                  have c7b1 : (x6_1 != 9) = false := bne_eq_false_iff_eq.mpr c7
                  clear c7
                  have H' := Aside0.mk H
                  clear H
                  go_wp2
                  go_meet
                  case rel => exact ⟨_, (((rd l0 x6_1) != 1)), (by first | rfl | (simp; done) | (simp [*]; done)), H', ⟨by have := HK1.out; first | omega | exact Nat.le_refl _⟩, by repeat (first | exact Drawn0.refl _ | apply Drawn0.step)⟩
                · rw [if_neg c7] at H
                  have c7b0 : (x6_1 == 9) = false := beq_eq_false_iff_ne.mpr c7
                  have c7b1 : (x6_1 != 9) = true := bne_iff_ne.mpr c7
                  have H' := Aside0.mk H
                  clear H
                  go_wp2
                  go_meet
                  case rel => exact ⟨_, (false), (by first | rfl | (simp; done) | (simp [*]; done)), H', ⟨by have := HK1.out; first | omega | exact Nat.le_refl _⟩, by repeat (first | exact Drawn0.refl _ | apply Drawn0.step)⟩
            · rw [if_neg c5] at H
              have c5b0 : decide (0 < x6_1) = false := decide_eq_false c5
              (try (obtain rfl := TB1_.out.symm.trans c5b0))
              clear c5
              (first | rw [c5b0] | (simp only [i64_w, i32_w]; rw [c5b0]) | skip)
              by_cases c8 : x6_1 = 9
              · rw [if_pos c8] at H
                have c8b0 : (x6_1 == 9) = true := beq_iff_eq.mpr c8
                have c8b1 : (x6_1 != 9) = false := bne_eq_false_iff_eq.mpr c8
                clear c8
                have H' := Aside0.mk H
                clear H
                go_wp2
                go_meet
                case rel => exact ⟨_, (((rd l0 x6_1) != 1)), (by first | rfl | (simp; done) | (simp [*]; done)), H', ⟨by have := HK1.out; first | omega | exact Nat.le_refl _⟩, by repeat (first | exact Drawn0.refl _ | apply Drawn0.step)⟩
              · rw [if_neg c8] at H
                have c8b0 : (x6_1 == 9) = false := beq_eq_false_iff_ne.mpr c8
                have c8b1 : (x6_1 != 9) = true := bne_iff_ne.mpr c8
                have H' := Aside0.mk H
                clear H
                go_wp2
                go_meet
                case rel => exact ⟨_, (false), (by first | rfl | (simp; done) | (simp [*]; done)), H', ⟨by have := HK1.out; first | omega | exact Nat.le_refl _⟩, by repeat (first | exact Drawn0.refl _ | apply Drawn0.step)⟩
          case rest =>
            clear HC4
            try clear c2
            try clear c2b0
            try clear p2
            try clear q2
            try clear hx2
            try clear c3
            try clear c3b0
            try clear c5
            try clear c5b0
            try clear c6
            try clear c6b0
            try clear c6b1
            try clear c7
            try clear c7b0
            try clear c7b1
            try clear c8
            try clear c8b0
            try clear c8b1
            try clear hx254_0
            try clear p254
            try clear q254
            obtain ⟨kq, x31_3, rfl, HA, HJ3, ⟨mc3, rfl⟩⟩ := hcut
            cases kq with
            | zero => exact absurd HA.out (by simp [screeref2_Uint_p.j1])
            | succ kj3 =>
              have H := HA.out
              clear HA
              simp only [screeref2_Uint_p.j1] at H
              by_cases c9 : x31_3 = true
              · subst c9
                have H1 : (some (0, 0, 21)) = some (r1, r2, r3) := by rw [if_pos rfl] at H; exact H
                clear H
                have H := H1
                clear H1
                simp only [Option.some.injEq, Prod.mk.injEq] at H
                obtain ⟨rfl, rfl, rfl⟩ := H
                go_wp2
                go_ret3
                exact ⟨by first | rfl | (simp; done) | (simp [*]; done), by repeat (first | exact Drawn0.refl _ | apply Drawn0.step)⟩
              · replace c9 := Bool.eq_false_iff.mpr c9
                subst c9
                have H1 : (if 0 ≤ (IntKind.u64.wrap (wrap64 (7 * x6_1))) then (if (rd l0 x6_1) < 128 then (some (Go.bits .or .u64 x5_1 (shl .u64 (IntKind.u64.wrap (Int.tmod (rd l0 x6_1) 128)) (IntKind.u64.wrap (wrap64 (7 * x6_1)))), wrap64 (x6_1 + 1), 0)) else (screeref2_Uint_p.l0 kj3 l0 (Go.bits .or .u64 x5_1 (shl .u64 (IntKind.u64.wrap (Int.tmod (rd l0 x6_1) 128)) (IntKind.u64.wrap (wrap64 (7 * x6_1))))) (wrap64 (x6_1 + 1)))) else (none)) = some (r1, r2, r3) := by rw [if_neg (show ¬ (false = true) by decide)] at H; exact H
                clear H
                have H := H1
                clear H1
                obtain ⟨ji10, hji10⟩ : ∃ j_ : Int, (IntKind.u64.wrap (wrap64 (7 * x6_1))) = j_ := ⟨_, rfl⟩
                replace H : (if 0 ≤ (ji10) then (if (rd l0 x6_1) < 128 then (some (Go.bits .or .u64 x5_1 (shl .u64 (IntKind.u64.wrap (Int.tmod (rd l0 x6_1) 128)) (ji10)), wrap64 (x6_1 + 1), 0)) else (screeref2_Uint_p.l0 kj3 l0 (Go.bits .or .u64 x5_1 (shl .u64 (IntKind.u64.wrap (Int.tmod (rd l0 x6_1) 128)) (ji10))) (wrap64 (x6_1 + 1)))) else (none)) = some (r1, r2, r3) := by first | (rw [hji10] at H; exact H) | (simp only [hji10] at H ⊢; exact H)
                by_cases c11 : 0 ≤ (ji10)
                · rw [if_pos c11] at H
                  have c11b0 := eq_true c11
                  have c11b1 : decide (0 ≤ (ji10)) = true := decide_eq_true c11
                  clear c11
                  obtain ⟨ji12, hji12⟩ : ∃ j_ : Int, (shl .u64 (IntKind.u64.wrap (Int.tmod (rd l0 x6_1) 128)) (ji10)) = j_ := ⟨_, rfl⟩
                  replace H : (if (rd l0 x6_1) < 128 then (some (Go.bits .or .u64 x5_1 (ji12), wrap64 (x6_1 + 1), 0)) else (screeref2_Uint_p.l0 kj3 l0 (Go.bits .or .u64 x5_1 (ji12)) (wrap64 (x6_1 + 1)))) = some (r1, r2, r3) := by first | (rw [hji12] at H; exact H) | (simp only [hji12] at H ⊢; exact H)
                  have hji12_ : (IntKind.u64.wrap ((IntKind.u64.wrap (Int.tmod (rd l0 x6_1) 128)) * 2 ^ min (ji10).toNat 64)) = ji12 := hji12
                  have hji12z : (ji10) ≤ 64 → (IntKind.u64.wrap ((IntKind.u64.wrap (Int.tmod (rd l0 x6_1) 128)) * 2 ^ (ji10).toNat)) = ji12 := shl_small hji12
                  by_cases c13 : (rd l0 x6_1) < 128
                  · rw [if_pos c13] at H
                    have c13b0 : decide ((rd l0 x6_1) < 128) = true := decide_eq_true c13
                    clear c13
                    simp only [Option.some.injEq, Prod.mk.injEq] at H
                    obtain ⟨rfl, rfl, rfl⟩ := H
                    go_wp2
                    go_ret3
                    exact ⟨by first | rfl | (simp; done) | (simp only [← hji10, ← hji12] <;> (first | rfl | simp)) | (simp [*]; done), by repeat (first | exact Drawn0.refl _ | apply Drawn0.step)⟩
                  · rw [if_neg c13] at H
                    have c13b0 : decide ((rd l0 x6_1) < 128) = false := decide_eq_false c13
                    clear c13
                    have H' := Aside0.mk H
                    clear H
                    go_wp2
                    go_roundg kj3
                    case measure => have := HK1.out; have := HJ3.out; omega
                    case rel => exact ⟨(Go.bits .or .u64 x5_1 (ji12)), (wrap64 (x6_1 + 1)), (by first | rfl | (simp; done) | (simp only [← hji12] <;> (first | rfl | simp)) | (simp [*]; done)), (by first | rfl | (simp; done) | (simp [*]; done)), H', ⟨by have := HK1.out; have := HJ3.out; omega⟩, by repeat (first | exact Drawn0.refl _ | apply Drawn0.step)⟩
                · rw [if_neg c11] at H
                  exact absurd H (by simp)
        · rw [if_neg c3] at H
          exact absurd H (by simp)
      · rw [if_neg c2] at H
        have c2b0 : decide (x6_1 < (l0.length : Int)) = false := decide_eq_false c2
        clear c2
        simp only [Option.some.injEq, Prod.mk.injEq] at H
        obtain ⟨rfl, rfl, rfl⟩ := H
        go_wp2
        go_ret3
        exact ⟨by first | rfl | (simp; done) | (simp [*]; done), by repeat (first | exact Drawn0.refl _ | apply Drawn0.step)⟩
theorem screeref2_Uint_ev (l : List Int) (hl : Bytes l) (hm : l.length ≤ 140737488355328) (d : Nat) : ∀ (i a : Nat), i + d = l.length → i ≤ 9 → a < 128 ^ i → Ev (fun k => screeref2_Uint_p.l0 k l (a : Int) (i : Int)) (i3 (uintR (l.drop i) i a)) := by
  induction d with
  | zero =>
    intro i a hi h9 ha
    refine Ev.step (f := fun _ => some (0, 0, 20)) (fun k => ?_) (by rw [List.drop_of_length_le (by omega)]; exact Ev.now _)
    simp only [screeref2_Uint_p.l0]
    rw [if_neg (by omega)]
  | succ d ih =>
    intro i a hi h9 ha
    have hlt : i < l.length := by omega
    have hb := hl _ (List.getElem_mem hlt)
    have hrd : rd l (i : Int) = l[i] := by simp [rd, List.getD_eq_getElem?_getD, hlt]
    rw [List.drop_eq_getElem_cons hlt]
    obtain ⟨c, hc⟩ := Int.eq_ofNat_of_zero_le hb.1
    have hw : IntKind.u64.wrap (wrap64 (7 * (i : Int))) = 7 * (i : Int) := by
      rw [show wrap64 (7 * (i : Int)) = 7 * (i : Int) by unfold wrap64; omega]
      simp [IntKind.wrap, IntKind.bits, IntKind.signed]
      omega
    have hw1 : wrap64 ((i : Int) + 1) = ((i + 1 : Nat) : Int) := by unfold wrap64; omega
    have hand : IntKind.u64.wrap (Int.tmod (c : Int) 128) = ((c % 128 : Nat) : Int) := by
      rw [show Int.tmod (c : Int) 128 = ((c % 128 : Nat) : Int) from rfl]
      simp [IntKind.wrap, IntKind.bits, IntKind.signed]
      omega
    have bad : Ev (fun k => screeref2_Uint_p.j1 k l (a : Int) (i : Int) (rd l (i : Int)) true) (i3 (0, 0, 21)) := Ev.step (f := fun _ => some (0, 0, 21)) (fun k => by simp [screeref2_Uint_p.j1]) (Ev.now _)
    have good : (i ≤ 8 ∨ i = 9 ∧ c = 1) → Ev (fun k => screeref2_Uint_p.j1 k l (a : Int) (i : Int) (rd l (i : Int)) false) (i3 (if (l[i] : Int) < 128 then (a + (l[i] : Int).toNat % 128 * 128 ^ i, i + 1, 0) else uintR (l.drop (i + 1)) (i + 1) (a + (l[i] : Int).toNat % 128 * 128 ^ i))) := by
      intro h8
      rw [hrd, hc, Int.toNat_natCast]
      have hacc := acc_step a (c % 128) i ha (by omega) (by omega)
      by_cases h1 : (c : Int) < 128
      · rw [if_pos h1]
        refine Ev.step (f := fun _ => some (i3 (a + c % 128 * 128 ^ i, i + 1, 0))) (fun k => ?_) (Ev.now _)
        simp only [screeref2_Uint_p.j1]
        rw [if_neg (by decide), hw, if_pos (by omega), if_pos h1, hand, hacc.1, hw1]
        rfl
      · rw [if_neg h1]
        refine Ev.step (f := fun k => screeref2_Uint_p.l0 k l ((a + c % 128 * 128 ^ i : Nat) : Int) ((i + 1 : Nat) : Int)) (fun k => ?_) (ih (i + 1) _ (by omega) (by omega) (acc_lt a (c % 128) i ha (by omega)))
        simp only [screeref2_Uint_p.j1]
        rw [if_neg (by decide), hw, if_pos (by omega), if_neg h1, hand, hacc.1, hw1]
    simp only [uintR]
    by_cases hz : l[i] = 0 ∧ 0 < i ∨ i = 9 ∧ l[i] ≠ 1
    · rw [if_pos hz]
      refine Ev.step (fun k => ?_) bad
      simp only [screeref2_Uint_p.l0]
      rw [if_pos (by omega), if_pos (by omega)]
      by_cases hi0 : (i : Int) > 0
      · rw [if_pos hi0]
        by_cases h0 : l[i] = 0
        · rw [hrd, if_pos h0]
        · rw [hrd, if_neg h0]
          have h9' : i = 9 ∧ l[i] ≠ 1 := by omega
          rw [if_pos (by omega), bne_iff_ne.mpr h9'.2]
      · exact absurd hz (by omega)
    · rw [if_neg hz]
      refine Ev.step (fun k => ?_) (good (by omega))
      simp only [screeref2_Uint_p.l0]
      rw [if_pos (by omega), if_pos (by omega)]
      by_cases hi0 : (i : Int) > 0
      · rw [if_pos hi0, hrd, if_neg (by omega)]
        by_cases h9' : i = 9
        · rw [if_pos (by omega)]
          have h1 : l[i] = 1 := by omega
          rw [h1]
          rfl
        · rw [if_neg (by omega)]
      · rw [if_neg hi0, if_neg (by omega)]
def screeref2_Uint.f (l0 : List Int) : Option (Int × Int × Int) := if okB l0 = true ∧ l0.length ≤ 140737488355328 then some (uintL l0) else none
theorem screeref2_Uint.calls (A0 : Option Addr) (c0 : Nat) (l0 : List Int) (r1 : Int) (r2 : Int) (r3 : Int) (w : World) (hr0 : Kd.C (Kd.int .u8) w A0 l0.length l0) (hc0 : l0.length ≤ c0) (h : screeref2_Uint.f l0 = some (r1, r2, r3)) :
    Calls Tryd.prog 78 #[.slice A0 l0.length c0] w fun e w' => e = .returned (.tuple #[.int .u64 r1, .int .i64 r2, .int .i64 r3]) ∧ Drawn0 w w' := by
  unfold screeref2_Uint.f at h
  split at h
  · rename_i hh
    obtain ⟨k, hk⟩ := (screeref2_Uint_ev l0 (okB_iff.1 hh.1) hh.2 l0.length 0 0 (by omega) (by omega) (by decide)).rounds
    exact screeref2_Uint_p.calls k A0 c0 l0 r1 r2 r3 w hr0 hc0 (by rw [← h]; exact hk)
  · cases h
end Go.Proofs.YtaonjmkfbfhanaaDoor.QBo
namespace Go.Proofs.YtaonjmkfbfhanaaDoor.Rf
open Go.RowKit Go.Proofs.YtaonjmkfbfhanaaDoorW.PrintWords Go.Proofs.YtaonjmkfbfhanaaDoor.Own Go.Proofs.YtaonjmkfbfhanaaDoor.G Go.Proofs.YtaonjmkfbfhanaaDoor.Wk Go.Proofs.YtaonjmkfbfhanaaDoor.QBo Go.Proofs.YtaonjmkfbfhanaaDoor.Bk
set_option linter.unusedVariables false
theorem ww (i : Nat) (h : i < 4611686018427387904) : wrap64 ((i : Int) + 1) = ((i + 1 : Nat) : Int) := by unfold wrap64; omega
theorem bl_cons (a b : UInt8) (x y : List UInt8) : Op.bytesLess (a :: x) (b :: y) = true ↔ a.toNat < b.toNat ∨ a = b ∧ Op.bytesLess x y = true := by
  simp [Op.bytesLess, UInt8.lt_iff_toNat_lt]
theorem bl_total : ∀ x y : List UInt8, Op.bytesLess x y = true ∨ x = y ∨ Op.bytesLess y x = true
  | [], [] => .inr (.inl rfl)
  | [], _ :: _ => .inl rfl
  | _ :: _, [] => .inr (.inr rfl)
  | a :: x, b :: y => by
    rw [bl_cons, bl_cons]
    rcases Nat.lt_trichotomy a.toNat b.toNat with h | h | h
    · exact .inl (.inl h)
    · have e : a = b := UInt8.toNat_inj.1 h
      subst e
      rcases bl_total x y with h2 | h2 | h2
      · exact .inl (.inr ⟨rfl, h2⟩)
      · exact .inr (.inl (by rw [h2]))
      · exact .inr (.inr (.inr ⟨rfl, h2⟩))
    · exact .inr (.inr (.inl h))
theorem bl_irrefl : ∀ x : List UInt8, Op.bytesLess x x = false
  | [] => rfl
  | a :: x => by
    rw [Bool.eq_false_iff]
    intro h
    rcases (bl_cons a a x x).1 h with h | h
    · omega
    · rw [bl_irrefl x] at h; exact absurd h.2 (by decide)
theorem bl_trans : ∀ x y z : List UInt8, Op.bytesLess x y = true → Op.bytesLess y z = true → Op.bytesLess x z = true
  | [], y, [], h1, h2 => by cases y <;> simp [Op.bytesLess] at h1 h2
  | [], _, _ :: _, _, _ => rfl
  | _ :: _, [], _, h1, _ => by simp [Op.bytesLess] at h1
  | _ :: _, _ :: _, [], _, h2 => by simp [Op.bytesLess] at h2
  | a :: x, b :: y, c :: z, h1, h2 => by
    rw [bl_cons] at *
    rcases h1 with h1 | ⟨rfl, h1⟩
    · rcases h2 with h2 | ⟨rfl, h2⟩
      · exact .inl (by omega)
      · exact .inl h1
    · rcases h2 with h2 | ⟨rfl, h2⟩
      · exact .inl h2
      · exact .inr ⟨rfl, bl_trans x y z h1 h2⟩
theorem bl_asymm {x y : List UInt8} (h : Op.bytesLess x y = true) : Op.bytesLess y x = false := by
  rw [Bool.eq_false_iff]
  intro h2
  have := bl_trans x y x h h2
  rw [bl_irrefl] at this
  cases this
theorem leK_not (a b : ByteArray) : leK a b = !(Op.bytesLess b.toList a.toList) := by
  unfold leK
  rcases bl_total a.toList b.toList with h | h | h
  · rw [h, bl_asymm h]; rfl
  · rw [h, bl_irrefl]; simp
  · rw [h, bl_asymm h]
    have : (a.toList == b.toList) = false := by
      rw [beq_eq_false_iff_ne]
      intro e
      rw [e, bl_irrefl] at h
      cases h
    rw [this]; rfl
theorem toList_len (s : ByteArray) : s.toList.length = s.size := by rw [ByteArray.toList_eq]; exact Array.length_toList
theorem bt_get (s : ByteArray) (i : Nat) (h : i < s.toList.length) : bt s (i : Int) = ((s.toList[i]'h).toNat : Int) := by
  have h2 : i < s.size := by rw [← toList_len]; exact h
  unfold bt
  rw [dif_pos (by rw [Int.toNat_natCast]; exact h2)]
  congr 2
  simp only [Int.toNat_natCast, ByteArray.toList_eq, Array.getElem_toList]
  rfl
theorem below_ev (a b : ByteArray) (ha : a.size < 4611686018427387904) (d : Nat) : ∀ i : Nat, i + d = a.size → i ≤ b.size → Ev (fun k => screeref1_below.l0 k a b (i : Int)) (Op.bytesLess (a.toList.drop i) (b.toList.drop i)) := by
  have la := toList_len a
  have lb := toList_len b
  induction d with
  | zero =>
    intro i hi hb
    refine Ev.step (f := fun k => screeref1_below.j1 k a b (i : Int) false) (fun k => ?_) (Ev.step (f := fun _ => some (decide ((a.size : Int) < (b.size : Int)))) (fun k => ?_) ?_)
    · rw [screeref1_below.l0, if_neg (by omega)]
    · rw [screeref1_below.j1, if_neg (by decide)]
    · have e : Op.bytesLess (a.toList.drop i) (b.toList.drop i) = decide ((a.size : Int) < (b.size : Int)) := by
        rw [List.drop_of_length_le (l := a.toList) (by omega)]
        by_cases h : i < b.toList.length
        · rw [List.drop_eq_getElem_cons h, decide_eq_true (by omega)]; rfl
        · rw [List.drop_of_length_le (by omega), decide_eq_false (by omega)]; rfl
      rw [e]
      exact Ev.now _
  | succ d ih =>
    intro i hi hb
    have h1 : i < a.toList.length := by omega
    rw [List.drop_eq_getElem_cons h1]
    by_cases h : i < b.toList.length
    · rw [List.drop_eq_getElem_cons h]
      have e1 := bt_get a i h1
      have e2 := bt_get b i h
      by_cases he : a.toList[i] = b.toList[i]
      · have e : Op.bytesLess (a.toList[i] :: a.toList.drop (i + 1)) (b.toList[i] :: b.toList.drop (i + 1)) = Op.bytesLess (a.toList.drop (i + 1)) (b.toList.drop (i + 1)) := by
          rw [he]; simp [Op.bytesLess]
        rw [e]
        refine Ev.step (f := fun k => screeref1_below.j1 k a b (i : Int) true) (fun k => ?_) (Ev.step (fun k => ?_) (ih (i + 1) (by omega) (by omega)))
        · rw [screeref1_below.l0, if_pos (by omega), decide_eq_true (by omega)]
        · rw [screeref1_below.j1, if_pos rfl, if_pos (by omega), if_pos (by omega), if_pos (by omega), e1, e2, if_pos (by rw [he]), ww i (by omega)]
      · have hn : a.toList[i].toNat ≠ b.toList[i].toNat := fun e => he (UInt8.toNat_inj.1 e)
        have e : Op.bytesLess (a.toList[i] :: a.toList.drop (i + 1)) (b.toList[i] :: b.toList.drop (i + 1)) = decide ((a.toList[i].toNat : Int) < (b.toList[i].toNat : Int)) := by
          rw [Bool.eq_iff_iff, bl_cons, decide_eq_true_eq]
          constructor
          · rintro (h | h)
            · omega
            · exact absurd h.1 he
          · intro h; exact .inl (by omega)
        rw [e]
        refine Ev.step (f := fun k => screeref1_below.j1 k a b (i : Int) true) (fun k => ?_) (Ev.step (f := fun _ => some (decide ((a.toList[i].toNat : Int) < (b.toList[i].toNat : Int)))) (fun k => ?_) (Ev.now _))
        · rw [screeref1_below.l0, if_pos (by omega), decide_eq_true (by omega)]
        · rw [screeref1_below.j1, if_pos rfl, if_pos (by omega), if_pos (by omega), if_pos (by omega), e1, e2, if_neg (by omega)]
    · rw [List.drop_of_length_le (l := b.toList) (by omega)]
      refine Ev.step (f := fun k => screeref1_below.j1 k a b (i : Int) false) (fun k => ?_) (Ev.step (f := fun _ => some (decide ((a.size : Int) < (b.size : Int)))) (fun k => ?_) ?_)
      · rw [screeref1_below.l0, if_pos (by omega), decide_eq_false (by omega)]
      · rw [screeref1_below.j1, if_neg (by decide)]
      · rw [decide_eq_false (by omega)]; exact Ev.now _
theorem below_f (a b : ByteArray) (ha : a.size < 4611686018427387904) : Ev (fun k => screeref1_below.f k a b) (Op.bytesLess a.toList b.toList) := below_ev a b ha a.size 0 (by omega) (by omega)
theorem above_f (a b : ByteArray) (ha : a.size < 4611686018427387904) (hb : b.size < 4611686018427387904) : Ev (fun k => screeref9_Above.f k a b) (Op.bytesLess b.toList a.toList) := by
  have h1 := below_f a b ha
  have h2 := below_f b a hb
  unfold screeref9_Above.f screeref1_Compare.f
  cases e1 : Op.bytesLess a.toList b.toList with
  | true =>
    rw [e1] at h1
    rw [bl_asymm e1]
    refine Ev.bind (a := (-1 : Int)) (f := fun _ t => some (decide (t > 0))) (Ev.bind h1 ?_) ?_
    · exact Ev.now _
    · exact Ev.now _
  | false =>
    rw [e1] at h1
    cases e2 : Op.bytesLess b.toList a.toList with
    | true =>
      rw [e2] at h2
      refine Ev.bind (a := (1 : Int)) (f := fun _ t => some (decide (t > 0))) (Ev.bind h1 (Ev.bind h2 ?_)) ?_
      · exact Ev.now _
      · exact Ev.now _
    | false =>
      rw [e2] at h2
      refine Ev.bind (a := (0 : Int)) (f := fun _ t => some (decide (t > 0))) (Ev.bind h1 (Ev.bind h2 ?_)) ?_
      · exact Ev.now _
      · exact Ev.now _
def batchE (x : S112) : Int := if x.f0.size = 0 then 10 else if 64 < x.f0.size then 11 else if x.f1 = false ∧ 512 < x.f2.size then 12 else 0
theorem batch_f (x : S112) : Ev (fun k => screeref1_CheckBatch.f k [x]) (batchE x) := by
  refine Ev.congr (f := fun k => screeref1_CheckBatch.l0 k [x] 0) (fun k => by unfold screeref1_CheckBatch.f; exact if_neg (by simp)) ?_
  have hx : rd_T112 [x] 0 = x := rfl
  have h2 : Ev (fun k => screeref1_CheckBatch.l0 k [x] 1) 0 := by
    refine Ev.step (f := fun _ => some 0) (fun k => ?_) (Ev.now _)
    rw [screeref1_CheckBatch.l0, if_neg (by simp)]
  have w1 : wrap64 ((0 : Int) + 1) = 1 := by unfold wrap64; omega
  unfold batchE
  by_cases c0 : x.f0.size = 0
  · rw [if_pos c0]
    refine Ev.step (f := fun _ => some 10) (fun k => ?_) (Ev.now _)
    rw [screeref1_CheckBatch.l0, if_pos (by simp), if_pos (by decide), hx]
    unfold screeref1_Check.f
    rw [if_pos (by omega)]
    rfl
  · rw [if_neg c0]
    by_cases c1 : 64 < x.f0.size
    · rw [if_pos c1]
      refine Ev.step (f := fun _ => some 11) (fun k => ?_) (Ev.now _)
      rw [screeref1_CheckBatch.l0, if_pos (by simp), if_pos (by decide), hx]
      unfold screeref1_Check.f
      rw [if_neg (by omega), if_pos (by omega)]
      rfl
    · rw [if_neg c1]
      cases hd : x.f1 with
      | true =>
        rw [if_neg (by simp)]
        refine Ev.step (fun k => ?_) h2
        rw [screeref1_CheckBatch.l0, if_pos (by simp), if_pos (by decide), hx]
        unfold screeref1_Check.f
        rw [if_neg (by omega), if_neg (by omega), Option.bind_some, if_pos rfl, if_pos hd, w1]
      | false =>
        by_cases c2 : 512 < x.f2.size
        · rw [if_pos ⟨rfl, c2⟩]
          refine Ev.step (f := fun _ => some 12) (fun k => ?_) (Ev.now _)
          rw [screeref1_CheckBatch.l0, if_pos (by simp), if_pos (by decide), hx]
          unfold screeref1_Check.f
          rw [if_neg (by omega), if_neg (by omega), Option.bind_some, if_pos rfl, if_neg (by rw [hd]; decide), if_pos (by omega)]
        · rw [if_neg (fun h => c2 h.2)]
          refine Ev.step (fun k => ?_) h2
          rw [screeref1_CheckBatch.l0, if_pos (by simp), if_pos (by decide), hx]
          unfold screeref1_Check.f
          rw [if_neg (by omega), if_neg (by omega), Option.bind_some, if_pos rfl, if_neg (by rw [hd]; decide), if_neg (by omega), w1]
theorem nil_size (s : ByteArray) : s.toList = ([] : List UInt8) ↔ s.size = 0 := by
  rw [← toList_len]
  exact List.length_eq_zero_iff.symm
theorem fault_f (e : En) : Ev (fun k => screeref9_Fault.f k e.f0 e.f1 e.f2 e.f3) (wrongE e) := by
  have hb := batch_f (⟨e.f0, e.f2, e.f3⟩ : S112)
  unfold screeref9_Fault.f
  refine Ev.bind hb ?_
  unfold batchE wrongE
  simp only
  by_cases c0 : e.f0.size = 0
  · rw [if_pos c0, if_pos c0]
    exact Ev.now _
  · rw [if_neg c0, if_neg c0]
    by_cases c1 : 64 < e.f0.size
    · rw [if_pos c1, if_pos c1]
      exact Ev.now _
    · rw [if_neg c1, if_neg c1]
      by_cases c2 : e.f2 = false ∧ 512 < e.f3.size
      · rw [if_pos c2, if_pos c2]
        exact Ev.now _
      · rw [if_neg c2, if_neg c2, if_pos rfl]
        by_cases c3 : 72057594037927935 < e.f1
        · rw [if_pos c3, if_pos (.inl c3)]
          exact Ev.now _
        · rw [if_neg c3]
          by_cases c4 : e.f2 = true
          · rw [if_pos c4]
            by_cases c5 : e.f3.size = 0
            · rw [if_pos ((nil_size _).2 c5), if_neg (fun h => by
                rcases h with h | h
                · exact c3 h
                · exact h.2 c5)]
              exact Ev.now _
            · rw [if_neg (fun h => c5 ((nil_size _).1 h)), if_pos (.inr ⟨c4, c5⟩)]
              exact Ev.now _
          · rw [if_neg c4, if_neg (fun h => by
              rcases h with h | h
              · exact c3 h
              · exact c4 h.1)]
            exact Ev.now _
theorem adds_f (l : List En) (e : En) (m : Mk) (hn : m.n = l.length) (hl : m.last = lastK l) (hll : l.length < 4611686018427387904) (he : e.f0.size < 4611686018427387904) (hm : m.last.size < 4611686018427387904) : Ev (fun k => screeref9_Adds.f k l e.f0 e.f1 e.f2 e.f3) (addM m e).1 := by
  unfold screeref9_Adds.f
  refine Ev.bind (fault_f e) ?_
  unfold addM
  by_cases c0 : wrongE e = 0
  · rw [if_neg (c := wrongE e ≠ 0) (fun h => h c0)]
    simp only [if_pos c0]
    by_cases c1 : l.length = 0
    · simp only [if_neg (show ¬ (l.length : Int) > 0 by omega)]
      rw [if_neg (by rw [hn]; omega), c0]
      exact Ev.now _
    · have hw : wrap64 ((l.length : Int) - 1) = ((l.length - 1 : Nat) : Int) := by unfold wrap64; omega
      simp only [hw, if_pos (show (l.length : Int) > 0 by omega), if_pos (show (0 : Int) ≤ ((l.length - 1 : Nat) : Int) by omega), if_pos (show ((l.length - 1 : Nat) : Int) < (l.length : Int) by omega)]
      have hk : (rd_T30 l ((l.length - 1 : Nat) : Int)).f0 = m.last := by rw [hl]; unfold lastK; rw [if_neg c1]
      simp only [hk]
      have ha := above_f e.f0 m.last he hm
      refine Ev.bind ha ?_
      cases hb : Op.bytesLess m.last.toList e.f0.toList with
      | true =>
        rw [if_pos rfl, if_neg (fun h => by have z := h.2; rw [leK_not, hb] at z; cases z), c0]
        exact Ev.now _
      | false =>
        rw [if_neg (by decide), if_pos ⟨by omega, by rw [leK_not, hb]; rfl⟩]
        exact Ev.now _
  · rw [if_pos (c := wrongE e ≠ 0) c0]
    simp only [if_neg c0]
    exact Ev.now _
theorem lcp_comm (a : List Int) : ∀ b, lcp a b = lcp b a := by
  induction a with
  | nil => intro b; cases b <;> rfl
  | cons x a ih =>
    intro b
    cases b with
    | nil => rfl
    | cons y b =>
      unfold lcp
      by_cases h : x = y
      · rw [if_pos h, if_pos h.symm, ih b]
      · rw [if_neg h, if_neg (fun e => h e.symm)]
theorem bytesOf_bt (s : ByteArray) (i : Nat) (h : i < s.size) : ∃ h2 : i < (bytesOf s).length, (bytesOf s)[i] = bt s (i : Int) := by
  have h2 : i < (bytesOf s).length := by rw [bytesOf_length]; exact h
  refine ⟨h2, ?_⟩
  have hg := bytesOf_get s i h
  rw [List.getElem?_eq_getElem h2] at hg
  exact Option.some.inj hg
theorem shared_ev (a b : ByteArray) (ha : a.size < 4611686018427387904) (d : Nat) : ∀ i : Nat, i + d = a.size → i ≤ b.size → Ev (fun k => screeref9_shared.l0 k a b (i : Int)) (((i + lcp ((bytesOf a).drop i) ((bytesOf b).drop i) : Nat)) : Int) := by
  have la := bytesOf_length a
  have lb := bytesOf_length b
  induction d with
  | zero =>
    intro i hi hb
    refine Ev.step (f := fun _ => some (i : Int)) (fun k => ?_) ?_
    · rw [screeref9_shared.l0, if_neg (by omega)]
    · rw [List.drop_of_length_le (l := bytesOf a) (by omega)]
      exact Ev.now _
  | succ d ih =>
    intro i hi hb
    obtain ⟨h1, e1⟩ := bytesOf_bt a i (by omega)
    rw [List.drop_eq_getElem_cons h1]
    by_cases h : i < b.size
    · obtain ⟨h2, e2⟩ := bytesOf_bt b i h
      rw [List.drop_eq_getElem_cons h2, e1, e2]
      unfold lcp
      by_cases he : bt a (i : Int) = bt b (i : Int)
      · rw [if_pos he]
        have := ih (i + 1) (by omega) (by omega)
        rw [show i + 1 + lcp ((bytesOf a).drop (i + 1)) ((bytesOf b).drop (i + 1)) = i + (lcp ((bytesOf a).drop (i + 1)) ((bytesOf b).drop (i + 1)) + 1) by omega] at this
        refine Ev.step (fun k => ?_) this
        rw [screeref9_shared.l0, if_pos (by omega), if_pos (by omega), if_pos (by omega), if_pos he, ww i (by omega)]
      · rw [if_neg he]
        refine Ev.step (f := fun _ => some (i : Int)) (fun k => ?_) (Ev.now _)
        rw [screeref9_shared.l0, if_pos (by omega), if_pos (by omega), if_pos (by omega), if_neg he]
    · rw [List.drop_of_length_le (l := bytesOf b) (by omega)]
      refine Ev.step (f := fun _ => some (i : Int)) (fun k => ?_) (Ev.now _)
      rw [screeref9_shared.l0, if_pos (by omega), if_neg (by omega)]
theorem shared_f (a b : ByteArray) (ha : a.size < 4611686018427387904) : Ev (fun k => screeref9_shared.f k a b) ((lcp (bytesOf a) (bytesOf b) : Nat) : Int) := by
  have := shared_ev a b ha a.size 0 (by omega) (by omega)
  rw [List.drop_zero, List.drop_zero, Nat.zero_add] at this
  exact this
end Go.Proofs.YtaonjmkfbfhanaaDoor.Rf
namespace Go.Proofs.YtaonjmkfbfhanaaDoor.G
open Go.RowKit Go.Proofs.YtaonjmkfbfhanaaDoorW.PrintWords Go.Proofs.YtaonjmkfbfhanaaDoor.Own
set_option linter.unusedVariables false
/-- The turned bits, below number j of the span. -/
def dm (P0 T j q : Nat) : Nat := if P0 ≤ q ∧ q < P0 + j then T / 2 ^ (q - P0) % 2 else 0
end Go.Proofs.YtaonjmkfbfhanaaDoor.G
namespace Go.Proofs.YtaonjmkfbfhanaaDoor.Bk
open Go.RowKit Go.Proofs.YtaonjmkfbfhanaaDoorW.PrintWords Go.Proofs.YtaonjmkfbfhanaaDoor.Own Go.Proofs.YtaonjmkfbfhanaaDoor.G Go.Proofs.YtaonjmkfbfhanaaDoor.U
set_option linter.unusedVariables false
/-- What stands behind the entries. -/
def tailM (m : Mk) : List Int := (m.places.flatMap fun (p : Nat) => fourL (p : Int)) ++ (fourL (m.places.length : Int) ++ fourL (sumF (bodyM m)))
theorem bytesM_tail (m : Mk) : bytesM m = m.data ++ tailM m := by
  unfold bytesM tailM
  conv => lhs; lhs; unfold bodyM
  simp only [List.append_assoc]
theorem places_facts (r : Int) (l : List En) : ((pushAll (newM r) l).places = [] ∨ ∃ ps, (pushAll (newM r) l).places = 0 :: ps) ∧ ∀ (j p : Nat), (pushAll (newM r) l).places[j]? = some p → 3 * j ≤ p ∧ p ≤ (pushAll (newM r) l).data.length := by
  refine snoc_rec (P := fun l => ((pushAll (newM r) l).places = [] ∨ ∃ ps, (pushAll (newM r) l).places = 0 :: ps) ∧ ∀ (j p : Nat), (pushAll (newM r) l).places[j]? = some p → 3 * j ≤ p ∧ p ≤ (pushAll (newM r) l).data.length) ?_ ?_ l
  · refine ⟨.inl rfl, fun j p h => ?_⟩
    simp [pushAll, newM] at h
  · intro l x ⟨h1, h2⟩
    obtain ⟨p1, p2, p3, p4⟩ := places_inv r l
    have hld := len_data l (newM r)
    have hL3 : 3 * l.length ≤ (pushAll (newM r) l).data.length := by simpa [newM] using hld
    have hdl : (pushAll (newM r) l).data.length ≤ (pushM (pushAll (newM r) l) x).data.length := by
      show _ ≤ List.length (_ ++ _)
      rw [List.length_append]
      omega
    have hp : (pushM (pushAll (newM r) l) x).places = (pushAll (newM r) l).places ∨ (pushM (pushAll (newM r) l) x).places = (pushAll (newM r) l).places ++ [(pushAll (newM r) l).data.length] := by
      show (if _ then _ else _) = _ ∨ (if _ then _ else _) = _
      split
      · exact .inr rfl
      · exact .inl rfl
    rw [pushAll_snoc]
    rcases hp with hp | hp
    · rw [hp]
      exact ⟨h1, fun j p hj => ⟨(h2 j p hj).1, Nat.le_trans (h2 j p hj).2 hdl⟩⟩
    · rw [hp]
      refine ⟨.inr ?_, fun j p hj => ?_⟩
      · rcases h1 with h1 | ⟨ps, h1⟩
        · have h0 : l = [] := List.eq_nil_of_length_eq_zero (p1.1 (by rw [h1]; rfl))
          subst h0
          exact ⟨[], rfl⟩
        · exact ⟨ps ++ [(pushAll (newM r) l).data.length], by rw [h1]; rfl⟩
      · by_cases hlt : j < (pushAll (newM r) l).places.length
        · rw [List.getElem?_append_left hlt] at hj
          exact ⟨(h2 j p hj).1, Nat.le_trans (h2 j p hj).2 hdl⟩
        · rw [List.getElem?_append_right (by omega)] at hj
          have hz : j - (pushAll (newM r) l).places.length = 0 := by
            have := (List.getElem?_eq_some_iff.1 hj).1
            simp at this
            omega
          rw [hz, List.getElem?_cons_zero, Option.some.injEq] at hj
          subst hj
          exact ⟨by omega, hdl⟩
theorem open_read {b : List Int} {x : List En × Nat} (h : openB b = some x) : readB b = some x := by
  unfold openB at h
  split at h
  · cases h
  · rename_i es rs hr
    split at h
    · cases h
    · split at h
      · rw [hr]; exact h
      · cases h
end Go.Proofs.YtaonjmkfbfhanaaDoor.Bk
namespace Go.Proofs.YtaonjmkfbfhanaaDoor.Rf
open Go.RowKit Go.Proofs.YtaonjmkfbfhanaaDoorW.PrintWords Go.Proofs.YtaonjmkfbfhanaaDoor.Own Go.Proofs.YtaonjmkfbfhanaaDoor.G Go.Proofs.YtaonjmkfbfhanaaDoor.Wk Go.Proofs.YtaonjmkfbfhanaaDoor.QBo Go.Proofs.YtaonjmkfbfhanaaDoor.Bk
set_option linter.unusedVariables false
theorem u64w (n : Nat) (h : n < 18446744073709551616) : IntKind.u64.wrap (n : Int) = (n : Int) := by simp [IntKind.wrap, IntKind.bits, IntKind.signed]; omega
theorem number_f (n : Nat) (h : n < 18446744073709551616) : screeref2_Number.f (n : Int) = some (numL n) := by
  unfold screeref2_Number.f
  rw [if_pos ⟨by omega, by omega⟩, Int.toNat_natCast]
theorem words_f (s : ByteArray) (h : s.size ≤ 140737488) : screeref2_Words.f s = some (txL s) := by
  unfold screeref2_Words.f txL
  rw [if_pos (by omega)]
theorem txL_short (s : ByteArray) (h : s.size ≤ 140737488) : (txL s).length ≤ 140737500 := by
  have := numL_len10 (n := s.size) (by omega)
  unfold txL
  rw [List.length_append, bytesOf_length]
  omega
theorem l1_ev (l : List En) (rs : Int) (pl : List Int) (i : Nat) (hi : i < 4611686018427387904) (key : ByteArray) (seq : Int) (del : Bool) (val : ByteArray) (hk : key.size ≤ 4611686018427387) (hv : val.size ≤ 140737488) (R : List Int × List Int) (d : Nat) :
    ∀ (j : Nat) (out : List Int), j + d = key.size → out.length + d ≤ 4000000000 → Ev (fun k => screeref9_body.l0 k l rs ((out ++ (bytesOf key).drop j) ++ (if del = true then [] else txL val)) pl ((i + 1 : Nat) : Int)) R →
      Ev (fun k => screeref9_body.l1 k l rs out pl (i : Int) (j : Int) key seq del val) R := by
  have lk := bytesOf_length key
  induction d with
  | zero =>
    intro j out hj ho h
    rw [List.drop_of_length_le (by omega), List.append_nil] at h
    cases del with
    | true =>
      rw [if_pos rfl, List.append_nil] at h
      refine Ev.step (fun k => ?_) h
      rw [screeref9_body.l1, if_neg (by omega), if_pos rfl, ww i hi]
    | false =>
      rw [if_neg (by decide)] at h
      have ht := txL_short val hv
      refine Ev.step (fun k => ?_) h
      rw [screeref9_body.l1, if_neg (by omega), if_neg (by decide), words_f val hv, Option.bind_some, if_pos (by omega), ww i hi]
  | succ d ih =>
    intro j out hj ho h
    obtain ⟨h1, e1⟩ := bytesOf_bt key j (by omega)
    rw [List.drop_eq_getElem_cons h1, e1] at h
    refine Ev.step (fun k => ?_) (ih (j + 1) (out ++ [bt key (j : Int)]) (by omega) (by rw [List.length_append, List.length_singleton]; omega) ?_)
    · rw [screeref9_body.l1, if_pos (by omega), if_pos (by omega), if_pos (by omega), ww j (by omega)]
    · rw [show (out ++ [bt key (j : Int)]) ++ (bytesOf key).drop (j + 1) = out ++ bt key (j : Int) :: (bytesOf key).drop (j + 1) by simp]
      exact h
theorem j3_ev (l : List En) (rs : Int) (pl out : List Int) (i : Nat) (hi : i < 4611686018427387904) (e : En) (hok : OkE e) (n : Nat) (hn : n ≤ e.f0.size) (ho : out.length ≤ 3000000000) (R : List Int × List Int)
    (h : Ev (fun k => screeref9_body.l0 k l rs (out ++ encE n e) pl ((i + 1 : Nat) : Int)) R) : Ev (fun k => screeref9_body.j3 k l rs out pl (i : Int) (n : Int) (markE e : Int) e.f0 e.f1 e.f2 e.f3) R := by
  have hm := markE_lt hok
  obtain ⟨h1, h2, h3, h4, h5, h6⟩ := hok
  have a1 := numL_len10 (n := n) (by omega)
  have a2 := numL_len10 (n := e.f0.size - n) (by omega)
  have a3 := numL_len10 (n := markE e) (by omega)
  have hv : e.f3.size ≤ 140737488 := by
    cases hd : e.f2 with
    | true => have := h6 hd; omega
    | false => have := h5 hd; omega
  refine Ev.step (fun k => ?_) (l1_ev l rs pl i hi e.f0 e.f1 e.f2 e.f3 (by omega) hv R (e.f0.size - n) n (out ++ numL n ++ numL (e.f0.size - n) ++ numL (markE e)) (by omega) (by simp only [List.length_append]; omega) ?_)
  · rw [screeref9_body.j3, u64w n (by omega), number_f n (by omega), Option.bind_some, if_pos (by omega), Option.bind_some, show wrap64 ((e.f0.size : Int) - (n : Int)) = ((e.f0.size - n : Nat) : Int) by unfold wrap64; omega, u64w _ (by omega), number_f _ (by omega), Option.bind_some, if_pos (by rw [List.length_append]; omega), Option.bind_some, number_f _ (by omega), Option.bind_some, if_pos (by simp only [List.length_append]; omega)]
  · have e2 : (out ++ numL n ++ numL (e.f0.size - n) ++ numL (markE e) ++ (bytesOf e.f0).drop n) ++ (if e.f2 = true then [] else txL e.f3) = out ++ encE n e := by
      unfold encE
      simp only [List.append_assoc]
    rw [e2]
    exact h
theorem mark_eq (e : En) (hok : OkE e) : (e.f2 = true → IntKind.u64.wrap ((IntKind.u64.wrap (2 * e.f1)) + 1) = (markE e : Int)) ∧ (e.f2 = false → IntKind.u64.wrap (2 * e.f1) = (markE e : Int)) := by
  obtain ⟨h1, h2, h3, h4, h5, h6⟩ := hok
  unfold markE
  constructor
  · intro h
    rw [h]
    simp only [IntKind.wrap, IntKind.bits, IntKind.signed, if_true]
    simp
    omega
  · intro h
    rw [h]
    simp [IntKind.wrap, IntKind.bits, IntKind.signed]
    omega
theorem push_len (r : Int) (l : List En) (hok : ∀ e ∈ l, OkE e) : (pushAll (newM r) l).data.length ≤ 700 * l.length := by
  revert hok
  refine snoc_rec (P := fun l => (∀ e ∈ l, OkE e) → (pushAll (newM r) l).data.length ≤ 700 * l.length) (fun _ => Nat.le_refl _) ?_ l
  intro l x ih hok
  have h1 := ih (fun e he => hok e (by simp [he]))
  have h2 := (encE_bound (n := sharedM (pushAll (newM r) l) x) (hok x (by simp)) (shared_le _ x).1).1
  rw [pushAll_snoc, List.length_append, List.length_singleton]
  show (_ ++ _ : List Int).length ≤ _
  rw [List.length_append]
  omega
theorem lastK_take (l : List En) (i : Nat) (h : i < l.length) : lastK (l.take (i + 1)) = (l[i]).f0 := by
  rw [List.take_succ_eq_append_getElem h, lastK_snoc]
theorem body_ev (r : Int) (hr : r ≤ 9223372036854775807) (l : List En) (hok : ∀ e ∈ l, OkE e) (hl : l.length ≤ 1000000) (d : Nat) : ∀ i : Nat, i + d = l.length →
    Ev (fun k => screeref9_body.l0 k l ((rsOf r : Nat) : Int) (pushAll (newM r) (l.take i)).data (plcs (pushAll (newM r) (l.take i))) (i : Int)) ((pushAll (newM r) l).data, plcs (pushAll (newM r) l)) := by
  have hrs := rsOf_pos r
  have hrb : rsOf r ≤ 9223372036854775807 := by unfold rsOf; split <;> omega
  induction d with
  | zero =>
    intro i hi
    rw [show l.take i = l from List.take_of_length_le (by omega)]
    refine Ev.step (f := fun _ => some ((pushAll (newM r) l).data, plcs (pushAll (newM r) l))) (fun k => ?_) (Ev.now _)
    rw [screeref9_body.l0, if_neg (by omega)]
  | succ d ih =>
    intro i hi
    have hlt : i < l.length := by omega
    obtain ⟨m, hm⟩ : ∃ m, pushAll (newM r) (l.take i) = m := ⟨_, rfl⟩
    have hx : (rd_T30 l (i : Int)) = l[i] := by simp [rd_T30, List.getD_eq_getElem?_getD, hlt]
    obtain ⟨e, he⟩ : ∃ e, l[i] = e := ⟨_, rfl⟩
    rw [he] at hx
    have hoe : OkE e := by rw [← he]; exact hok _ (List.getElem_mem hlt)
    have hm1 : pushAll (newM r) (l.take (i + 1)) = pushM m e := by rw [List.take_succ_eq_append_getElem hlt, pushAll_snoc, hm, he]
    have hlen : m.data.length ≤ 700 * i := by
      have z := push_len r (l.take i) (fun x hx => hok x (List.mem_of_mem_take hx))
      rw [hm, List.length_take] at z
      omega
    have hpl : m.places.length ≤ i := by
      have z := (places_inv r (l.take i)).2.2.2
      rw [hm, List.length_take] at z
      omega
    have hrsn := pushAll_rs (l.take i) (newM r)
    rw [hm, List.length_take] at hrsn
    have hmn : m.n = i := by rw [hrsn.2]; show 0 + min i l.length = i; omega
    have hmr : m.rs = rsOf r := hrsn.1
    have hml : m.last = lastK (l.take i) := by rw [← hm]; exact last_eq r _
    have hI := ih (i + 1) (by omega)
    rw [hm1] at hI
    rw [hm]
    have hsh := shared_le m e
    have hnext : Ev (fun k => screeref9_body.j3 k l ((rsOf r : Nat) : Int) m.data (plcs (pushM m e)) (i : Int) ((sharedM m e : Nat) : Int) (markE e : Int) e.f0 e.f1 e.f2 e.f3) ((pushAll (newM r) l).data, plcs (pushAll (newM r) l)) :=
      j3_ev l _ _ m.data i (by omega) e hoe (sharedM m e) hsh.1 (by omega) _ hI
    have hj2 : Ev (fun k => screeref9_body.j2 k l ((rsOf r : Nat) : Int) m.data (plcs (pushM m e)) (i : Int) ((sharedM m e : Nat) : Int) e.f0 e.f1 e.f2 e.f3) ((pushAll (newM r) l).data, plcs (pushAll (newM r) l)) := by
      refine Ev.step (fun k => ?_) hnext
      have me := mark_eq e hoe
      cases hd : e.f2 with
      | true => rw [screeref9_body.j2, if_pos rfl, me.1 hd]
      | false => rw [screeref9_body.j2, if_neg (by decide), me.2 hd]
    have hmod : Int.tmod (i : Int) ((rsOf r : Nat) : Int) = ((i % rsOf r : Nat) : Int) := rfl
    by_cases hz : i % rsOf r = 0
    · have hs0 : sharedM m e = 0 := by unfold sharedM; rw [hmn, hmr, if_pos hz]
      have hpp : plcs (pushM m e) = plcs m ++ [(m.data.length : Int)] := by
        unfold plcs pushM
        simp only
        rw [hmn, hmr, if_pos hz, List.map_append]
        rfl
      rw [hs0, hpp] at hj2
      refine Ev.step (fun k => ?_) hj2
      rw [screeref9_body.l0, if_pos (by omega), if_pos (by omega), if_neg (by omega), hmod, if_pos (by omega), if_pos (by unfold plcs; rw [List.length_map]; omega), hx]
      rfl
    · have hs0 : sharedM m e = lcp (bytesOf e.f0) (bytesOf m.last) := by unfold sharedM; rw [hmn, hmr, if_neg hz]
      have hpp : plcs (pushM m e) = plcs m := by
        unfold plcs pushM
        simp only
        rw [hmn, hmr, if_neg hz]
      have hi0 : i ≠ 0 := fun h => hz (by rw [h, Nat.zero_mod])
      have hw : wrap64 ((i : Int) - 1) = ((i - 1 : Nat) : Int) := by unfold wrap64; omega
      have hx1 : (rd_T30 l ((i - 1 : Nat) : Int)).f0 = m.last := by
        have hlt1 : i - 1 < l.length := by omega
        have z := lastK_take l (i - 1) hlt1
        rw [show i - 1 + 1 = i by omega, ← hml] at z
        rw [z]
        simp [rd_T30, List.getD_eq_getElem?_getD, hlt1]
      rw [hs0, hpp, lcp_comm] at hj2
      have hls : m.last.size ≤ 64 := by
        have hlt1 : i - 1 < l.length := by omega
        have z := lastK_take l (i - 1) hlt1
        rw [show i - 1 + 1 = i by omega, ← hml] at z
        rw [z]
        exact (hok _ (List.getElem_mem hlt1)).2.1
      have hsf := shared_f m.last e.f0 (by omega)
      refine Ev.step (fun k => ?_) (Ev.bind (f := fun k (t : Int) => screeref9_body.j2 k l ((rsOf r : Nat) : Int) m.data (plcs m) (i : Int) t e.f0 e.f1 e.f2 e.f3) hsf hj2)
      rw [screeref9_body.l0, if_pos (by omega), if_pos (by omega), if_neg (by omega), hmod, if_neg (by omega), hw, if_pos (by omega), if_pos (by omega), hx1, hx]
theorem body_f (r : Int) (hr : r ≤ 9223372036854775807) (l : List En) (hok : ∀ e ∈ l, OkE e) (hl : l.length ≤ 1000000) : Ev (fun k => screeref9_body.f k l r) ((pushAll (newM r) l).data, plcs (pushAll (newM r) l)) := by
  have h := body_ev r hr l hok hl l.length 0 (by omega)
  have h0 : Ev (fun k => screeref9_body.j0 k l ((rsOf r : Nat) : Int)) ((pushAll (newM r) l).data, plcs (pushAll (newM r) l)) := by
    refine Ev.step (fun k => ?_) h
    rw [screeref9_body.j0]
    rfl
  refine Ev.congr (fun k => ?_) h0
  unfold screeref9_body.f rsOf
  by_cases h1 : r < 1
  · rw [if_pos h1, if_neg (show ¬ (1 ≤ r) by omega)]
    rfl
  · rw [if_neg h1, if_pos (show 1 ≤ r by omega), show ((r.toNat : Nat) : Int) = r by omega]
theorem four_f (p : Nat) (h : p < 4294967296) : screeref9_four.f (p : Int) = some (fourL (p : Int)) := by
  unfold screeref9_four.f screeref2_Four.f fourL
  rw [Option.bind_some]
  congr 1
  have : (p : Int) % 4294967296 = (p : Int) := by omega
  rw [this]
  congr 3
  congr 1
  omega
theorem bytes_ev (m : Mk) (hd : m.data.length ≤ 1000000000) (hb : Bytes m.data) (hp : ∀ p ∈ m.places, p < 4294967296) (hpl : m.places.length ≤ 1000000) (d : Nat) : ∀ i : Nat, i + d = m.places.length →
    Ev (fun k => screeref9_Bytes.l0 k (m.data ++ (m.places.take i).flatMap fun (p : Nat) => fourL (p : Int)) (plcs m) (i : Int)) (bytesM m) := by
  have hpm : (plcs m).length = m.places.length := by unfold plcs; rw [List.length_map]
  induction d with
  | zero =>
    intro i hi
    rw [List.take_of_length_le (by omega)]
    refine Ev.step (f := fun _ => some (bytesM m)) (fun k => ?_) (Ev.now _)
    have hbl := body_len m
    have hfl := flat_len m.places
    have hbo : Bytes (bodyM m) := bytes_app (bytes_app hb (flat4_bytes hp)) (bytes_four ⟨by omega, by omega⟩)
    have hsr := sumF_range hbo
    have hok : okB (bodyM m) = true := by
      unfold okB
      rw [List.all_eq_true]
      intro x hx
      have := hbo x hx
      simp
      omega
    rw [screeref9_Bytes.l0, if_neg (by omega), hpm, four_f _ (by omega), Option.bind_some, if_pos (by rw [List.length_append, hfl, four_len]; omega), Option.bind_some]
    rw [show m.data ++ (m.places.flatMap fun (p : Nat) => fourL (p : Int)) ++ fourL (m.places.length : Int) = bodyM m from rfl]
    unfold screeref2_Sum.f
    rw [if_pos ⟨hok, by omega⟩, Option.bind_some]
    have hf : screeref2_Four.f (sumF (bodyM m)) = some (fourL (sumF (bodyM m))) := by
      unfold screeref2_Four.f fourL
      have h2 := hsr.2
      have h1 := hsr.1
      congr 4
      congr 1
      omega
    rw [hf, Option.bind_some, if_pos (by rw [hbl, four_len]; omega)]
    rfl
  | succ d ih =>
    intro i hi
    have hlt : i < m.places.length := by omega
    have hI := ih (i + 1) (by omega)
    rw [List.take_succ_eq_append_getElem hlt, List.flatMap_append, List.flatMap_cons, List.flatMap_nil, List.append_nil, ← List.append_assoc] at hI
    have hr : rd (plcs m) (i : Int) = ((m.places[i] : Nat) : Int) := by
      unfold plcs
      simp [rd, List.getD_eq_getElem?_getD, hlt]
    have hfl := flat_len (m.places.take i)
    rw [List.length_take] at hfl
    refine Ev.step (fun k => ?_) hI
    rw [screeref9_Bytes.l0, if_pos (by omega), if_pos (by omega), hr, four_f _ (hp _ (List.getElem_mem hlt)), Option.bind_some, if_pos (by rw [List.length_append, hfl, four_len]; omega), ww i (by omega)]
theorem bytes_f (r : Int) (hr : r ≤ 9223372036854775807) (l : List En) (hok : ∀ e ∈ l, OkE e) (hl : l.length ≤ 1000000) (hg : Bytes (pushAll (newM r) l).data) : Ev (fun k => screeref9_Bytes.f k l r) (bytesM (pushAll (newM r) l)) := by
  obtain ⟨m, hm⟩ : ∃ m, pushAll (newM r) l = m := ⟨_, rfl⟩
  have h1 := body_f r hr l hok hl
  have h2 := push_len r l hok
  have h3 := (places_inv r l).2.2.2
  have h4 := (places_facts r l).2
  rw [hm] at h1 h2 h3 h4 hg ⊢
  have h5 := bytes_ev m (by omega) hg (fun p hp => by
    obtain ⟨j, hj⟩ := List.getElem?_of_mem hp
    have := (h4 j p hj).2
    omega) (by omega) m.places.length 0 (by omega)
  rw [List.take_zero, List.flatMap_nil, List.append_nil] at h5
  unfold screeref9_Bytes.f
  exact Ev.bind h1 h5
end Go.Proofs.YtaonjmkfbfhanaaDoor.Rf
namespace Go.Proofs.YtaonjmkfbfhanaaDoor.Bk
open Go.RowKit Go.Proofs.YtaonjmkfbfhanaaDoorW.PrintWords Go.Proofs.YtaonjmkfbfhanaaDoor.Own Go.Proofs.YtaonjmkfbfhanaaDoor.G Go.Proofs.YtaonjmkfbfhanaaDoor.Wk Go.Proofs.YtaonjmkfbfhanaaDoor.QBo
set_option linter.unusedVariables false
def ltK (a b : ByteArray) : Bool := Op.bytesLess a.toList b.toList
/-- The place at which Seek comes to rest. -/
def seekF (es : List En) (rs : Nat) (s : ByteArray) : Nat → Nat → Option Nat
  | 0, _ => none
  | f + 1, a => if es.length ≤ a then none else if ltK (rd_T30 es (a : Int)).f0 s = false then some a
    else if a + rs < es.length ∧ ltK (rd_T30 es ((a + rs : Nat) : Int)).f0 s = true then seekF es rs s f (a + rs) else seekF es rs s f (a + 1)
def SeekPost (w : World) (es : List En) (q : Option Nat) (e : Ending) (w' : World) : Prop :=
  (match q with
  | none => e = .returned (.tuple #[.agg #[.string ⟨#[]⟩, .int .u64 0, .bool false, .string ⟨#[]⟩], .bool false])
  | some a => a < es.length ∧ e = .returned (.tuple #[.agg #[.string (rd_T30 es (a : Int)).f0, .int .u64 (rd_T30 es (a : Int)).f1, .bool (rd_T30 es (a : Int)).f2, .string (rd_T30 es (a : Int)).f3], .bool true])) ∧ Below w.heap.size w w'
set_option maxHeartbeats 4000000 in
set_option maxRecDepth 100000 in
theorem seek_calls {w : World} {gk n1 c1 rs : Nat} {A : Option Addr} {es : List En} (s : ByteArray) (hr : 1 ≤ rs) (hr2 : rs ≤ 1073741824) (hl : n1 ≤ 1073741824) (hk0 : w.cell? ⟨gk, 0, none⟩ = some (.slice A n1 c1)) (hk1 : w.cell? ⟨gk, 1, none⟩ = some (.int .i64 (rs : Int))) (hC : Kd.C kE w A n1 es) :
    Calls Tryd.prog 22 #[.pointer (some ⟨gk, 0, none⟩), .string s] w (SeekPost w es (seekF es rs s (es.length + 1) 0)) := by
  have HC := Aside0.mk hC
  have hn : es.length = n1 := hC.1
  clear hC
  go_enter Tryd.func22, Tryd.ntmps22
  go_wp2_with fail
  go_step3
  go_wp2_with fail
  go_step3
  go_wp2_with fail
  obtain ⟨w1, hw1⟩ : ∃ w1, w.alloc (.cells #[.string ⟨#[]⟩, .int .u64 0, .bool false, .string ⟨#[]⟩] 30) = w1 := ⟨_, rfl⟩
  have HB0 : Aside0 (Below w.heap.size w w1) := ⟨by rw [← hw1]; exact below_alloc (Below.refl _ _) _⟩
  have HX0 : Aside0 (w1.heap[w.heap.size]? = some (.cells #[.string ⟨#[]⟩, .int .u64 0, .bool false, .string ⟨#[]⟩] 30 (0, 0))) := ⟨by rw [← hw1]; exact heap_alloc_new w _⟩
  have HK0 : Aside0 (w1.cell? ⟨gk, 0, none⟩ = some (.slice A n1 c1)) := ⟨pw_cell_below HB0.out hk0⟩
  have HK1 : Aside0 (w1.cell? ⟨gk, 1, none⟩ = some (.int .i64 (rs : Int))) := ⟨pw_cell_below HB0.out hk1⟩
  have HC1 := Aside0.mk (Kd.C_below HC.out HB0.out)
  obtain ⟨gx, hh⟩ : ∃ gx, w.heap.size = gx := ⟨_, rfl⟩
  have HH := Aside0.mk hh
  rw [hw1]
  rw [hh] at HX0 ⊢
  clear hw1 hh hk0 hk1
  go_loopw [6] (fun s6 wr => ∃ (k f : Nat), s6 = .int .i64 (k : Int) ∧ k ≤ n1 ∧ n1 + 1 ≤ k + f ∧ Aside0 (seekF es rs s (es.length + 1) 0 = seekF es rs s f k) ∧ Aside0 (Below w1.heap.size w1 wr)) (fun s6 _ => n1 - (intOf s6).toNat)
  case atStart => exact ⟨0, es.length + 1, rfl, Nat.zero_le _, by omega, ⟨rfl⟩, ⟨Below.refl _ _⟩⟩
  case round =>
    obtain ⟨k, f, rfl, hk, hf, HQ, HB⟩ := hrel
    obtain ⟨f, rfl⟩ : ∃ f', f = f' + 1 := ⟨f - 1, by omega⟩
    have k0 : wr.cell? ⟨gk, 0, none⟩ = some (.slice A n1 c1) := pw_cell_below HB.out HK0.out
    have k1 : wr.cell? ⟨gk, 1, none⟩ = some (.int .i64 (rs : Int)) := pw_cell_below HB.out HK1.out
    have HXr : Aside0 (wr.heap[gx]? = some (.cells #[.string ⟨#[]⟩, .int .u64 0, .bool false, .string ⟨#[]⟩] 30 (0, 0))) := ⟨(HB.out.block _ (blk_lt HX0.out)).trans HX0.out⟩
    have b0 := blk_frozen HXr.out 0
    have b1 := blk_frozen HXr.out 1
    have b2 := blk_frozen HXr.out 2
    have b3 := blk_frozen HXr.out 3
    have y0 : wr.cell? ⟨gx, 0, none⟩ = some (.string ⟨#[]⟩) := by rw [blk_cell HXr.out]; rfl
    have y1 : wr.cell? ⟨gx, 1, none⟩ = some (.int .u64 0) := by rw [blk_cell HXr.out]; rfl
    have y2 : wr.cell? ⟨gx, 2, none⟩ = some (.bool false) := by rw [blk_cell HXr.out]; rfl
    have y3 : wr.cell? ⟨gx, 3, none⟩ = some (.string ⟨#[]⟩) := by rw [blk_cell HXr.out]; rfl
    have HHx : Aside0 (w.heap.size ≤ gx) := ⟨Nat.le_of_eq HH.out⟩
    by_cases hlt : k < n1
    · have d0 : decide ((n1 : Int) ≤ (k : Int)) = false := decide_eq_false (by omega)
      have d0' : decide (n1 ≤ k) = false := decide_eq_false (by omega)
      obtain ⟨ad, ea, x0, x1, x2, x3⟩ := at_T30 (Kd.C_below HC1.out HB.out) (k : Int) (by omega) (by omega)
      obtain ⟨e, he⟩ : ∃ e, rd_T30 es (k : Int) = e := ⟨_, rfl⟩
      rw [he, Int.toNat_natCast] at x0 x1 x2 x3
      subst ea
      have HEk := Aside0.mk he
      clear he
      cases hb : Op.bytesLess e.f0.toList s.toList with
      | false =>
        have HE : Aside0 (seekF es rs s (es.length + 1) 0 = some k) := ⟨by rw [HQ.out]; unfold seekF; rw [if_neg (by omega), HEk.out, if_pos (show ltK e.f0 s = false from hb)]⟩
        go_wp2_with fail
        refine bodyPost_ret (results_ct rfl _ _ gx 30 #[.string e.f0, .int .u64 e.f1, .bool e.f2, .string e.f3] (0, 0) _ rfl (by refine blk_put (cs := #[.string e.f0, .int .u64 e.f1, .bool e.f2, .string (⟨#[]⟩ : ByteArray)]) ?_ 3 _ rfl; refine blk_put (cs := #[.string e.f0, .int .u64 e.f1, .bool false, .string (⟨#[]⟩ : ByteArray)]) ?_ 2 _ rfl; refine blk_put (cs := #[.string e.f0, .int .u64 0, .bool false, .string (⟨#[]⟩ : ByteArray)]) ?_ 1 _ rfl; refine blk_put (cs := #[.string (⟨#[]⟩ : ByteArray), .int .u64 0, .bool false, .string (⟨#[]⟩ : ByteArray)]) ?_ 0 _ rfl; exact HXr.out) Tryd.underlying30 rfl (by kernel_rfl)) rfl ?_
        rw [HE.out]
        exact ⟨⟨by omega, by rw [HEk.out]; rfl⟩, ((((below_step HB0.out HB.out).setCell (p := ⟨gx, 0, none⟩) HHx.out _).setCell (p := ⟨gx, 1, none⟩) HHx.out _).setCell (p := ⟨gx, 2, none⟩) HHx.out _).setCell (p := ⟨gx, 3, none⟩) HHx.out _⟩
      | true =>
        have HE : Aside0 (seekF es rs s (es.length + 1) 0 = if k + rs < es.length ∧ ltK (rd_T30 es ((k + rs : Nat) : Int)).f0 s = true then seekF es rs s f (k + rs) else seekF es rs s f (k + 1)) := ⟨by rw [HQ.out]; conv => lhs; unfold seekF; rw [if_neg (by omega), HEk.out, if_neg (by show ¬ Op.bytesLess e.f0.toList s.toList = false; rw [hb]; decide)]⟩
        clear b0 b1 b2 b3 y0 y1 y2 y3
        have kr : wrap64 ((k : Int) + (rs : Int)) = ((k + rs : Nat) : Int) := by rw [show wrap64 ((k : Int) + (rs : Int)) = (k : Int) + (rs : Int) from by unfold wrap64; omega]; omega
        by_cases hq : k + rs < n1
        · obtain ⟨ad2, ea2, z0, z1, z2, z3⟩ := at_T30 (Kd.C_below HC1.out HB.out) ((k + rs : Nat) : Int) (by omega) (by omega)
          injection ea2 with ea2
          subst ea2
          obtain ⟨e2, he2⟩ : ∃ e2, rd_T30 es ((k + rs : Nat) : Int) = e2 := ⟨_, rfl⟩
          rw [he2, Int.toNat_natCast] at z0 z1 z2 z3
          rw [he2] at HE
          clear he2
          have d1 : decide (((k + rs : Nat) : Int) < (n1 : Int)) = true := decide_eq_true (by omega)
          have d1' : decide (k + rs < n1) = true := decide_eq_true hq
          have d1'' : decide ((k : Int) + (rs : Int) < (n1 : Int)) = true := decide_eq_true (by omega)
          cases hb2 : Op.bytesLess e2.f0.toList s.toList with
          | true =>
            have HE2 : Aside0 (seekF es rs s (es.length + 1) 0 = seekF es rs s f (k + rs)) := ⟨by rw [HE.out, if_pos ⟨by omega, hb2⟩]⟩
            go_wp2_with fail
            repeat (go_quiet (fail); try (go_wp2_with fail))
            go_roundw
            case rel => exact ⟨k + rs, f, by go_num, by omega, by omega, HE2, ⟨by repeat (first | exact HB.out | apply pw_below_drewN)⟩⟩
            case measure => simp [intOf]; omega
          | false =>
            have HE2 : Aside0 (seekF es rs s (es.length + 1) 0 = seekF es rs s f (k + 1)) := ⟨by rw [HE.out, if_neg (by rintro ⟨_, z⟩; have z' : Op.bytesLess e2.f0.toList s.toList = true := z; rw [hb2] at z'; exact absurd z' (by decide))]⟩
            go_wp2_with fail
            repeat (go_quiet (fail); try (go_wp2_with fail))
            go_roundw
            case rel => exact ⟨k + 1, f, by go_num, by omega, by omega, HE2, ⟨by repeat (first | exact HB.out | apply pw_below_drewN)⟩⟩
            case measure => simp [intOf]; omega
        · have d1 : decide (((k + rs : Nat) : Int) < (n1 : Int)) = false := decide_eq_false (by omega)
          have d1' : decide (k + rs < n1) = false := decide_eq_false hq
          have d1'' : decide ((k : Int) + (rs : Int) < (n1 : Int)) = false := decide_eq_false (by omega)
          have HE2 : Aside0 (seekF es rs s (es.length + 1) 0 = seekF es rs s f (k + 1)) := ⟨by rw [HE.out, if_neg (by omega)]⟩
          go_wp2_with fail
          repeat (go_quiet (fail); try (go_wp2_with fail))
          go_roundw
          case rel => exact ⟨k + 1, f, by go_num, by omega, by omega, HE2, ⟨by repeat (first | exact HB.out | apply pw_below_drewN)⟩⟩
          case measure => simp [intOf]; omega
    · obtain rfl : k = n1 := by omega
      have d0 : decide ((k : Int) ≤ (k : Int)) = true := decide_eq_true (by omega)
      have d0' : decide (k ≤ k) = true := decide_eq_true (by omega)
      have HE : Aside0 (seekF es rs s (es.length + 1) 0 = none) := ⟨by rw [HQ.out]; unfold seekF; rw [if_pos (by omega)]⟩
      go_wp2_with fail
      refine bodyPost_ret (results_ct rfl _ _ gx 30 #[.string (⟨#[]⟩ : ByteArray), .int .u64 0, .bool false, .string (⟨#[]⟩ : ByteArray)] (0, 0) _ rfl (by refine blk_put (cs := #[.string (⟨#[]⟩ : ByteArray), .int .u64 0, .bool false, .string (⟨#[]⟩ : ByteArray)]) ?_ 3 _ rfl; refine blk_put (cs := #[.string (⟨#[]⟩ : ByteArray), .int .u64 0, .bool false, .string (⟨#[]⟩ : ByteArray)]) ?_ 2 _ rfl; refine blk_put (cs := #[.string (⟨#[]⟩ : ByteArray), .int .u64 0, .bool false, .string (⟨#[]⟩ : ByteArray)]) ?_ 1 _ rfl; refine blk_put (cs := #[.string (⟨#[]⟩ : ByteArray), .int .u64 0, .bool false, .string (⟨#[]⟩ : ByteArray)]) ?_ 0 _ rfl; exact HXr.out) Tryd.underlying30 rfl (by kernel_rfl)) rfl ?_
      rw [HE.out]
      exact ⟨rfl, ((((below_step HB0.out HB.out).setCell (p := ⟨gx, 0, none⟩) HHx.out _).setCell (p := ⟨gx, 1, none⟩) HHx.out _).setCell (p := ⟨gx, 2, none⟩) HHx.out _).setCell (p := ⟨gx, 3, none⟩) HHx.out _⟩
end Go.Proofs.YtaonjmkfbfhanaaDoor.Bk
namespace Go.Proofs.YtaonjmkfbfhanaaDoor.QBo
open Go.Proofs.YtaonjmkfbfhanaaDoor.Own
open Go.RowKit Go.Proofs.YtaonjmkfbfhanaaDoorW.PrintWords Go.Proofs.YtaonjmkfbfhanaaDoorW.PrintLast Go.Proofs.YtaonjmkfbfhanaaDoorW.PrintMore
attribute [local go_sem] max2_int min2_int max_two min_two max_three min_three max_four min_four   -- for this text's walks alone
set_option linter.unusedVariables false
set_option linter.unusedSimpArgs false
def screeref2_Text.f (l0 : List Int) (a1 : Int) : Option (ByteArray × Int × Int) := if okB l0 = true ∧ l0.length ≤ 140737488351232 ∧ -9223372036854775808 ≤ a1 ∧ a1 ≤ 9223372036854775807 then some (textL l0 a1) else none
set_option maxHeartbeats 1000000 in
set_option maxRecDepth 100000 in
theorem screeref2_Text.calls (A0 : Option Addr) (c0 : Nat) (l0 : List Int) (a1 : Int) (r1 : ByteArray) (r2 : Int) (r3 : Int) (w : World) (hr0 : Kd.C (Kd.int .u8) w A0 l0.length l0) (hc0 : l0.length ≤ c0) (h : screeref2_Text.f l0 a1 = some (r1, r2, r3)) :
    Calls Tryd.prog 79 #[.slice A0 l0.length c0, .int .i64 a1] w fun e w' => e = .returned (.tuple #[.string r1, .int .i64 r2, .int .i64 r3]) ∧ Drawn0 w w' := by
  unfold screeref2_Text.f at h
  split at h
  · rename_i hh
    obtain ⟨hb, hl, hm1, hm2⟩ := hh
    have h := Option.some.inj h
    have HR0 := Aside0.mk hr0
    have hs := uintN_spec l0 (okB_iff.1 hb)
    have hU : screeref2_Uint.f l0 = some (uintL l0) := by unfold screeref2_Uint.f; rw [if_pos ⟨hb, by omega⟩]
    obtain ⟨n, k, e, hN, s1, s2, s3⟩ : ∃ n k e, uintN l0 = (n, k, e) ∧ n < 18446744073709551616 ∧ k ≤ l0.length ∧ k ≤ 10 := ⟨_, _, _, rfl, hs⟩
    have hL : uintL l0 = ((n : Int), (k : Int), (e : Int)) := by unfold uintL i3; rw [hN]
    rw [hL] at hU
    have HU := Aside0.mk hU
    unfold textL at h
    rw [hN] at h
    simp only at h
    have hk : IntKind.u64.wrap (wrap64 ((l0.length : Int) - (k : Int))) = (l0.length : Int) - (k : Int) := by
      rw [show wrap64 ((l0.length : Int) - (k : Int)) = (l0.length : Int) - (k : Int) by unfold wrap64; omega]
      simp [IntKind.wrap, IntKind.bits, IntKind.signed]
      omega
    have HK := Aside0.mk hk
    clear hU hr0 hs hN hL hk
    by_cases he : e = 0
    · rw [if_neg (by simpa using he)] at h
      subst he
      by_cases hmost : a1 < 0
      · rw [if_pos (.inl hmost)] at h
        simp only [Prod.mk.injEq] at h
        obtain ⟨rfl, rfl, rfl⟩ := h
        have hd : decide (a1 < 0) = true := decide_eq_true hmost
        go_enter Tryd.func79, Tryd.ntmps79
        go_wp2_with fail
        refine (screeref2_Uint.calls A0 c0 l0 (n : Int) (k : Int) ((0 : Nat) : Int) w HR0.out hc0 HU.out).mono ?_
        rintro e w1 ⟨rfl, ⟨m1, rfl⟩⟩
        go_wp2
        go_ret3
        exact ⟨rfl, ⟨m1, rfl⟩⟩
      · have hge : 0 ≤ a1 := by omega
        have hd : decide (a1 < 0) = false := decide_eq_false hmost
        have hwa : IntKind.u64.wrap a1 = a1 := by simp [IntKind.wrap, IntKind.bits, IntKind.signed]; omega
        by_cases hbig : (n : Int) > a1
        · rw [if_pos (.inr hbig)] at h
          simp only [Prod.mk.injEq] at h
          obtain ⟨rfl, rfl, rfl⟩ := h
          have hd2 : decide (a1 < (n : Int)) = true := decide_eq_true hbig
          have hd3 : decide (IntKind.u64.wrap a1 < (n : Int)) = true := by rw [hwa]; exact hd2
          clear hwa
          go_enter Tryd.func79, Tryd.ntmps79
          go_wp2_with fail
          refine (screeref2_Uint.calls A0 c0 l0 (n : Int) (k : Int) ((0 : Nat) : Int) w HR0.out hc0 HU.out).mono ?_
          rintro e w1 ⟨rfl, ⟨m1, rfl⟩⟩
          go_wp2
          go_ret3
          exact ⟨rfl, ⟨m1, rfl⟩⟩
        · rw [if_neg (by omega)] at h
          have hd2 : decide (a1 < (n : Int)) = false := decide_eq_false (by omega)
          have hd3 : decide (IntKind.u64.wrap a1 < (n : Int)) = false := by rw [hwa]; exact hd2
          clear hwa
          by_cases hs : n > l0.length - k
          · rw [if_pos hs] at h
            simp only [Prod.mk.injEq] at h
            obtain ⟨rfl, rfl, rfl⟩ := h
            have hd4 : decide ((l0.length : Int) - (k : Int) < (n : Int)) = true := decide_eq_true (by omega)
            have hd5 : decide (IntKind.u64.wrap (wrap64 ((l0.length : Int) - (k : Int))) < (n : Int)) = true := by rw [HK.out]; exact hd4
            have hd6 : decide (IntKind.u64.wrap ((l0.length : Int) - (k : Int)) < (n : Int)) = true := by have := HK.out; rw [show wrap64 ((l0.length : Int) - (k : Int)) = (l0.length : Int) - (k : Int) by unfold wrap64; omega] at this; rw [this]; exact hd4
            go_enter Tryd.func79, Tryd.ntmps79
            go_wp2_with fail
            refine (screeref2_Uint.calls A0 c0 l0 (n : Int) (k : Int) ((0 : Nat) : Int) w HR0.out hc0 HU.out).mono ?_
            rintro e w1 ⟨rfl, ⟨m1, rfl⟩⟩
            go_wp2
            go_ret3
            exact ⟨rfl, ⟨m1, rfl⟩⟩
          · rw [if_neg hs] at h
            simp only [Prod.mk.injEq] at h
            obtain ⟨e1, e2, rfl⟩ := h
            have E1 := Aside0.mk e1
            have E2 := Aside0.mk e2
            clear e1 e2
            have hd4 : decide ((l0.length : Int) - (k : Int) < (n : Int)) = false := decide_eq_false (by omega)
            have hd5 : decide (IntKind.u64.wrap (wrap64 ((l0.length : Int) - (k : Int))) < (n : Int)) = false := by rw [HK.out]; exact hd4
            have hd6 : decide (IntKind.u64.wrap ((l0.length : Int) - (k : Int)) < (n : Int)) = false := by have := HK.out; rw [show wrap64 ((l0.length : Int) - (k : Int)) = (l0.length : Int) - (k : Int) by unfold wrap64; omega] at this; rw [this]; exact hd4
            obtain ⟨i012, hi012, _, hsz12, _⟩ := info_parts info5
            obtain ⟨A12, hcut12, hA12, hC12⟩ := print_mid_of (P := Tryd.prog) (Value.int .u8) (0 : Int) 22 5 .i64 .i64 Tryd.underlying22 hi012 hsz12 A0 c0 l0 (k : Int) ((k : Int) + (n : Int)) (by omega) (by omega) (by omega) hc0
            have HE : Aside0 (strOfNums ((l0.take ((k : Int) + (n : Int)).toNat).drop (k : Int).toNat) = r1) := ⟨by rw [show ((k : Int) + (n : Int)).toNat = k + n by omega, Int.toNat_natCast]; exact E1.out⟩
            generalize (l0.take ((k : Int) + (n : Int)).toNat).drop (k : Int).toNat = ys at hcut12 hA12 hC12 HE
            have hR12 := Kd.C_of_reads (h1 := fun _ => rfl) (hA12 _ (Kd.reads_of_C HR0.out))
            have HR12 := Aside0.mk hR12
            clear hA12 hC12 hi012 hsz12 hR12
            go_enter Tryd.func79, Tryd.ntmps79
            go_wp2_with fail
            refine (screeref2_Uint.calls A0 c0 l0 (n : Int) (k : Int) ((0 : Nat) : Int) w HR0.out hc0 HU.out).mono ?_
            rintro e w1 ⟨rfl, ⟨m1, rfl⟩⟩
            have hcv13 := Kd.C_string (P := Tryd.prog) (w := w.drewN m1) (A := A12) (c := (c0 - k)) Tryd.underlying22 Tryd.underlying5 Tryd.underlying9 HR12.out
            rw [HE.out] at hcv13
            go_wp2
            repeat (go_quiet (fail); try go_wp2)
            go_ret3
            exact ⟨by rw [← E2.out]; rfl, by repeat (first | exact Drawn0.refl _ | apply Drawn0.step)⟩
    · rw [if_pos (by simpa using he)] at h
      simp only [Prod.mk.injEq] at h
      obtain ⟨rfl, rfl, rfl⟩ := h
      have hd : ((e : Int) != 0) = true := by rw [bne_iff_ne]; omega
      go_enter Tryd.func79, Tryd.ntmps79
      go_wp2_with fail
      refine (screeref2_Uint.calls A0 c0 l0 (n : Int) (k : Int) (e : Int) w HR0.out hc0 HU.out).mono ?_
      rintro e' w1 ⟨rfl, ⟨m1, rfl⟩⟩
      go_wp2
      go_ret3
      exact ⟨rfl, ⟨m1, rfl⟩⟩
  · cases h
end Go.Proofs.YtaonjmkfbfhanaaDoor.QBo
namespace Go.Proofs.YtaonjmkfbfhanaaDoor.Bk
open Go.RowKit Go.Proofs.YtaonjmkfbfhanaaDoorW.PrintWords Go.Proofs.YtaonjmkfbfhanaaDoor.Own Go.Proofs.YtaonjmkfbfhanaaDoor.G Go.Proofs.YtaonjmkfbfhanaaDoor.Wk Go.Proofs.YtaonjmkfbfhanaaDoor.QBo
set_option linter.unusedVariables false
/-- What 'entry' of the document answers. -/
def EntRef (w : World) (r : Option (En × Nat)) (e : Ending) (w' : World) : Prop :=
  (match r with
  | none => e = .returned (.tuple #[.agg #[.string (⟨#[]⟩ : ByteArray), .int .u64 0, .bool false, .string (⟨#[]⟩ : ByteArray)], .int .i64 0])
  | some (x, k) => e = .returned (.tuple #[ev x, .int .i64 (k : Int)])) ∧ Below w.heap.size w w'
theorem numsR_none {l : List Int} {s : ByteArray} (h : numsR 3 l 0 [] = none) : entryL l s = none := by unfold entryL; rw [h]
theorem entryL_0 {l : List Int} {s : ByteArray} {n0 k0 e0 : Nat} (h : uintN l = (n0, k0, e0)) (he : e0 ≠ 0) : entryL l s = none :=
  numsR_none (by rw [numsR_step, List.drop_zero, h]; exact if_pos he)
theorem numsR_1 {l : List Int} {n0 k0 : Nat} (h : uintN l = (n0, k0, 0)) : numsR 3 l 0 [] = numsR 2 l k0 [n0] := by
  rw [numsR_step, List.drop_zero, h, if_neg (by simp)]
  simp
theorem numsR_2 {l : List Int} {n0 k0 n1 k1 e1 : Nat} (h : uintN (l.drop k0) = (n1, k1, e1)) : numsR 2 l k0 [n0] = if e1 ≠ 0 then none else numsR 1 l (k0 + k1) [n0, n1] := by
  rw [numsR_step, h]
  rfl
theorem numsR_3 {l : List Int} {n0 n1 a n2 k2 e2 : Nat} (h : uintN (l.drop a) = (n2, k2, e2)) : numsR 1 l a [n0, n1] = if e2 ≠ 0 then none else some ([n0, n1, n2], a + k2) := by
  rw [numsR_step, h]
  rfl
theorem entryL_1 {l : List Int} {s : ByteArray} {n0 k0 : Nat} (h : uintN l = (n0, k0, 0)) (hn : n0 > s.size) : entryL l s = none := by
  unfold entryL
  rw [numsR_1 h]
  obtain ⟨n1, k1, e1, h1⟩ : ∃ n1 k1 e1, uintN (l.drop k0) = (n1, k1, e1) := ⟨_, _, _, rfl⟩
  rw [numsR_2 h1]
  by_cases c1 : e1 ≠ 0
  · rw [if_pos c1]
  · rw [if_neg c1]
    obtain ⟨n2, k2, e2, h2⟩ : ∃ n2 k2 e2, uintN (l.drop (k0 + k1)) = (n2, k2, e2) := ⟨_, _, _, rfl⟩
    rw [numsR_3 h2]
    by_cases c2 : e2 ≠ 0
    · rw [if_pos c2]
    · rw [if_neg c2]
      exact if_pos (.inl hn)
theorem entryL_2 {l : List Int} {s : ByteArray} {n0 k0 n1 k1 e1 : Nat} (h : uintN l = (n0, k0, 0)) (h1 : uintN (l.drop k0) = (n1, k1, e1)) (he : e1 ≠ 0) : entryL l s = none :=
  numsR_none (by rw [numsR_1 h, numsR_2 h1, if_pos he])
theorem entryL_3 {l : List Int} {s : ByteArray} {n0 k0 n1 k1 n2 k2 e2 : Nat} (h : uintN l = (n0, k0, 0)) (h1 : uintN (l.drop k0) = (n1, k1, 0)) (h2 : uintN (l.drop (k0 + k1)) = (n2, k2, e2)) (he : e2 ≠ 0) : entryL l s = none :=
  numsR_none (by rw [numsR_1 h, numsR_2 h1, if_neg (by simp), numsR_3 h2, if_pos he])
theorem entryL_4 {l : List Int} {s : ByteArray} {n0 k0 n1 k1 n2 k2 : Nat} (h : uintN l = (n0, k0, 0)) (h1 : uintN (l.drop k0) = (n1, k1, 0)) (h2 : uintN (l.drop (k0 + k1)) = (n2, k2, 0)) (a : Nat) (ha : k0 + k1 + k2 = a) :
    entryL l s = if n0 > s.size ∨ n1 > l.length - a then none else if n2 % 2 = 1 then some (⟨s.extract 0 n0 ++ strOfNums ((l.take (a + n1)).drop a), ((n2 / 2 : Nat) : Int), true, (⟨#[]⟩ : ByteArray)⟩, a + n1) else if (textL (l.drop (a + n1)) 512).2.2 ≠ 0 then none else some (⟨s.extract 0 n0 ++ strOfNums ((l.take (a + n1)).drop a), ((n2 / 2 : Nat) : Int), false, (textL (l.drop (a + n1)) 512).1⟩, a + n1 + (textL (l.drop (a + n1)) 512).2.1.toNat) := by
  subst ha
  unfold entryL
  rw [numsR_1 h, numsR_2 h1, if_neg (by simp), numsR_3 h2, if_neg (by simp)]
  rfl
theorem uint_ref {l : List Int} (hb : Bytes l) (hl : l.length ≤ 2147483647) : ∃ x k e : Nat, uintN l = (x, k, e) ∧ x < 18446744073709551616 ∧ k ≤ l.length ∧ k ≤ 10 ∧ screeref2_Uint.f l = some ((x : Int), (k : Int), (e : Int)) := by
  have hs' := uintN_spec l hb
  obtain ⟨x, k, e, hN, q1, q2, q3⟩ : ∃ x k e, uintN l = (x, k, e) ∧ x < 18446744073709551616 ∧ k ≤ l.length ∧ k ≤ 10 := ⟨_, _, _, rfl, hs'⟩
  refine ⟨x, k, e, hN, q1, q2, q3, ?_⟩
  unfold screeref2_Uint.f uintL i3
  rw [if_pos ⟨okB_iff.2 hb, by omega⟩, hN]
theorem bytes_drop {l : List Int} (hl : Bytes l) (t : Nat) : Bytes (l.drop t) := fun y hy => hl y (List.mem_of_mem_drop hy)
set_option maxHeartbeats 8000000 in
set_option maxRecDepth 100000 in
theorem entR_calls {w : World} {A : Option Addr} {m c : Nat} {l : List Int} {s : ByteArray} (h : Rd (Kd.int .u8) w A m c l) (hb : Bytes l) (hl : l.length ≤ 2147483647) (hs : s.size ≤ 2147483647) :
    Calls Tryd.prog 45 #[.slice A m c, .string s] w (EntRef w (entryL l s)) := by
  have hm := h.1
  subst hm
  have HR := Aside0.mk h
  have HB := Aside0.mk hb
  have HBW : Aside0 (Below w.heap.size w (w.alloc (.cells #[.string (⟨#[]⟩ : ByteArray), .int .u64 0, .bool false, .string (⟨#[]⟩ : ByteArray)] 30))) := ⟨below_alloc (Below.refl _ _) _⟩
  have HK4 : Aside0 ((w.alloc (.cells #[.string (⟨#[]⟩ : ByteArray), .int .u64 0, .bool false, .string (⟨#[]⟩ : ByteArray)] 30)).heap[w.heap.size]? = some (.cells #[.string (⟨#[]⟩ : ByteArray), .int .u64 0, .bool false, .string (⟨#[]⟩ : ByteArray)] 30 (0, 0))) := ⟨heap_alloc_new w _⟩
  obtain ⟨n0, k0, e0, hu0, x0, q0, p0, hf0⟩ := uint_ref hb hl
  have HU0 := Aside0.mk hu0
  have HF0 := Aside0.mk hf0
  have w1 : IntKind.u64.wrap (s.size : Int) = (s.size : Int) := u64_nat (by omega)
  clear h hb hu0 hf0
  go_enter Tryd.func45, Tryd.ntmps45
  go_wp2_with fail
  obtain ⟨hrl, hrc, hrC⟩ := HR.out
  clear hrl
  refine (screeref2_Uint.calls A c l (n0 : Int) (k0 : Int) (e0 : Int) _ (Kd.C_below hrC HBW.out) hrc HF0.out).mono ?_
  rintro e' W1 ⟨rfl, hD⟩
  have HB1 := Aside0.mk (below_step HBW.out hD.below)
  have HK1 := Aside0.mk ((hD.below.block _ (blk_lt HK4.out)).trans HK4.out)
  clear hD hrC
  have zf0 := blk_frozen HK1.out 0
  have zc0 : W1.cell? ⟨w.heap.size, 0, none⟩ = some (.string (⟨#[]⟩ : ByteArray)) := by rw [blk_cell HK1.out]; rfl
  have zf1 := blk_frozen HK1.out 1
  have zc1 : W1.cell? ⟨w.heap.size, 1, none⟩ = some (.int .u64 0) := by rw [blk_cell HK1.out]; rfl
  have zf2 := blk_frozen HK1.out 2
  have zc2 : W1.cell? ⟨w.heap.size, 2, none⟩ = some (.bool false) := by rw [blk_cell HK1.out]; rfl
  have zf3 := blk_frozen HK1.out 3
  have zc3 : W1.cell? ⟨w.heap.size, 3, none⟩ = some (.string (⟨#[]⟩ : ByteArray)) := by rw [blk_cell HK1.out]; rfl
  by_cases he0 : e0 ≠ 0
  · have d0 : ((e0 : Int) != 0) = true := by rw [bne_iff_ne]; omega
    have HE : Aside0 (entryL l s = none) := ⟨entryL_0 HU0.out he0⟩
    clear he0
    go_wp2_with fail
    refine bodyPost_ret (results_ct rfl _ _ w.heap.size 30 #[.string (⟨#[]⟩ : ByteArray), .int .u64 0, .bool false, .string (⟨#[]⟩ : ByteArray)] (0, 0) _ rfl (by refine blk_put (cs := #[.string (⟨#[]⟩ : ByteArray), .int .u64 0, .bool false, .string (⟨#[]⟩ : ByteArray)]) ?_ 3 _ rfl; refine blk_put (cs := #[.string (⟨#[]⟩ : ByteArray), .int .u64 0, .bool false, .string (⟨#[]⟩ : ByteArray)]) ?_ 2 _ rfl; refine blk_put (cs := #[.string (⟨#[]⟩ : ByteArray), .int .u64 0, .bool false, .string (⟨#[]⟩ : ByteArray)]) ?_ 1 _ rfl; refine blk_put (cs := #[.string (⟨#[]⟩ : ByteArray), .int .u64 0, .bool false, .string (⟨#[]⟩ : ByteArray)]) ?_ 0 _ rfl; exact HK1.out) Tryd.underlying30 rfl (by kernel_rfl)) rfl ?_
    rw [HE.out]
    exact ⟨rfl, by repeat (first | exact HB1.out | refine below_at ?_ (Nat.le_refl _) _ _)⟩
  obtain rfl : e0 = 0 := by omega
  clear he0
  have d0 : (((0 : Nat) : Int) != 0) = false := rfl
  by_cases t0 : n0 > s.size
  · have e0 : decide ((s.size : Int) < (n0 : Int)) = true := decide_eq_true (by omega)
    have e0' : decide (s.size < n0) = true := decide_eq_true t0
    have HE : Aside0 (entryL l s = none) := ⟨entryL_1 HU0.out t0⟩
    go_wp2_with fail
    refine bodyPost_ret (results_ct rfl _ _ w.heap.size 30 #[.string (⟨#[]⟩ : ByteArray), .int .u64 0, .bool false, .string (⟨#[]⟩ : ByteArray)] (0, 0) _ rfl (by refine blk_put (cs := #[.string (⟨#[]⟩ : ByteArray), .int .u64 0, .bool false, .string (⟨#[]⟩ : ByteArray)]) ?_ 3 _ rfl; refine blk_put (cs := #[.string (⟨#[]⟩ : ByteArray), .int .u64 0, .bool false, .string (⟨#[]⟩ : ByteArray)]) ?_ 2 _ rfl; refine blk_put (cs := #[.string (⟨#[]⟩ : ByteArray), .int .u64 0, .bool false, .string (⟨#[]⟩ : ByteArray)]) ?_ 1 _ rfl; refine blk_put (cs := #[.string (⟨#[]⟩ : ByteArray), .int .u64 0, .bool false, .string (⟨#[]⟩ : ByteArray)]) ?_ 0 _ rfl; exact HK1.out) Tryd.underlying30 rfl (by kernel_rfl)) rfl ?_
    rw [HE.out]
    exact ⟨rfl, by repeat (first | exact HB1.out | refine below_at ?_ (Nat.le_refl _) _ _)⟩
  have e0 : decide ((s.size : Int) < (n0 : Int)) = false := decide_eq_false (by omega)
  have e0' : decide (s.size < n0) = false := decide_eq_false t0
  obtain ⟨A1, hs1, hr1⟩ := Rd.from (P := Tryd.prog) (t := 22) (Kd.int .u8) Tryd.underlying22 infoU .i64 A l.length c k0 q0 HR.out.2.1
  have HR1 := Aside0.mk ((hr1 w l HR.out).step HB1.out)
  obtain ⟨d1, hd1⟩ : ∃ d1, l.length - k0 = d1 := ⟨_, rfl⟩
  rw [hd1] at hs1 HR1
  obtain ⟨n1, k1, e1, hu1, x1, q1, p1, hf1⟩ := uint_ref (bytes_drop HB.out k0) (by rw [List.length_drop]; omega)
  rw [List.length_drop, hd1] at q1
  have HU1 := Aside0.mk hu1
  have HF1 := Aside0.mk hf1
  have HD1 := Aside0.mk hd1
  clear hr1 hu1 hf1 hd1
  go_wp2_with fail
  obtain ⟨hrl1, hrc1, hrC1⟩ := HR1.out
  subst hrl1
  refine (screeref2_Uint.calls A1 (c - k0) (l.drop k0) (n1 : Int) (k1 : Int) (e1 : Int) _ hrC1 hrc1 HF1.out).mono ?_
  rintro e' W2 ⟨rfl, hD⟩
  have HB2 := Aside0.mk (below_step HB1.out hD.below)
  have HK2 := Aside0.mk ((hD.below.block _ (blk_lt HK1.out)).trans HK1.out)
  rw [List.length_drop] at q1
  clear hD hrC1 hrc1 hs1 zf0 zf1 zf2 zf3 zc0 zc1 zc2 zc3
  have zf0 := blk_frozen HK2.out 0
  have zc0 : W2.cell? ⟨w.heap.size, 0, none⟩ = some (.string (⟨#[]⟩ : ByteArray)) := by rw [blk_cell HK2.out]; rfl
  have zf1 := blk_frozen HK2.out 1
  have zc1 : W2.cell? ⟨w.heap.size, 1, none⟩ = some (.int .u64 0) := by rw [blk_cell HK2.out]; rfl
  have zf2 := blk_frozen HK2.out 2
  have zc2 : W2.cell? ⟨w.heap.size, 2, none⟩ = some (.bool false) := by rw [blk_cell HK2.out]; rfl
  have zf3 := blk_frozen HK2.out 3
  have zc3 : W2.cell? ⟨w.heap.size, 3, none⟩ = some (.string (⟨#[]⟩ : ByteArray)) := by rw [blk_cell HK2.out]; rfl
  by_cases he1 : e1 ≠ 0
  · have d1' : ((e1 : Int) != 0) = true := by rw [bne_iff_ne]; omega
    have HE : Aside0 (entryL l s = none) := ⟨entryL_2 HU0.out HU1.out he1⟩
    clear he1
    go_wp2_with fail
    refine bodyPost_ret (results_ct rfl _ _ w.heap.size 30 #[.string (⟨#[]⟩ : ByteArray), .int .u64 0, .bool false, .string (⟨#[]⟩ : ByteArray)] (0, 0) _ rfl (by refine blk_put (cs := #[.string (⟨#[]⟩ : ByteArray), .int .u64 0, .bool false, .string (⟨#[]⟩ : ByteArray)]) ?_ 3 _ rfl; refine blk_put (cs := #[.string (⟨#[]⟩ : ByteArray), .int .u64 0, .bool false, .string (⟨#[]⟩ : ByteArray)]) ?_ 2 _ rfl; refine blk_put (cs := #[.string (⟨#[]⟩ : ByteArray), .int .u64 0, .bool false, .string (⟨#[]⟩ : ByteArray)]) ?_ 1 _ rfl; refine blk_put (cs := #[.string (⟨#[]⟩ : ByteArray), .int .u64 0, .bool false, .string (⟨#[]⟩ : ByteArray)]) ?_ 0 _ rfl; exact HK2.out) Tryd.underlying30 rfl (by kernel_rfl)) rfl ?_
    rw [HE.out]
    exact ⟨rfl, by repeat (first | exact HB2.out | refine below_at ?_ (Nat.le_refl _) _ _)⟩
  obtain rfl : e1 = 0 := by omega
  clear he1
  have d1' : (((0 : Nat) : Int) != 0) = false := rfl
  have hk01 : k0 + k1 ≤ l.length := by omega
  obtain ⟨b, hbk⟩ : ∃ b : Nat, k0 + k1 = b := ⟨_, rfl⟩
  have ebk : (k0 : Int) + (k1 : Int) = (b : Int) := by omega
  obtain ⟨A2, hs2, hr2⟩ := Rd.from (P := Tryd.prog) (t := 22) (Kd.int .u8) Tryd.underlying22 infoU .i64 A l.length c b (by omega) HR.out.2.1
  have HR2 := Aside0.mk ((hr2 w l HR.out).step HB2.out)
  obtain ⟨d2, hd2⟩ : ∃ d2, l.length - b = d2 := ⟨_, rfl⟩
  rw [hd2] at hs2 HR2
  obtain ⟨n2, k2, e2, hu2, x2, q2, p2, hf2⟩ := uint_ref (bytes_drop HB.out b) (by rw [List.length_drop]; omega)
  rw [List.length_drop, hd2] at q2
  have HU2 := Aside0.mk hu2
  have HF2 := Aside0.mk hf2
  have HD2 := Aside0.mk hd2
  have HBK := Aside0.mk hbk
  clear hr2 hu2 hf2 hd2 hbk
  go_wp2_with fail
  obtain ⟨hrl2, hrc2, hrC2⟩ := HR2.out
  subst hrl2
  refine (screeref2_Uint.calls A2 (c - b) (l.drop b) (n2 : Int) (k2 : Int) (e2 : Int) _ hrC2 hrc2 HF2.out).mono ?_
  rintro e' W3 ⟨rfl, hD⟩
  have HB3 := Aside0.mk (below_step HB2.out hD.below)
  have HK3 := Aside0.mk ((hD.below.block _ (blk_lt HK2.out)).trans HK2.out)
  rw [List.length_drop] at q2
  have hbl : b ≤ l.length := by have := HBK.out; omega
  clear hD hrC2 hrc2 hs2 zf0 zf1 zf2 zf3 zc0 zc1 zc2 zc3
  have zf0 := blk_frozen HK3.out 0
  have zc0 : W3.cell? ⟨w.heap.size, 0, none⟩ = some (.string (⟨#[]⟩ : ByteArray)) := by rw [blk_cell HK3.out]; rfl
  have zf1 := blk_frozen HK3.out 1
  have zc1 : W3.cell? ⟨w.heap.size, 1, none⟩ = some (.int .u64 0) := by rw [blk_cell HK3.out]; rfl
  have zf2 := blk_frozen HK3.out 2
  have zc2 : W3.cell? ⟨w.heap.size, 2, none⟩ = some (.bool false) := by rw [blk_cell HK3.out]; rfl
  have zf3 := blk_frozen HK3.out 3
  have zc3 : W3.cell? ⟨w.heap.size, 3, none⟩ = some (.string (⟨#[]⟩ : ByteArray)) := by rw [blk_cell HK3.out]; rfl
  obtain ⟨a, haa⟩ : ∃ a : Nat, b + k2 = a := ⟨_, rfl⟩
  have eaa : (b : Int) + (k2 : Int) = (a : Int) := by omega
  have hal : a ≤ l.length := by omega
  obtain ⟨d, hd⟩ : ∃ d, l.length - a = d := ⟨_, rfl⟩
  have ed : (l.length : Int) - (a : Int) = (d : Int) := by omega
  have w2 : IntKind.u64.wrap (d : Int) = (d : Int) := u64_nat (by omega)
  by_cases he2 : e2 ≠ 0
  · have d2' : ((e2 : Int) != 0) = true := by rw [bne_iff_ne]; omega
    have HE : Aside0 (entryL l s = none) := ⟨entryL_3 HU0.out HU1.out (by rw [HBK.out]; exact HU2.out) he2⟩
    clear he2 haa hd
    go_wp2_with fail
    refine bodyPost_ret (results_ct rfl _ _ w.heap.size 30 #[.string (⟨#[]⟩ : ByteArray), .int .u64 0, .bool false, .string (⟨#[]⟩ : ByteArray)] (0, 0) _ rfl (by refine blk_put (cs := #[.string (⟨#[]⟩ : ByteArray), .int .u64 0, .bool false, .string (⟨#[]⟩ : ByteArray)]) ?_ 3 _ rfl; refine blk_put (cs := #[.string (⟨#[]⟩ : ByteArray), .int .u64 0, .bool false, .string (⟨#[]⟩ : ByteArray)]) ?_ 2 _ rfl; refine blk_put (cs := #[.string (⟨#[]⟩ : ByteArray), .int .u64 0, .bool false, .string (⟨#[]⟩ : ByteArray)]) ?_ 1 _ rfl; refine blk_put (cs := #[.string (⟨#[]⟩ : ByteArray), .int .u64 0, .bool false, .string (⟨#[]⟩ : ByteArray)]) ?_ 0 _ rfl; exact HK3.out) Tryd.underlying30 rfl (by kernel_rfl)) rfl ?_
    rw [HE.out]
    exact ⟨rfl, by repeat (first | exact HB3.out | refine below_at ?_ (Nat.le_refl _) _ _)⟩
  obtain rfl : e2 = 0 := by omega
  clear he2
  have d2' : (((0 : Nat) : Int) != 0) = false := rfl
  have HX := Aside0.mk (entryL_4 (s := s) HU0.out HU1.out (by rw [HBK.out]; exact HU2.out) a (by rw [HBK.out]; exact haa))
  rw [hd] at HX
  clear haa
  by_cases t1 : n1 > d
  · have e1 : decide ((d : Int) < (n1 : Int)) = true := decide_eq_true (by omega)
    have e1' : decide (d < n1) = true := decide_eq_true t1
    have HE : Aside0 (entryL l s = none) := ⟨by rw [HX.out, if_pos (.inr t1)]⟩
    clear hd
    go_wp2_with fail
    refine bodyPost_ret (results_ct rfl _ _ w.heap.size 30 #[.string (⟨#[]⟩ : ByteArray), .int .u64 0, .bool false, .string (⟨#[]⟩ : ByteArray)] (0, 0) _ rfl (by refine blk_put (cs := #[.string (⟨#[]⟩ : ByteArray), .int .u64 0, .bool false, .string (⟨#[]⟩ : ByteArray)]) ?_ 3 _ rfl; refine blk_put (cs := #[.string (⟨#[]⟩ : ByteArray), .int .u64 0, .bool false, .string (⟨#[]⟩ : ByteArray)]) ?_ 2 _ rfl; refine blk_put (cs := #[.string (⟨#[]⟩ : ByteArray), .int .u64 0, .bool false, .string (⟨#[]⟩ : ByteArray)]) ?_ 1 _ rfl; refine blk_put (cs := #[.string (⟨#[]⟩ : ByteArray), .int .u64 0, .bool false, .string (⟨#[]⟩ : ByteArray)]) ?_ 0 _ rfl; exact HK3.out) Tryd.underlying30 rfl (by kernel_rfl)) rfl ?_
    rw [HE.out]
    exact ⟨rfl, by repeat (first | exact HB3.out | refine below_at ?_ (Nat.le_refl _) _ _)⟩
  have e1 : decide ((d : Int) < (n1 : Int)) = false := decide_eq_false (by omega)
  have e1' : decide (d < n1) = false := decide_eq_false t1
  obtain ⟨E, hE⟩ : ∃ E : Nat, a + n1 = E := ⟨_, rfl⟩
  have eE : (a : Int) + (n1 : Int) = (E : Int) := by omega
  have HX2 := HX.out
  rw [if_neg (by omega), hE] at HX2
  have HY := Aside0.mk HX2
  clear HX2 HX
  have hEl : E ≤ l.length := by omega
  have haE : a ≤ E := by omega
  have hn1s : n1 ≤ 2147483647 := by omega
  have hn0s : n0 ≤ s.size := by omega
  have i1 : IntKind.i64.wrap (n0 : Int) = (n0 : Int) := IntWalk.i64_in _ (by omega)
  have i2 : IntKind.i64.wrap (n1 : Int) = (n1 : Int) := IntWalk.i64_in _ (by omega)
  clear hE hd t0 t1
  go_wp2_with fail
  obtain ⟨As, hs1, hr1⟩ := Rd.mid (P := Tryd.prog) (t := 22) (Kd.int .u8) Tryd.underlying22 infoU .i64 .i64 A l.length c a E haE hEl HR.out.2.1
  have R1 := Aside0.mk ((hr1 w l HR.out).step HB3.out)
  obtain ⟨mid, hmid⟩ : ∃ mid, (l.take E).drop a = mid := ⟨_, rfl⟩
  obtain ⟨nm, hnm⟩ : ∃ nm, E - a = nm := ⟨_, rfl⟩
  rw [hmid, hnm] at R1
  rw [hnm] at hs1
  rw [hmid] at HY
  have g0 : (0 : Int) ≤ (n0 : Int) := by omega
  have g0' : (n0 : Int) ≤ (s.size : Int) := by omega
  have ga : (0 : Int) ≤ (a : Int) := by omega
  have i4 : IntKind.i64.wrap (E : Int) = (E : Int) := IntWalk.i64_in _ (by omega)
  have i3 : IntKind.i64.wrap ((a : Int) + (n1 : Int)) = (E : Int) := by rw [eE]; exact i4
  have ga' : (a : Int) ≤ (E : Int) := by omega
  have gE : (E : Int) ≤ (l.length : Int) := by omega
  have hsz : (s.extract 0 n0).size + (strOfNums mid).size ≤ 9223372036854775807 := by
    have h1 : (s.extract 0 n0).size ≤ s.size := by rw [ByteArray.size_extract]; omega
    have h2 : (strOfNums mid).size = mid.length := by simp [strOfNums, ByteArray.size]
    have h3 := R1.out.1
    omega
  have hsz1 : decide ((s.extract 0 n0).size + (strOfNums mid).size ≤ 9223372036854775807) = true := decide_eq_true hsz
  have hsz2 : (9223372036854775807 < (s.extract 0 n0).size + (strOfNums mid).size) = False := eq_false (Nat.not_lt.2 hsz)
  have HSS : Aside0 (∀ W' : World, Below W3.heap.size W3 W' → (Go.convert 22 9 (.slice As nm (c - a))).run Tryd.prog W' = .ok (.string (strOfNums mid)) W') := ⟨fun W' hW => Kd.C_string (P := Tryd.prog) (A := As) (c := c - a) Tryd.underlying22 Tryd.underlying5 Tryd.underlying9 (Kd.C_below R1.out.2.2 hW)⟩
  have hsz3 : (9223372036854775807 < n0 + (strOfNums mid).size) = False := eq_false (by
    have h1 : (s.extract 0 n0).size = n0 := by rw [ByteArray.size_extract]; omega
    omega)
  have HQN : Aside0 (IntKind.u64.wrap ((n2 : Int) / 2) = ((n2 / 2 : Nat) : Int) ∧ ((n2 : Int).tmod 2 == 1) = (n2 % 2 == 1)) := ⟨by
    refine ⟨?_, ?_⟩
    · rw [show (n2 : Int) / 2 = ((n2 / 2 : Nat) : Int) by omega]; exact u64_nat (by omega)
    · rw [Int.tmod_eq_emod_of_nonneg (by omega), show ((n2 : Int) % 2) = ((n2 % 2 : Nat) : Int) by omega]
      rw [Bool.eq_iff_iff, beq_iff_eq, beq_iff_eq]
      omega⟩
  clear hr1 hmid hnm hsz
  go_cut [16] (fun s16 wx => ∃ g : Nat, s16 = .pointer (some ⟨g, 0, none⟩) ∧ w.heap.size < g ∧ Aside0 (wx.heap[g]? = some (.cells #[.string (s.extract 0 n0 ++ strOfNums mid), .int .u64 ((n2 / 2 : Nat) : Int), .bool (n2 % 2 == 1), .string (⟨#[]⟩ : ByteArray)] 30 (0, 0))) ∧ Aside0 (Below w.heap.size w wx) ∧ Aside0 (wx.heap[w.heap.size]? = some (.cells #[.string (⟨#[]⟩ : ByteArray), .int .u64 0, .bool false, .string (⟨#[]⟩ : ByteArray)] 30 (0, 0))))
  case first =>
    go_region_held3 (fun W' => (Go.convert 22 9 (.slice As nm (c - a))).run Tryd.prog W' = .ok (.string (strOfNums mid)) W') (exact HSS.out _ (by repeat (with_reducible first | exact Below.refl _ _ | apply below_alloc | apply pw_below_drewN | apply below_drew1 | refine below_at ?_ (Nat.le_refl _) _ _))) ((fail))
    go_wp2
    go_meet
    case rel => exact ⟨W3.heap.size, rfl, blk_lt HK3.out, ⟨by rw [← HQN.out.1, ← HQN.out.2]; exact heap_alloc_new W3 _⟩, ⟨below_drew (below_alloc HB3.out _)⟩, ⟨blk_alloc HK3.out _⟩⟩
  case rest =>
    obtain ⟨g, rfl, hg, HKG, HBX, HKX⟩ := hcut
    clear HSS hs1 hsz1 hsz2 hsz3 R1 zf0 zf1 zf2 zf3 zc0 zc1 zc2 zc3 HB1 HB2 HB3 HK1 HK2 HK3
    have zf0 := blk_frozen HKX.out 0
    have zc0 : wc.cell? ⟨w.heap.size, 0, none⟩ = some (.string (⟨#[]⟩ : ByteArray)) := by rw [blk_cell HKX.out]; rfl
    have zf1 := blk_frozen HKX.out 1
    have zc1 : wc.cell? ⟨w.heap.size, 1, none⟩ = some (.int .u64 0) := by rw [blk_cell HKX.out]; rfl
    have zf2 := blk_frozen HKX.out 2
    have zc2 : wc.cell? ⟨w.heap.size, 2, none⟩ = some (.bool false) := by rw [blk_cell HKX.out]; rfl
    have zf3 := blk_frozen HKX.out 3
    have zc3 : wc.cell? ⟨w.heap.size, 3, none⟩ = some (.string (⟨#[]⟩ : ByteArray)) := by rw [blk_cell HKX.out]; rfl
    have y0 : wc.cell? ⟨g, 0, none⟩ = some (.string (s.extract 0 n0 ++ strOfNums mid)) := by rw [blk_cell HKG.out]; rfl
    have y1 : wc.cell? ⟨g, 1, none⟩ = some (.int .u64 ((n2 / 2 : Nat) : Int)) := by rw [blk_cell HKG.out]; rfl
    have y3 : wc.cell? ⟨g, 3, none⟩ = some (.string (⟨#[]⟩ : ByteArray)) := by rw [blk_cell HKG.out]; rfl
    by_cases hp : n2 % 2 = 1
    · have y2 : wc.cell? ⟨g, 2, none⟩ = some (.bool true) := by rw [blk_cell HKG.out]; simp [hp]
      have HE : Aside0 (entryL l s = some (⟨s.extract 0 n0 ++ strOfNums mid, ((n2 / 2 : Nat) : Int), true, (⟨#[]⟩ : ByteArray)⟩, E)) := ⟨by rw [HY.out, if_pos hp]⟩
      clear hp
      go_wp2_with fail
      refine bodyPost_ret (results_ct rfl _ _ w.heap.size 30 #[.string (s.extract 0 n0 ++ strOfNums mid), .int .u64 ((n2 / 2 : Nat) : Int), .bool true, .string (⟨#[]⟩ : ByteArray)] (0, 0) _ rfl (by refine blk_put (cs := #[.string (s.extract 0 n0 ++ strOfNums mid), .int .u64 ((n2 / 2 : Nat) : Int), .bool true, .string (⟨#[]⟩ : ByteArray)]) ?_ 3 _ rfl; refine blk_put (cs := #[.string (s.extract 0 n0 ++ strOfNums mid), .int .u64 ((n2 / 2 : Nat) : Int), .bool false, .string (⟨#[]⟩ : ByteArray)]) ?_ 2 _ rfl; refine blk_put (cs := #[.string (s.extract 0 n0 ++ strOfNums mid), .int .u64 0, .bool false, .string (⟨#[]⟩ : ByteArray)]) ?_ 1 _ rfl; refine blk_put (cs := #[.string (⟨#[]⟩ : ByteArray), .int .u64 0, .bool false, .string (⟨#[]⟩ : ByteArray)]) ?_ 0 _ rfl; exact HKX.out) Tryd.underlying30 rfl (by kernel_rfl)) rfl ?_
      rw [HE.out]
      exact ⟨rfl, by repeat (first | exact HBX.out | refine below_at ?_ (Nat.le_refl _) _ _)⟩
    · have y2 : wc.cell? ⟨g, 2, none⟩ = some (.bool false) := by rw [blk_cell HKG.out]; simp [hp]
      have hz : (n2 % 2 == 1) = false := by rw [beq_eq_false_iff_ne]; exact hp
      have HKG2 : Aside0 (wc.heap[g]? = some (.cells #[.string (s.extract 0 n0 ++ strOfNums mid), .int .u64 ((n2 / 2 : Nat) : Int), .bool false, .string (⟨#[]⟩ : ByteArray)] 30 (0, 0))) := ⟨by have := HKG.out; rwa [hz] at this⟩
      have HY2 := HY.out
      rw [if_neg hp] at HY2
      obtain ⟨sv, kv, ev', hT, hkv⟩ := textL_form (l.drop E) 512
      rw [hT] at HY2
      simp only [Int.toNat_natCast] at HY2
      have HY3 := Aside0.mk HY2
      have HTX : Aside0 (screeref2_Text.f (l.drop E) 512 = some (sv, (kv : Int), (ev' : Int))) := ⟨by unfold screeref2_Text.f; rw [if_pos ⟨okB_iff.2 (bytes_drop HB.out E), by rw [List.length_drop]; omega, by decide, by decide⟩, hT]⟩
      obtain ⟨A', hfrom, hfr⟩ := Rd.from (P := Tryd.prog) (t := 22) (Kd.int .u8) Tryd.underlying22 infoU .i64 A l.length c E hEl HR.out.2.1
      have HRF := Aside0.mk ((hfr w l HR.out).step HBX.out)
      obtain ⟨dE, hdE⟩ : ∃ dE, l.length - E = dE := ⟨_, rfl⟩
      rw [hdE] at hfrom HRF
      rw [List.length_drop] at hkv
      have hkl : kv ≤ 2147483647 := by omega
      have hgn : g ≠ w.heap.size := by omega
      have hgn' : w.heap.size ≠ g := by omega
      clear hp hz HY HY2 hT hfr hdE HKG
      go_wp2_with fail
      obtain ⟨hrl3, hrc3, hrC3⟩ := HRF.out
      subst hrl3
      refine (screeref2_Text.calls A' (c - E) (l.drop E) 512 sv (kv : Int) (ev' : Int) _ hrC3 hrc3 HTX.out).mono ?_
      rintro e' W4 ⟨rfl, hD⟩
      have HB4 := Aside0.mk (below_step HBX.out hD.below)
      have HK4b := Aside0.mk ((hD.below.block _ (blk_lt HKX.out)).trans HKX.out)
      have HKGb := Aside0.mk ((hD.below.block _ (blk_lt HKG2.out)).trans HKG2.out)
      clear hD hrC3 hrc3 hfrom zf0 zf1 zf2 zf3 zc0 zc1 zc2 zc3 y0 y1 y2 y3
      have zf0 := blk_frozen HK4b.out 0
      have zc0 : W4.cell? ⟨w.heap.size, 0, none⟩ = some (.string (⟨#[]⟩ : ByteArray)) := by rw [blk_cell HK4b.out]; rfl
      have zf1 := blk_frozen HK4b.out 1
      have zc1 : W4.cell? ⟨w.heap.size, 1, none⟩ = some (.int .u64 0) := by rw [blk_cell HK4b.out]; rfl
      have zf2 := blk_frozen HK4b.out 2
      have zc2 : W4.cell? ⟨w.heap.size, 2, none⟩ = some (.bool false) := by rw [blk_cell HK4b.out]; rfl
      have zf3 := blk_frozen HK4b.out 3
      have zc3 : W4.cell? ⟨w.heap.size, 3, none⟩ = some (.string (⟨#[]⟩ : ByteArray)) := by rw [blk_cell HK4b.out]; rfl
      have yf0 := blk_frozen HKGb.out 0
      have yc0 : W4.cell? ⟨g, 0, none⟩ = some (.string (s.extract 0 n0 ++ strOfNums mid)) := by rw [blk_cell HKGb.out]; rfl
      have yf1 := blk_frozen HKGb.out 1
      have yc1 : W4.cell? ⟨g, 1, none⟩ = some (.int .u64 ((n2 / 2 : Nat) : Int)) := by rw [blk_cell HKGb.out]; rfl
      have yf2 := blk_frozen HKGb.out 2
      have yc2 : W4.cell? ⟨g, 2, none⟩ = some (.bool false) := by rw [blk_cell HKGb.out]; rfl
      have yf3 := blk_frozen HKGb.out 3
      have yc3 : W4.cell? ⟨g, 3, none⟩ = some (.string (⟨#[]⟩ : ByteArray)) := by rw [blk_cell HKGb.out]; rfl
      by_cases he : ev' = 0
      · have d1 : ((ev' : Int) != 0) = false := by rw [bne_eq_false_iff_eq]; omega
        have HE : Aside0 (entryL l s = some (⟨s.extract 0 n0 ++ strOfNums mid, ((n2 / 2 : Nat) : Int), false, sv⟩, E + kv)) := ⟨by rw [HY3.out, if_neg (by omega)]⟩
        clear he
        go_wp2_with fail
        refine bodyPost_ret (results_ct rfl _ _ w.heap.size 30 #[.string (s.extract 0 n0 ++ strOfNums mid), .int .u64 ((n2 / 2 : Nat) : Int), .bool false, .string sv] (0, 0) _ rfl (by refine blk_put (cs := #[.string (s.extract 0 n0 ++ strOfNums mid), .int .u64 ((n2 / 2 : Nat) : Int), .bool false, .string (⟨#[]⟩ : ByteArray)]) ?_ 3 _ rfl; refine blk_put (cs := #[.string (s.extract 0 n0 ++ strOfNums mid), .int .u64 ((n2 / 2 : Nat) : Int), .bool false, .string (⟨#[]⟩ : ByteArray)]) ?_ 2 _ rfl; refine blk_put (cs := #[.string (s.extract 0 n0 ++ strOfNums mid), .int .u64 0, .bool false, .string (⟨#[]⟩ : ByteArray)]) ?_ 1 _ rfl; refine blk_put (cs := #[.string (⟨#[]⟩ : ByteArray), .int .u64 0, .bool false, .string (⟨#[]⟩ : ByteArray)]) ?_ 0 _ rfl; exact blk_far HK4b.out hgn' _) Tryd.underlying30 rfl (by kernel_rfl)) rfl ?_
        rw [HE.out]
        exact ⟨by first | rfl | simp [ev], by repeat (first | exact HB4.out | refine below_at ?_ (Nat.le_refl _) _ _ | refine below_at ?_ (Nat.le_of_lt hg) _ _)⟩
      · have d1 : ((ev' : Int) != 0) = true := by rw [bne_iff_ne]; omega
        have HE : Aside0 (entryL l s = none) := ⟨by rw [HY3.out, if_pos (by omega)]⟩
        clear he
        go_wp2_with fail
        refine bodyPost_ret (results_ct rfl _ _ w.heap.size 30 #[.string (⟨#[]⟩ : ByteArray), .int .u64 0, .bool false, .string (⟨#[]⟩ : ByteArray)] (0, 0) _ rfl (by refine blk_put (cs := #[.string (⟨#[]⟩ : ByteArray), .int .u64 0, .bool false, .string (⟨#[]⟩ : ByteArray)]) ?_ 3 _ rfl; refine blk_put (cs := #[.string (⟨#[]⟩ : ByteArray), .int .u64 0, .bool false, .string (⟨#[]⟩ : ByteArray)]) ?_ 2 _ rfl; refine blk_put (cs := #[.string (⟨#[]⟩ : ByteArray), .int .u64 0, .bool false, .string (⟨#[]⟩ : ByteArray)]) ?_ 1 _ rfl; refine blk_put (cs := #[.string (⟨#[]⟩ : ByteArray), .int .u64 0, .bool false, .string (⟨#[]⟩ : ByteArray)]) ?_ 0 _ rfl; exact HK4b.out) Tryd.underlying30 rfl (by kernel_rfl)) rfl ?_
        rw [HE.out]
        exact ⟨rfl, by repeat (first | exact HB4.out | refine below_at ?_ (Nat.le_refl _) _ _)⟩
/-- The document's entry as this claim's own function. -/
def entG (l : List Int) (s : ByteArray) : ByteArray × Int × Bool × ByteArray × Int := match entryL l s with
  | none => ((⟨#[]⟩ : ByteArray), 0, false, (⟨#[]⟩ : ByteArray), 0)
  | some (x, k) => (x.f0, x.f1, x.f2, x.f3, (k : Int))
end Go.Proofs.YtaonjmkfbfhanaaDoor.Bk
namespace Go.Proofs.YtaonjmkfbfhanaaDoor.QBo
open Go.RowKit Go.Proofs.YtaonjmkfbfhanaaDoorW.PrintWords Go.Proofs.YtaonjmkfbfhanaaDoor.Own Go.Proofs.YtaonjmkfbfhanaaDoor.G Go.Proofs.YtaonjmkfbfhanaaDoor.Wk Go.Proofs.YtaonjmkfbfhanaaDoor.Bk
set_option linter.unusedVariables false
def screeref9_entry.f (k : Nat) (l0 : List Int) (a1 : ByteArray) : Option (ByteArray × Int × Bool × ByteArray × Int) := if okB l0 = true ∧ l0.length ≤ 2147483647 ∧ a1.size ≤ 2147483647 then some (entG l0 a1) else none
theorem screeref9_entry.mono : ∀ a0 a1 k, LeO (screeref9_entry.f k a0 a1) (screeref9_entry.f (k + 1) a0 a1) := fun _ _ _ _ h => h
theorem screeref9_entry.calls (k : Nat) (A0 : Option Addr) (c0 : Nat) (l0 : List Int) (a1 : ByteArray) (r1 : ByteArray) (r2 : Int) (r3 : Bool) (r4 : ByteArray) (r5 : Int) (w : World) (hr0 : Kd.C (Kd.int .u8) w A0 l0.length l0) (hc0 : l0.length ≤ c0) (h : screeref9_entry.f k l0 a1 = some (r1, r2, r3, r4, r5)) :
    Calls Tryd.prog 45 #[.slice A0 l0.length c0, .string a1] w fun e w' => e = .returned (.tuple #[.agg #[.string r1, .int .u64 r2, .bool r3, .string r4], .int .i64 r5]) ∧ Below w.heap.size w w' := by
  unfold screeref9_entry.f at h
  split at h
  · rename_i hh
    refine (entR_calls ⟨rfl, hc0, hr0⟩ (okB_iff.1 hh.1) hh.2.1 hh.2.2).mono ?_
    rintro e w' ⟨he, hb⟩
    refine ⟨?_, hb⟩
    have h2 := Option.some.inj h
    unfold entG at h2
    split at h2
    · rename_i hn
      rw [hn] at he
      simp only [Prod.mk.injEq] at h2
      obtain ⟨rfl, rfl, rfl, rfl, rfl⟩ := h2
      exact he
    · rename_i x k hn
      rw [hn] at he
      simp only [Prod.mk.injEq] at h2
      obtain ⟨rfl, rfl, rfl, rfl, rfl⟩ := h2
      exact he
  · cases h
end Go.Proofs.YtaonjmkfbfhanaaDoor.QBo
namespace Go.Proofs.YtaonjmkfbfhanaaDoor.QBo
open Go.Proofs.YtaonjmkfbfhanaaDoor.Own
open Go.RowKit Go.Proofs.YtaonjmkfbfhanaaDoorW.PrintWords Go.Proofs.YtaonjmkfbfhanaaDoorW.PrintLast Go.Proofs.YtaonjmkfbfhanaaDoorW.PrintMore
attribute [local go_sem] max2_int min2_int max_two min_two max_three min_three max_four min_four   -- for this text's walks alone
set_option linter.unusedVariables false
set_option linter.unusedSimpArgs false
def screeref9_same.l0 : Nat → List Int → List Int → Int → Option (Bool)
  | 0, _, _, _ => none
  | k + 1, x0, x1, x5 => if x5 < (x0.length : Int) then (if 0 ≤ x5 then (if x5 < (x1.length : Int) then (if (rd x0 x5) = (rd x1 x5) then (screeref9_same.l0 k x0 x1 (wrap64 (x5 + 1))) else (some false)) else (none)) else (none)) else (some true)
def screeref9_same.f (k : Nat) (l0 : List Int) (l1 : List Int) : Option (Bool) := if (l0.length : Int) = (l1.length : Int) then (screeref9_same.l0 k l0 l1 0) else (some false)
theorem screeref9_same.mono_l : ∀ k, (∀ y0 y1 y2, LeO (screeref9_same.l0 k y0 y1 y2) (screeref9_same.l0 (k + 1) y0 y1 y2))
  | 0 => fun _ _ _ r h => by simp [screeref9_same.l0] at h
  | k + 1 => by
    have ih0 := screeref9_same.mono_l k
    · intro y0 y1 y2
      unfold screeref9_same.l0
      repeat' first
      | (with_reducible exact ih0 _ _ _)
      | (with_reducible exact LeO.refl _)
      | (with_reducible exact LeO.none _)
      | (with_reducible refine LeO.ite ?_ ?_)
      | (with_reducible refine LeO.bind ?_ (fun _ => ?_))
      | exact ih0 _ _ _
      | exact LeO.none _
      | refine LeO.ite ?_ ?_
      | refine LeO.bind ?_ (fun _ => ?_)
theorem screeref9_same.mono : ∀ a0 a1 k, LeO (screeref9_same.f k a0 a1) (screeref9_same.f (k + 1) a0 a1) := by
  intro a0 a1 k
  have ih0 := screeref9_same.mono_l k
  unfold screeref9_same.f
  repeat' first
      | (with_reducible exact ih0 _ _ _)
      | (with_reducible exact LeO.refl _)
      | (with_reducible exact LeO.none _)
      | (with_reducible refine LeO.ite ?_ ?_)
      | (with_reducible refine LeO.bind ?_ (fun _ => ?_))
      | exact ih0 _ _ _
      | exact LeO.none _
      | refine LeO.ite ?_ ?_
      | refine LeO.bind ?_ (fun _ => ?_)
set_option maxHeartbeats 8000000 in
set_option maxRecDepth 100000 in
theorem screeref9_same.calls (k : Nat) (A0 : Option Addr) (c0 : Nat) (l0 : List Int) (A1 : Option Addr) (c1 : Nat) (l1 : List Int) (r : Bool) (w : World) (hr0 : Kd.C (Kd.int .u8) w A0 l0.length l0) (hc0 : l0.length ≤ c0) (hr1 : Kd.C (Kd.int .u8) w A1 l1.length l1) (hc1 : l1.length ≤ c1) (h : screeref9_same.f k l0 l1 = some r) :
    Calls Tryd.prog 46 #[.slice A0 l0.length c0, .slice A1 l1.length c1] w fun e w' => e = .returned (.bool r) ∧ Drawn0 w w' := by
  have HR0 := Aside0.mk hr0
  have HC0 := Aside0.mk hc0
  clear hr0 hc0
  have HR1 := Aside0.mk hr1
  have HC1 := Aside0.mk hc1
  clear hr1 hc1
  have H : (if (l0.length : Int) = (l1.length : Int) then (screeref9_same.l0 k l0 l1 0) else (some false)) = some r := h
  clear h
  by_cases c3 : (l0.length : Int) = (l1.length : Int)
  · rw [if_pos c3] at H
    have c3b0 : ((l0.length : Int) == (l1.length : Int)) = true := beq_iff_eq.mpr c3
    have c3b1 : ((l0.length : Int) != (l1.length : Int)) = false := bne_eq_false_iff_eq.mpr c3
    have c3b2 : (l0.length == l1.length) = true := by first | simpa using c3 | (simp at c3 ⊢; omega)
    clear c3
    have H' := Aside0.mk H
    clear H
    go_enter Tryd.func46, Tryd.ntmps46
    go_wp2
    repeat (go_quiet (fail); try go_wp2)
    go_loopg [5] k (fun kq v5 w' => ∃ (x5_1 : Int), v5 = .int .i64 x5_1 ∧ Aside0 (screeref9_same.l0 kq l0 l1 x5_1 = some r) ∧ Aside0 (kq ≤ k) ∧ Drawn0 w w')
    case atStart => exact ⟨(0), (by first | rfl | (simp; done) | (simp [*]; done)), H', ⟨Nat.le_refl _⟩, by repeat (first | exact Drawn0.refl _ | apply Drawn0.step)⟩
    case round =>
      clear H'
      try clear c1
      try clear p2
      try clear c3
      try clear c3b0
      try clear c3b1
      try clear c3b2
      obtain ⟨x5_1, rfl, HA, HK1, ⟨m1, rfl⟩⟩ := hrel
      cases gk with
      | zero => exact absurd HA.out (by simp [screeref9_same.l0])
      | succ k1 =>
        have H := HA.out
        clear HA
        simp only [screeref9_same.l0] at H
        by_cases c4 : x5_1 < (l0.length : Int)
        · rw [if_pos c4] at H
          have c4b0 : decide (x5_1 < (l0.length : Int)) = true := decide_eq_true c4
          clear c4
          by_cases c5 : 0 ≤ x5_1
          · rw [if_pos c5] at H
            have c5b0 : decide (0 ≤ x5_1) = true := decide_eq_true c5
            clear c5
            by_cases c6 : x5_1 < (l1.length : Int)
            · rw [if_pos c6] at H
              have c6b0 : decide (x5_1 < (l1.length : Int)) = true := decide_eq_true c6
              clear c6
              by_cases c7 : (rd l0 x5_1) = (rd l1 x5_1)
              · rw [if_pos c7] at H
                have c7b0 : ((rd l0 x5_1) == (rd l1 x5_1)) = true := beq_iff_eq.mpr c7
                have c7b1 : ((rd l0 x5_1) != (rd l1 x5_1)) = false := bne_eq_false_iff_eq.mpr c7
                clear c7
                have H' := Aside0.mk H
                clear H
                have p273 : 0 ≤ (x5_1 : Int) := of_decide_eq_true (by first | (with_reducible assumption) | assumption)
                have q273 : x5_1 < (l0.length : Int) := of_decide_eq_true (by first | (with_reducible assumption) | assumption)
                obtain ⟨ad273, e273, hx273_0⟩ := Kd.at_int HR0.out x5_1 p273 q273
                cases e273
                replace p273 := eq_true p273
                replace q273 := eq_true q273
                have p274 : 0 ≤ (x5_1 : Int) := of_decide_eq_true (by first | (with_reducible assumption) | assumption)
                have q274 : x5_1 < (l1.length : Int) := of_decide_eq_true (by first | (with_reducible assumption) | assumption)
                obtain ⟨ad274, e274, hx274_0⟩ := Kd.at_int HR1.out x5_1 p274 q274
                cases e274
                replace p274 := eq_true p274
                replace q274 := eq_true q274
                go_wp2
                repeat (go_quiet (fail); try go_wp2)
                go_roundg k1
                case measure => have := HK1.out; omega
                case rel => exact ⟨(wrap64 (x5_1 + 1)), (by first | rfl | (simp; done) | (simp [*]; done)), H', ⟨by have := HK1.out; omega⟩, by repeat (first | exact Drawn0.refl _ | apply Drawn0.step)⟩
              · rw [if_neg c7] at H
                have c7b0 : ((rd l0 x5_1) == (rd l1 x5_1)) = false := beq_eq_false_iff_ne.mpr c7
                have c7b1 : ((rd l0 x5_1) != (rd l1 x5_1)) = true := bne_iff_ne.mpr c7
                obtain rfl := Option.some.inj H
                have p273 : 0 ≤ (x5_1 : Int) := of_decide_eq_true (by first | (with_reducible assumption) | assumption)
                have q273 : x5_1 < (l0.length : Int) := of_decide_eq_true (by first | (with_reducible assumption) | assumption)
                obtain ⟨ad273, e273, hx273_0⟩ := Kd.at_int HR0.out x5_1 p273 q273
                cases e273
                replace p273 := eq_true p273
                replace q273 := eq_true q273
                have p274 : 0 ≤ (x5_1 : Int) := of_decide_eq_true (by first | (with_reducible assumption) | assumption)
                have q274 : x5_1 < (l1.length : Int) := of_decide_eq_true (by first | (with_reducible assumption) | assumption)
                obtain ⟨ad274, e274, hx274_0⟩ := Kd.at_int HR1.out x5_1 p274 q274
                cases e274
                replace p274 := eq_true p274
                replace q274 := eq_true q274
                go_wp2
                repeat (go_quiet (fail); try go_wp2)
                go_ret
                exact ⟨by first | rfl | (simp; done) | (simp [*]; done), by repeat (first | exact Drawn0.refl _ | apply Drawn0.step)⟩
            · rw [if_neg c6] at H
              exact absurd H (by simp)
          · rw [if_neg c5] at H
            exact absurd H (by simp)
        · rw [if_neg c4] at H
          have c4b0 : decide (x5_1 < (l0.length : Int)) = false := decide_eq_false c4
          clear c4
          obtain rfl := Option.some.inj H
          go_wp2
          repeat (go_quiet (fail); try go_wp2)
          go_ret
          exact ⟨by first | rfl | (simp; done) | (simp [*]; done), by repeat (first | exact Drawn0.refl _ | apply Drawn0.step)⟩
  · rw [if_neg c3] at H
    have c3b0 : ((l0.length : Int) == (l1.length : Int)) = false := beq_eq_false_iff_ne.mpr c3
    have c3b1 : ((l0.length : Int) != (l1.length : Int)) = true := bne_iff_ne.mpr c3
    have c3b2 : (l0.length == l1.length) = false := by first | simpa using c3 | (simp at c3 ⊢; omega)
    obtain rfl := Option.some.inj H
    go_enter Tryd.func46, Tryd.ntmps46
    go_wp2
    repeat (go_quiet (fail); try go_wp2)
    go_ret
    exact ⟨by first | rfl | (simp; done) | (simp [*]; done), by repeat (first | exact Drawn0.refl _ | apply Drawn0.step)⟩
end Go.Proofs.YtaonjmkfbfhanaaDoor.QBo
