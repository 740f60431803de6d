/- Lemmas of this claim's own, put together: QBox14, QBox1, QBox20, DBkP, DBkE, DBkW, DBkK, DBkR, LawU, DMkP, DMkA, DMkL, DMkY, DMkN. -/
import Derived.Test.YtaonjmkfbfhanaaGreatDoorZBm2
import Derived.Test.YtaonjmkfbfhanaaGreatDoorZBm4
import Derived.BigQuiet
import Derived.Deep.QuietTactic
import Derived.Deep.DeepCutAuto
import Derived.Deep.RegionWith
import Derived.Laws.BitsAllLaws
import Derived.Deep.RegionLaw
namespace Go.Proofs.YtaonjmkfbfhanaaGreatDoor.QBo
open Go.Proofs.YtaonjmkfbfhanaaGreatDoor.Own
open Go.RowKit Go.Proofs.YtaonjmkfbfhanaaGreatDoorW.PrintWords Go.Proofs.YtaonjmkfbfhanaaGreatDoorW.PrintLast Go.Proofs.YtaonjmkfbfhanaaGreatDoorW.PrintMore
attribute [local go_sem] max2_int min2_int max_two min_two max_three min_three max_four min_four   -- for this text's walks alone
set_option linter.unusedVariables false
set_option linter.unusedSimpArgs false
mutual
def screeref2_Sum_p.l0 : Nat → List Int → Int → Int → Option (Int)
  | 0, _, _, _ => none
  | k + 1, x0, x3, x4 => if x4 < (x0.length : Int) then (if 0 ≤ x4 then (screeref2_Sum_p.l1 k x0 (Go.bits .xor .u32 x3 ((rd x0 x4) % 4294967296)) x4 0) else (none)) else (some (Go.bits .xor .u32 x3 4294967295))
def screeref2_Sum_p.l1 : Nat → List Int → Int → Int → Int → Option (Int)
  | 0, _, _, _, _ => none
  | k + 1, x0, x3, x4, x5 => if x5 < 8 then (if (Int.tmod x3 2) = 1 then (screeref2_Sum_p.l1 k x0 (Go.bits .xor .u32 ((Int.tdiv x3 2) % 4294967296) 2197175160) x4 (wrap64 (x5 + 1))) else (screeref2_Sum_p.l1 k x0 ((Int.tdiv x3 2) % 4294967296) x4 (wrap64 (x5 + 1)))) else (screeref2_Sum_p.l0 k x0 x3 (wrap64 (x4 + 1)))
end
def screeref2_Sum_p.f (k : Nat) (l0 : List Int) : Option (Int) := screeref2_Sum_p.l0 k l0 4294967295 0
theorem screeref2_Sum_p.mono_l : ∀ k, (∀ y0 y1 y2, LeO (screeref2_Sum_p.l0 k y0 y1 y2) (screeref2_Sum_p.l0 (k + 1) y0 y1 y2)) ∧ (∀ y0 y1 y2 y3, LeO (screeref2_Sum_p.l1 k y0 y1 y2 y3) (screeref2_Sum_p.l1 (k + 1) y0 y1 y2 y3))
  | 0 => ⟨fun _ _ _ r h => by simp [screeref2_Sum_p.l0] at h, fun _ _ _ _ r h => by simp [screeref2_Sum_p.l1] at h⟩
  | k + 1 => by
    obtain ⟨ih0, ih1⟩ := screeref2_Sum_p.mono_l k
    refine ⟨?_, ?_⟩
    · intro y0 y1 y2
      unfold screeref2_Sum_p.l0
      repeat' first
      | (with_reducible exact ih0 _ _ _)
      | (with_reducible exact ih1 _ _ _ _)
      | (with_reducible exact LeO.refl _)
      | (with_reducible exact LeO.none _)
      | (with_reducible refine LeO.ite ?_ ?_)
      | (with_reducible refine LeO.bind ?_ (fun _ => ?_))
      | exact ih0 _ _ _
      | exact ih1 _ _ _ _
      | exact LeO.none _
      | refine LeO.ite ?_ ?_
      | refine LeO.bind ?_ (fun _ => ?_)
    · intro y0 y1 y2 y3
      unfold screeref2_Sum_p.l1
      repeat' first
      | (with_reducible exact ih0 _ _ _)
      | (with_reducible exact ih1 _ _ _ _)
      | (with_reducible exact LeO.refl _)
      | (with_reducible exact LeO.none _)
      | (with_reducible refine LeO.ite ?_ ?_)
      | (with_reducible refine LeO.bind ?_ (fun _ => ?_))
      | exact ih0 _ _ _
      | exact ih1 _ _ _ _
      | exact LeO.none _
      | refine LeO.ite ?_ ?_
      | refine LeO.bind ?_ (fun _ => ?_)
theorem screeref2_Sum_p.mono : ∀ a0 k, LeO (screeref2_Sum_p.f k a0) (screeref2_Sum_p.f (k + 1) a0) := by
  intro a0 k
  obtain ⟨ih0, ih1⟩ := screeref2_Sum_p.mono_l k
  unfold screeref2_Sum_p.f
  repeat' first
      | (with_reducible exact ih0 _ _ _)
      | (with_reducible exact ih1 _ _ _ _)
      | (with_reducible exact LeO.refl _)
      | (with_reducible exact LeO.none _)
      | (with_reducible refine LeO.ite ?_ ?_)
      | (with_reducible refine LeO.bind ?_ (fun _ => ?_))
      | exact ih0 _ _ _
      | exact ih1 _ _ _ _
      | exact LeO.none _
      | refine LeO.ite ?_ ?_
      | refine LeO.bind ?_ (fun _ => ?_)
set_option maxHeartbeats 8000000 in
set_option maxRecDepth 100000 in
theorem screeref2_Sum_p.calls (k : Nat) (A0 : Option Addr) (c0 : Nat) (l0 : List Int) (r : Int) (w : World) (hr0 : Kd.C (Kd.int .u8) w A0 l0.length l0) (hc0 : l0.length ≤ c0) (h : screeref2_Sum_p.f k l0 = some r) :
    Calls Tryz.prog 30 #[.slice A0 l0.length c0] w fun e w' => e = .returned (.int .u32 r) ∧ Drawn0 w w' := by
  have HR0 := Aside0.mk hr0
  have HC0 := Aside0.mk hc0
  clear hr0 hc0
  have H : (screeref2_Sum_p.l0 k l0 4294967295 0) = some r := h
  clear h
  have H' := Aside0.mk H
  clear H
  go_enter Tryz.func30, Tryz.ntmps30
  go_wp2
  go_loopg [3, 4] k (fun kq v3 v4 w' => ∃ (x3_1 : Int) (x4_1 : Int), v3 = .int .u32 x3_1 ∧ v4 = .int .i64 x4_1 ∧ Aside0 (screeref2_Sum_p.l0 kq l0 x3_1 x4_1 = some r) ∧ Aside0 (kq ≤ k) ∧ Drawn0 w w')
  case atStart => exact ⟨(4294967295), (0), (by first | rfl | (simp; done) | (simp [*]; done)), (by first | rfl | (simp; done) | (simp [*]; done)), H', ⟨Nat.le_refl _⟩, by repeat (first | exact Drawn0.refl _ | apply Drawn0.step)⟩
  case round =>
    clear H'
    obtain ⟨x3_1, x4_1, rfl, rfl, HA, HK1, ⟨m1, rfl⟩⟩ := hrel
    cases gk with
    | zero => exact absurd HA.out (by simp [screeref2_Sum_p.l0])
    | succ k1 =>
      have H := HA.out
      clear HA
      simp only [screeref2_Sum_p.l0] at H
      by_cases c2 : x4_1 < (l0.length : Int)
      · rw [if_pos c2] at H
        have c2b0 : decide (x4_1 < (l0.length : Int)) = true := decide_eq_true c2
        clear c2
        by_cases c3 : 0 ≤ x4_1
        · rw [if_pos c3] at H
          have c3b0 : decide (0 ≤ x4_1) = true := decide_eq_true c3
          clear c3
          have H' := Aside0.mk H
          clear H
          have p218 : 0 ≤ (x4_1 : Int) := of_decide_eq_true (by first | (with_reducible assumption) | assumption)
          have q218 : x4_1 < (l0.length : Int) := of_decide_eq_true (by first | (with_reducible assumption) | assumption)
          obtain ⟨ad218, e218, hx218_0⟩ := Kd.at_int HR0.out x4_1 p218 q218
          cases e218
          replace p218 := eq_true p218
          replace q218 := eq_true q218
          go_wp2
          go_loopg [3, 5] k1 (fun kq v3 v5 w' => ∃ (x3_2 : Int) (x5_2 : Int), v3 = .int .u32 x3_2 ∧ v5 = .int .i64 x5_2 ∧ Aside0 (screeref2_Sum_p.l1 kq l0 x3_2 x4_1 x5_2 = some r) ∧ Aside0 (kq ≤ k1) ∧ Drawn0 w w')
          case atStart => exact ⟨(Go.bits .xor .u32 x3_1 ((rd l0 x4_1) % 4294967296)), (0), (by first | rfl | (simp; done) | (simp [*]; done)), (by first | rfl | (simp; done) | (simp [*]; done)), H', ⟨Nat.le_refl _⟩, by repeat (first | exact Drawn0.refl _ | apply Drawn0.step)⟩
          case round =>
            clear H'
            try clear c2
            try clear c2b0
            try clear p2
            try clear q2
            try clear hx2
            try clear c3
            try clear c3b0
            try clear hx218_0
            try clear p218
            try clear q218
            obtain ⟨x3_2, x5_2, rfl, rfl, HA, HK2, ⟨m2, rfl⟩⟩ := hrel
            cases gk with
            | zero => exact absurd HA.out (by simp [screeref2_Sum_p.l1])
            | succ k2 =>
              have H := HA.out
              clear HA
              simp only [screeref2_Sum_p.l1] at H
              by_cases c4 : x5_2 < 8
              · rw [if_pos c4] at H
                have c4b0 : decide (x5_2 < 8) = true := decide_eq_true c4
                clear c4
                by_cases c5 : (Int.tmod x3_2 2) = 1
                · rw [if_pos c5] at H
                  have c5b0 : ((Int.tmod x3_2 2) == 1) = true := beq_iff_eq.mpr c5
                  have c5b1 : ((Int.tmod x3_2 2) != 1) = false := bne_eq_false_iff_eq.mpr c5
                  clear c5
                  have H' := Aside0.mk H
                  clear H
                  go_wp2
                  go_roundg k2
                  case measure => have := HK1.out; have := HK2.out; omega
                  case rel => exact ⟨(Go.bits .xor .u32 ((Int.tdiv x3_2 2) % 4294967296) 2197175160), (wrap64 (x5_2 + 1)), (by first | rfl | (simp; done) | (simp [*]; done)), (by first | rfl | (simp; done) | (simp [*]; done)), H', ⟨by have := HK1.out; have := HK2.out; omega⟩, by repeat (first | exact Drawn0.refl _ | apply Drawn0.step)⟩
                · rw [if_neg c5] at H
                  have c5b0 : ((Int.tmod x3_2 2) == 1) = false := beq_eq_false_iff_ne.mpr c5
                  have c5b1 : ((Int.tmod x3_2 2) != 1) = true := bne_iff_ne.mpr c5
                  have H' := Aside0.mk H
                  clear H
                  go_wp2
                  go_roundg k2
                  case measure => have := HK1.out; have := HK2.out; omega
                  case rel => exact ⟨((Int.tdiv x3_2 2) % 4294967296), (wrap64 (x5_2 + 1)), (by first | rfl | (simp; done) | (simp [*]; done)), (by first | rfl | (simp; done) | (simp [*]; done)), H', ⟨by have := HK1.out; have := HK2.out; omega⟩, by repeat (first | exact Drawn0.refl _ | apply Drawn0.step)⟩
              · rw [if_neg c4] at H
                have c4b0 : decide (x5_2 < 8) = false := decide_eq_false c4
                clear c4
                have H' := Aside0.mk H
                clear H
                go_wp2
                go_roundg k2
                case measure => have := HK1.out; have := HK2.out; omega
                case rel => exact ⟨(x3_2), (wrap64 (x4_1 + 1)), (by first | rfl | (simp; done) | (simp [*]; done)), (by first | rfl | (simp; done) | (simp [*]; done)), H', ⟨by have := HK1.out; have := HK2.out; omega⟩, by repeat (first | exact Drawn0.refl _ | apply Drawn0.step)⟩
        · rw [if_neg c3] at H
          exact absurd H (by simp)
      · rw [if_neg c2] at H
        have c2b0 : decide (x4_1 < (l0.length : Int)) = false := decide_eq_false c2
        clear c2
        obtain rfl := Option.some.inj H
        go_wp2
        go_ret
        exact ⟨by first | rfl | (simp; done) | (simp [*]; done), by repeat (first | exact Drawn0.refl _ | apply Drawn0.step)⟩
open Go.Proofs.YtaonjmkfbfhanaaGreatDoor.G
theorem bits_step (x : Nat) (hx : x < 4294967296) : (if Int.tmod (x : Int) 2 = 1 then Go.bits .xor .u32 ((Int.tdiv (x : Int) 2) % 4294967296) 2197175160 else (Int.tdiv (x : Int) 2) % 4294967296) = ((stepN x : Nat) : Int) := by
  have h1 : Int.tmod (x : Int) 2 = ((x % 2 : Nat) : Int) := rfl
  have h2 : Int.tdiv (x : Int) 2 % 4294967296 = ((x / 2 : Nat) : Int) := by rw [show Int.tdiv (x : Int) 2 = ((x / 2 : Nat) : Int) from rfl]; omega
  rw [h1, h2]
  unfold stepN
  by_cases h : x % 2 = 1
  · rw [if_pos h, if_pos (by omega), show (2197175160 : Int) = ((2197175160 : Nat) : Int) from rfl, u32_xor_nat _ _ (by omega) (by omega)]
  · rw [if_neg h, if_neg (by omega)]
theorem stepN_lt (x : Nat) (hx : x < 4294967296) : stepN x < 4294967296 := by
  unfold stepN
  split
  · exact Nat.xor_lt_two_pow (n := 32) (by omega) (by omega)
  · omega
def iter : Nat → Nat → Nat
  | 0, x => x
  | d + 1, x => iter d (stepN x)
theorem l1_ev (l : List Int) (i r : Int) (d : Nat) : ∀ (j : Int) (x : Nat), x < 4294967296 → j + d = 8 → 0 ≤ j → Ev (fun k => screeref2_Sum_p.l0 k l (iter d x : Nat) (wrap64 (i + 1))) r → Ev (fun k => screeref2_Sum_p.l1 k l (x : Int) i j) r := by
  induction d with
  | zero =>
    intro j x hx hj h0 h
    refine Ev.step (fun k => ?_) h
    simp only [screeref2_Sum_p.l1]
    rw [if_neg (by omega)]
    rfl
  | succ d ih =>
    intro j x hx hj h0 h
    refine Ev.step (f := fun k => screeref2_Sum_p.l1 k l (stepN x : Nat) i (j + 1)) (fun k => ?_) (ih (j + 1) (stepN x) (stepN_lt x hx) (by omega) (by omega) h)
    simp only [screeref2_Sum_p.l1]
    rw [if_pos (by omega), show wrap64 (j + 1) = j + 1 by unfold wrap64; omega, ← bits_step x hx]
    split <;> rfl
theorem iter8 (x : Nat) (hx : x < 4294967296) : ((iter 8 x : Nat) : Int) = sum1 (sum1 (x : Int)) := by
  have h1 : iter 8 x = step4 (step4 x) := rfl
  have h2 : step4 x < 4294967296 := stepN_lt _ (stepN_lt _ (stepN_lt _ (stepN_lt _ hx)))
  rw [h1, step4_eq _ h2, step4_eq _ hx]
theorem l0_ev (l : List Int) (hl : Bytes l) (hm : l.length ≤ 9223372036854775806) (d : Nat) : ∀ (i : Nat), i + d = l.length → Ev (fun k => screeref2_Sum_p.l0 k l (sumf (l.take i)) (i : Int)) (sumF l) := by
  induction d with
  | zero =>
    intro i hi
    refine Ev.step (f := fun _ => some (sumF l)) (fun k => ?_) (Ev.now _)
    simp only [screeref2_Sum_p.l0]
    rw [if_neg (by omega), List.take_of_length_le (by omega)]
    have hr := sumf_range hl
    obtain ⟨a, ha⟩ := Int.eq_ofNat_of_zero_le hr.1
    unfold sumF
    rw [ha, show (4294967295 : Int) = ((4294967295 : Nat) : Int) from rfl, u32_xor_nat _ _ (by have := hr.2; omega) (by omega), u32_xor_nat _ _ (by omega) (by have := hr.2; omega), Nat.xor_comm]
  | succ d ih =>
    intro i hi
    have h := ih (i + 1) (by omega)
    have hlt : i < l.length := by omega
    have hr : U32 (sumf (l.take i)) := sumf_range (fun y hy => hl y (List.mem_of_mem_take hy))
    have hb := bytes_rd hl i hlt
    rw [sumf_snoc l i hlt] at h
    have hx := u32_xor_range hr (y := rd l i) ⟨hb.1, by omega⟩
    obtain ⟨x, hxe⟩ := Int.eq_ofNat_of_zero_le hx.1
    have hxl : x < 4294967296 := by have := hx.2; omega
    refine Ev.step (f := fun k => screeref2_Sum_p.l1 k l (x : Int) (i : Int) 0) (fun k => ?_) (l1_ev l i _ 8 0 x hxl (by omega) (by omega) ?_)
    · simp only [screeref2_Sum_p.l0]
      rw [if_pos (by omega), if_pos (by omega), show rd l (i : Int) % 4294967296 = rd l (i : Int) by omega, hxe]
    · rw [iter8 x hxl, show wrap64 ((i : Int) + 1) = ((i + 1 : Nat) : Int) by unfold wrap64; omega]
      unfold sumc at h
      rw [hxe] at h
      exact h
def screeref2_Sum.f (l0 : List Int) : Option Int := if okB l0 = true ∧ l0.length ≤ 140737488355328 then some (sumF l0) else none
theorem screeref2_Sum.calls (A0 : Option Addr) (c0 : Nat) (l0 : List Int) (r : Int) (w : World) (hr0 : Kd.C (Kd.int .u8) w A0 l0.length l0) (hc0 : l0.length ≤ c0) (h : screeref2_Sum.f l0 = some r) :
    Calls Tryz.prog 30 #[.slice A0 l0.length c0] w fun e w' => e = .returned (.int .u32 r) ∧ Drawn0 w w' := by
  unfold screeref2_Sum.f at h
  split at h
  · rename_i hh
    obtain ⟨k, hk⟩ := (l0_ev l0 (okB_iff.1 hh.1) (by omega) l0.length 0 (by omega)).rounds
    rw [Option.some.inj h] at hk
    exact screeref2_Sum_p.calls k A0 c0 l0 r w hr0 hc0 hk
  · cases h
def screeref9_Bytes.l0 : Nat → List Int → List Int → Int → Option (List Int)
  | 0, _, _, _ => none
  | k + 1, x5, x6, x7 => if x7 < (x6.length : Int) then (if 0 ≤ x7 then ((screeref9_four.f (rd x6 x7)).bind fun t226 => (if x5.length + t226.length < 140737488355328 then (screeref9_Bytes.l0 k (x5 ++ t226) x6 (wrap64 (x7 + 1))) else (none))) else (none)) else ((screeref9_four.f (x6.length : Int)).bind fun t232 => (if x5.length + t232.length < 140737488355328 then ((some (x5 ++ t232 : List Int)).bind fun y235 => ((screeref2_Sum.f y235).bind fun t238 => ((screeref2_Four.f t238).bind fun t239 => (if y235.length + t239.length < 140737488355328 then (some (y235 ++ t239)) else (none))))) else (none)))
def screeref9_Bytes.f (k : Nat) (l0 : List (S53)) (a1 : Int) : Option (List Int) := (screeref9_body.f k l0 a1).bind fun bt219 => (screeref9_Bytes.l0 k bt219.1 bt219.2 0)
theorem screeref9_Bytes.mono_l : ∀ k, (∀ y0 y1 y2, LeO (screeref9_Bytes.l0 k y0 y1 y2) (screeref9_Bytes.l0 (k + 1) y0 y1 y2))
  | 0 => fun _ _ _ r h => by simp [screeref9_Bytes.l0] at h
  | k + 1 => by
    have ih0 := screeref9_Bytes.mono_l k
    · intro y0 y1 y2
      unfold screeref9_Bytes.l0
      repeat' first
      | (with_reducible exact ih0 _ _ _)
      | (with_reducible exact screeref9_body.mono _ _ _)
      | (with_reducible exact LeO.refl _)
      | (with_reducible exact LeO.none _)
      | (with_reducible refine LeO.ite ?_ ?_)
      | (with_reducible refine LeO.bind ?_ (fun _ => ?_))
      | exact ih0 _ _ _
      | exact screeref9_body.mono _ _ _
      | exact LeO.none _
      | refine LeO.ite ?_ ?_
      | refine LeO.bind ?_ (fun _ => ?_)
theorem screeref9_Bytes.mono : ∀ a0 a1 k, LeO (screeref9_Bytes.f k a0 a1) (screeref9_Bytes.f (k + 1) a0 a1) := by
  intro a0 a1 k
  have ih0 := screeref9_Bytes.mono_l k
  unfold screeref9_Bytes.f
  repeat' first
      | (with_reducible exact ih0 _ _ _)
      | (with_reducible exact screeref9_body.mono _ _ _)
      | (with_reducible exact LeO.refl _)
      | (with_reducible exact LeO.none _)
      | (with_reducible refine LeO.ite ?_ ?_)
      | (with_reducible refine LeO.bind ?_ (fun _ => ?_))
      | exact ih0 _ _ _
      | exact screeref9_body.mono _ _ _
      | exact LeO.none _
      | refine LeO.ite ?_ ?_
      | refine LeO.bind ?_ (fun _ => ?_)
set_option maxHeartbeats 8000000 in
set_option maxRecDepth 100000 in
theorem screeref9_Bytes.calls (k : Nat) (A0 : Option Addr) (c0 : Nat) (l0 : List (S53)) (a1 : Int) (r : List Int) (w : World) (hr0 : Kd.C k53 w A0 l0.length l0) (hc0 : l0.length ≤ c0) (h : screeref9_Bytes.f k l0 a1 = some r) :
    Calls Tryz.prog 11 #[.slice A0 l0.length c0, .int .i64 a1] w fun e w' => ∃ v0_ : Value, e = .returned (v0_) ∧ Kd.R (Kd.int .u8) 5 w' w.heap.size (fun _ => True) v0_ r ∧ Below w.heap.size w w' := by
  have HR0 := Aside0.mk hr0
  have HC0 := Aside0.mk hc0
  clear hr0 hc0
  have HB := Aside0.mk (Below.refl w.heap.size w)
  have H : ((screeref9_body.f k l0 a1).bind fun bt219 => (screeref9_Bytes.l0 k bt219.1 bt219.2 0)) = some r := h
  clear h
  replace H := Option.bind_eq_some_iff.mp H
  obtain ⟨⟨t219, t220⟩, A30, H⟩ := H
  replace H : (screeref9_Bytes.l0 k t219 t220 0) = some r := H
  have A3 := Aside0.mk A30
  clear A30
  have H' := Aside0.mk H
  clear H
  go_enter Tryz.func11, Tryz.ntmps11
  go_wp2_with (first | ((with_reducible refine gate_callee (f := 27) rfl ?_); refine goesL_ (some 11) rfl rfl Tryz.func27 (by kernel_rfl) rfl #[.slice A0 l0.length c0, .int .i64 a1] rfl (by (try simp only [List.map_toArray, List.map_cons, List.map_nil]); first | done | rfl | (simp only [List.length_drop, List.length_take]; rfl)) ?_; (with_reducible refine (screeref9_body.calls k _ _ l0 a1 t219 t220 _ ?side1 ?side2 A3.out).mono ?_); (case side1 => repeat (first | exact HR0.out | (with_reducible refine Kd.C_alloc ?_ _) | (with_reducible refine Kd.C_drewN ?_ _) | (with_reducible refine Kd.C_drew ?_))); (case side2 => exact HC0.out); rintro e w4 ⟨v221, v223, rfl, ho0, ho1, hb⟩; refine ⟨_, rfl, ?_⟩; have n0_ := Aside0.mk (Kd.R_lower ho0 (below_size (by repeat (first | (with_reducible first | exact HB.out | apply below_alloc | apply pw_below_drewN | apply below_drew1) | exact HB.out)))); have n1_ := Aside0.mk (Kd.R_lower ho1 (below_size (by repeat (first | (with_reducible first | exact HB.out | apply below_alloc | apply pw_below_drewN | apply below_drew1) | exact HB.out)))); have n2_ := Aside0.mk (below_step (by repeat (first | (with_reducible first | exact HB.out | apply below_alloc | apply pw_below_drewN | apply below_drew1) | exact HB.out)) hb); clear HB; have HO222 := n0_; have HO224 := n1_; have HB := n2_; clear n0_ n1_ n2_; (try clear hb); (try clear hb2); (try clear hk); (try clear hi); (try clear ho0); (try clear ho1)))
  go_loopg [5, 7] k (fun kq v5 v7 w' => ∃ (x5_1 : List Int) (x7_1 : Int), v7 = .int .i64 x7_1 ∧ Aside0 (screeref9_Bytes.l0 kq x5_1 t220 x7_1 = some r) ∧ Aside0 (kq ≤ k) ∧ Aside0 (Kd.R (Kd.int .u8) 5 w' w.heap.size (fun _ => True) v5 x5_1) ∧ Aside0 (Kd.R (Kd.int .i64) 3 w' w.heap.size (fun _ => True) v223 t220) ∧ Aside0 (Below w.heap.size w w'))
  case atStart => exact ⟨(t219), (0), (by first | rfl | (simp; done) | (simp [*]; done)), H', ⟨Nat.le_refl _⟩, ⟨by (with_reducible repeat (first | apply Kd.R_alloc | apply Kd.R_drewN | apply Kd.R_drew)); exact HO222.out⟩, ⟨by (with_reducible repeat (first | apply Kd.R_alloc | apply Kd.R_drewN | apply Kd.R_drew)); exact HO224.out⟩, ⟨by repeat (first | (with_reducible first | exact HB.out | apply below_alloc | apply pw_below_drewN | apply below_drew1) | exact HB.out)⟩⟩
  case round =>
    clear H'
    try clear c1
    try clear c2
    try clear p2
    obtain ⟨x5_1, x7_1, rfl, HA, HK1, HO_5, HO_6, HB⟩ := hrel
    cases gk with
    | zero => exact absurd HA.out (by simp [screeref9_Bytes.l0])
    | succ k1 =>
      have H := HA.out
      clear HA
      simp only [screeref9_Bytes.l0] at H
      by_cases c5 : x7_1 < (t220.length : Int)
      · rw [if_pos c5] at H
        have c5b0 : decide (x7_1 < (t220.length : Int)) = true := decide_eq_true c5
        clear c5
        by_cases c6 : 0 ≤ x7_1
        · rw [if_pos c6] at H
          have c6b0 : decide (0 ≤ x7_1) = true := decide_eq_true c6
          clear c6
          replace H := Option.bind_eq_some_iff.mp H
          obtain ⟨t226, A70, H⟩ := H
          replace H : (if x5_1.length + t226.length < 140737488355328 then (screeref9_Bytes.l0 k1 (x5_1 ++ t226) t220 (wrap64 (x7_1 + 1))) else (none)) = some r := H
          have A7 := Aside0.mk A70
          clear A70
          by_cases c8 : x5_1.length + t226.length < 140737488355328
          · rw [if_pos c8] at H
            have LMc8 := Aside0.mk c8
            clear c8
            obtain ⟨y229, hy229⟩ : ∃ y_ : List Int, y_ = (x5_1 ++ t226) := ⟨_, rfl⟩
            replace H : (screeref9_Bytes.l0 k1 y229 t220 (wrap64 (x7_1 + 1))) = some r := by first | (rw [hy229]; with_reducible exact H) | (have H2_ := (Option.bind_some _ _).symm.trans H; rw [hy229]; with_reducible exact H2_) | (have H2_ := (Option.bind_some _ _).symm.trans H; with_reducible exact H2_) | with_reducible exact H | (rw [hy229]; exact H) | exact H
            have Ny229 := Aside0.mk hy229
            clear hy229
            have H' := Aside0.mk H
            clear H
            obtain ⟨Ao9, co9, eo9⟩ := Kd.R_slice HO_6.out
            subst eo9
            have p225 : 0 ≤ (x7_1 : Int) := of_decide_eq_true (by first | (with_reducible assumption) | assumption)
            have q225 : x7_1 < (t220.length : Int) := of_decide_eq_true (by first | (with_reducible assumption) | assumption)
            obtain ⟨ad225, e225, hx225_0⟩ := Kd.at_int (Kd.R_reads' HO_6.out).2.2 x7_1 p225 q225
            cases e225
            replace p225 := eq_true p225
            replace q225 := eq_true q225
            go_wp2_with (first | ((with_reducible refine gate_callee (f := 28) rfl ?_); refine goesL_ (some 25) rfl rfl Tryz.func28 (by kernel_rfl) rfl #[.int .i64 (rd t220 x7_1)] rfl (by (try simp only [List.map_toArray, List.map_cons, List.map_nil]); first | done | rfl | (simp only [List.length_drop, List.length_take]; rfl)) ?_; (with_reducible refine (screeref9_four.calls (rd t220 x7_1) t226 _ A7.out).mono ?_); rintro e w10 ⟨v227, rfl, ho0, hb⟩; refine ⟨_, rfl, ?_⟩; have n0_ := Aside0.mk (Kd.R_elder' (by (with_reducible repeat (first | apply Kd.R_alloc | apply Kd.R_drewN | apply Kd.R_drew)); exact HO_5.out) (Kd.R_base ho0) hb); have n1_ := Aside0.mk (Kd.R_below (by (with_reducible repeat (first | apply Kd.R_alloc | apply Kd.R_drewN | apply Kd.R_drew)); exact HO_6.out) hb); have n2_ := Aside0.mk (Kd.R_lower (Kd.R_new' ho0 (Kd.R_lt (by (with_reducible repeat (first | apply Kd.R_alloc | apply Kd.R_drewN | apply Kd.R_drew)); exact HO_5.out))) (below_size (by repeat (first | (with_reducible first | exact HB.out | apply below_alloc | apply pw_below_drewN | apply below_drew1) | exact HB.out)))); have n3_ := Aside0.mk (below_step (by repeat (first | (with_reducible first | exact HB.out | apply below_alloc | apply pw_below_drewN | apply below_drew1) | exact HB.out)) hb); clear HO_5; clear HO_6; clear HB; have HO_5 := n0_; have HO_6 := n1_; have HO228 := n2_; have HB := n3_; clear n0_ n1_ n2_ n3_; (try clear hb); (try clear hb2); (try clear hk); (try clear hi); (try clear ho0); obtain ⟨Ao12, co12, eo12⟩ := Kd.R_slice HO228.out; subst eo12) | ((with_reducible refine gate_builtin (b := .append) (xs := #[.tmp 20, .tmp 25]) rfl ?_); at_builtin; refine Kd.R_append_rows (Kd.int .u8) (w0 := w) w.heap.size rfl (.tmp 20) (.tmp 25) 57 5 (.int .u8 0) 1 rfl Tryz.underlying57 info5 rfl (by decide) (by omega) u5 x5_1 t226 _ _ _ (fun k_ => some k_ ≠ (.slice Ao12 t226.length co12 : Value).ownBlock) (fun _ => False) rfl rfl ?aO ?aR (fun _ _ h => h) (fun _ h => h.elim) ?aF ?aB ?aS ?aL ?_; (case aR => repeat (first | exact (Kd.R_reads' HO228.out).2.2 | (with_reducible refine Kd.C_alloc ?_ _) | (with_reducible refine Kd.C_drewN ?_ _) | (with_reducible refine Kd.C_drew ?_))); (case aB => exact (by repeat (first | (with_reducible first | exact HB.out | apply below_alloc | apply pw_below_drewN | apply below_drew1) | exact HB.out))); (case aF => exact (fun k_ hk => Kd.fresh' (Kd.R_lt (by (with_reducible repeat (first | apply Kd.R_alloc | apply Kd.R_drewN | apply Kd.R_drew)); exact HO228.out)) k_ hk)); (case aO => exact (by (with_reducible repeat (first | apply Kd.R_alloc | apply Kd.R_drewN | apply Kd.R_drew)); exact Kd.R_mono HO_5.out (fun _ hk => hk.2))); (case aS => exact (below_size (by repeat (first | (with_reducible first | exact HB.out | apply below_alloc | apply pw_below_drewN | apply below_drew1) | exact HB.out)))); (case aL => have := LMc8.out; omega); intro v230 w11 ho hb hg hat; rw [← Ny229.out] at ho; have n0_ := Aside0.mk (Kd.R_over' (by (with_reducible repeat (first | apply Kd.R_alloc | apply Kd.R_drewN | apply Kd.R_drew)); exact HO_6.out) (Kd.R_typed (by (with_reducible repeat (first | apply Kd.R_alloc | apply Kd.R_drewN | apply Kd.R_drew)); exact HO_5.out)) (by decide) hg); have n1_ := Aside0.mk (Kd.R_after (ok := (fun _ => True)) (by (with_reducible repeat (first | apply Kd.R_alloc | apply Kd.R_drewN | apply Kd.R_drew)); exact HO228.out) hg hat); have n2_ := Aside0.mk (hb); have n3_ := Aside0.mk (ho); clear HO_6; clear HO228; clear HB; clear HO_5; have HO_6 := n0_; have HO228 := n1_; have HB := n2_; have HO231 := n3_; clear n0_ n1_ n2_ n3_; clear ho hb hg hat))
            go_roundg k1
            case measure => have := HK1.out; omega
            case rel => exact ⟨(y229), (wrap64 (x7_1 + 1)), (by first | rfl | (simp; done) | (simp [*]; done)), H', ⟨by have := HK1.out; omega⟩, ⟨by (with_reducible repeat (first | apply Kd.R_alloc | apply Kd.R_drewN | apply Kd.R_drew)); exact Kd.R_mono HO231.out (fun _ hk => trivial)⟩, ⟨by (with_reducible repeat (first | apply Kd.R_alloc | apply Kd.R_drewN | apply Kd.R_drew)); exact HO_6.out⟩, ⟨by repeat (first | (with_reducible first | exact HB.out | apply below_alloc | apply pw_below_drewN | apply below_drew1) | exact HB.out)⟩⟩
          · rw [if_neg c8] at H
            exact absurd H (by simp)
        · rw [if_neg c6] at H
          exact absurd H (by simp)
      · rw [if_neg c5] at H
        have c5b0 : decide (x7_1 < (t220.length : Int)) = false := decide_eq_false c5
        clear c5
        replace H := Option.bind_eq_some_iff.mp H
        obtain ⟨t232, A130, H⟩ := H
        replace H : (if x5_1.length + t232.length < 140737488355328 then ((some (x5_1 ++ t232 : List Int)).bind fun y235 => ((screeref2_Sum.f y235).bind fun t238 => ((screeref2_Four.f t238).bind fun t239 => (if y235.length + t239.length < 140737488355328 then (some (y235 ++ t239)) else (none))))) else (none)) = some r := H
        have A13 := Aside0.mk A130
        clear A130
        by_cases c14 : x5_1.length + t232.length < 140737488355328
        · rw [if_pos c14] at H
          have LMc14 := Aside0.mk c14
          clear c14
          obtain ⟨y235, hy235⟩ : ∃ y_ : List Int, y_ = (x5_1 ++ t232) := ⟨_, rfl⟩
          replace H : ((screeref2_Sum.f y235).bind fun t238 => ((screeref2_Four.f t238).bind fun t239 => (if y235.length + t239.length < 140737488355328 then (some (y235 ++ t239)) else (none)))) = some r := by first | (rw [hy235]; with_reducible exact H) | (have H2_ := (Option.bind_some _ _).symm.trans H; rw [hy235]; with_reducible exact H2_) | (have H2_ := (Option.bind_some _ _).symm.trans H; with_reducible exact H2_) | with_reducible exact H | (rw [hy235]; exact H) | exact H
          have Ny235 := Aside0.mk hy235
          clear hy235
          replace H := Option.bind_eq_some_iff.mp H
          obtain ⟨t238, A150, H⟩ := H
          replace H : ((screeref2_Four.f t238).bind fun t239 => (if y235.length + t239.length < 140737488355328 then (some (y235 ++ t239)) else (none))) = some r := H
          have A15 := Aside0.mk A150
          clear A150
          replace H := Option.bind_eq_some_iff.mp H
          obtain ⟨t239, A160, H⟩ := H
          replace H : (if y235.length + t239.length < 140737488355328 then (some (y235 ++ t239)) else (none)) = some r := H
          have A16 := Aside0.mk A160
          clear A160
          by_cases c17 : y235.length + t239.length < 140737488355328
          · rw [if_pos c17] at H
            have LMc17 := Aside0.mk c17
            clear c17
            obtain ⟨y242, hy242⟩ : ∃ y_ : List Int, y_ = (y235 ++ t239) := ⟨_, rfl⟩
            replace H : (some y242) = some r := by first | (rw [hy242]; with_reducible exact H) | (have H2_ := (Option.bind_some _ _).symm.trans H; rw [hy242]; with_reducible exact H2_) | (have H2_ := (Option.bind_some _ _).symm.trans H; with_reducible exact H2_) | with_reducible exact H | (rw [hy242]; exact H) | exact H
            have Ny242 := Aside0.mk hy242
            clear hy242
            obtain rfl := Option.some.inj H
            obtain ⟨Ao18, co18, eo18⟩ := Kd.R_slice HO_6.out
            subst eo18
            go_wp2_with (first | ((with_reducible refine gate_callee (f := 28) rfl ?_); refine goesL_ (some 30) rfl rfl Tryz.func28 (by kernel_rfl) rfl #[.int .i64 (t220.length : Int)] rfl (by (try simp only [List.map_toArray, List.map_cons, List.map_nil]); first | done | rfl | (simp only [List.length_drop, List.length_take]; rfl)) ?_; (with_reducible refine (screeref9_four.calls (t220.length : Int) t232 _ A13.out).mono ?_); rintro e w19 ⟨v233, rfl, ho0, hb⟩; refine ⟨_, rfl, ?_⟩; have n0_ := Aside0.mk (Kd.R_elder' (by (with_reducible repeat (first | apply Kd.R_alloc | apply Kd.R_drewN | apply Kd.R_drew)); exact HO_5.out) (Kd.R_base ho0) hb); have n1_ := Aside0.mk (Kd.R_below (by (with_reducible repeat (first | apply Kd.R_alloc | apply Kd.R_drewN | apply Kd.R_drew)); exact HO_6.out) hb); have n2_ := Aside0.mk (Kd.R_lower (Kd.R_new' ho0 (Kd.R_lt (by (with_reducible repeat (first | apply Kd.R_alloc | apply Kd.R_drewN | apply Kd.R_drew)); exact HO_5.out))) (below_size (by repeat (first | (with_reducible first | exact HB.out | apply below_alloc | apply pw_below_drewN | apply below_drew1) | exact HB.out)))); have n3_ := Aside0.mk (below_step (by repeat (first | (with_reducible first | exact HB.out | apply below_alloc | apply pw_below_drewN | apply below_drew1) | exact HB.out)) hb); clear HO_5; clear HO_6; clear HB; have HO_5 := n0_; have HO_6 := n1_; have HO234 := n2_; have HB := n3_; clear n0_ n1_ n2_ n3_; (try clear hb); (try clear hb2); (try clear hk); (try clear hi); (try clear ho0); obtain ⟨Ao21, co21, eo21⟩ := Kd.R_slice HO234.out; subst eo21) | ((with_reducible refine gate_builtin (b := .append) (xs := #[.tmp 27, .tmp 30]) rfl ?_); at_builtin; refine Kd.R_append_rows (Kd.int .u8) (w0 := w) w.heap.size rfl (.tmp 27) (.tmp 30) 57 5 (.int .u8 0) 1 rfl Tryz.underlying57 info5 rfl (by decide) (by omega) u5 x5_1 t232 _ _ _ (fun k_ => some k_ ≠ (.slice Ao21 t232.length co21 : Value).ownBlock) (fun _ => False) rfl rfl ?aO ?aR (fun _ _ h => h) (fun _ h => h.elim) ?aF ?aB ?aS ?aL ?_; (case aR => repeat (first | exact (Kd.R_reads' HO234.out).2.2 | (with_reducible refine Kd.C_alloc ?_ _) | (with_reducible refine Kd.C_drewN ?_ _) | (with_reducible refine Kd.C_drew ?_))); (case aB => exact (by repeat (first | (with_reducible first | exact HB.out | apply below_alloc | apply pw_below_drewN | apply below_drew1) | exact HB.out))); (case aF => exact (fun k_ hk => Kd.fresh' (Kd.R_lt (by (with_reducible repeat (first | apply Kd.R_alloc | apply Kd.R_drewN | apply Kd.R_drew)); exact HO234.out)) k_ hk)); (case aO => exact (by (with_reducible repeat (first | apply Kd.R_alloc | apply Kd.R_drewN | apply Kd.R_drew)); exact Kd.R_mono HO_5.out (fun _ hk => hk.2))); (case aS => exact (below_size (by repeat (first | (with_reducible first | exact HB.out | apply below_alloc | apply pw_below_drewN | apply below_drew1) | exact HB.out)))); (case aL => have := LMc14.out; omega); intro v236 w20 ho hb hg hat; rw [← Ny235.out] at ho; have n0_ := Aside0.mk (Kd.R_over' (by (with_reducible repeat (first | apply Kd.R_alloc | apply Kd.R_drewN | apply Kd.R_drew)); exact HO_6.out) (Kd.R_typed (by (with_reducible repeat (first | apply Kd.R_alloc | apply Kd.R_drewN | apply Kd.R_drew)); exact HO_5.out)) (by decide) hg); have n1_ := Aside0.mk (Kd.R_after (ok := (fun _ => True)) (by (with_reducible repeat (first | apply Kd.R_alloc | apply Kd.R_drewN | apply Kd.R_drew)); exact HO234.out) hg hat); have n2_ := Aside0.mk (hb); have n3_ := Aside0.mk (ho); clear HO_6; clear HO234; clear HB; clear HO_5; have HO_6 := n0_; have HO234 := n1_; have HB := n2_; have HO237 := n3_; clear n0_ n1_ n2_ n3_; clear ho hb hg hat; obtain ⟨Ao22, co22, eo22⟩ := Kd.R_slice HO237.out; subst eo22) | ((with_reducible refine gate_callee (f := 30) rfl ?_); refine goesL_ (some 34) rfl rfl Tryz.func30 (by kernel_rfl) rfl #[.slice Ao22 y235.length co22] rfl (by (try simp only [List.map_toArray, List.map_cons, List.map_nil]); first | done | rfl | (simp only [List.length_drop, List.length_take]; rfl)) ?_; (with_reducible refine (screeref2_Sum.calls _ _ y235 t238 _ ?side1 ?side2 A15.out).mono ?_); (case side1 => repeat (first | exact (Kd.R_reads' HO237.out).2.2 | (with_reducible refine Kd.C_alloc ?_ _) | (with_reducible refine Kd.C_drewN ?_ _) | (with_reducible refine Kd.C_drew ?_))); (case side2 => exact (Kd.R_reads' HO237.out).2.1); rintro e w' ⟨rfl, ⟨nd, rfl⟩⟩; refine ⟨_, rfl, ?_⟩) | ((with_reducible refine gate_callee (f := 29) rfl ?_); refine goesL_ (some 35) rfl rfl Tryz.func29 (by kernel_rfl) rfl #[.int .u32 t238] rfl (by (try simp only [List.map_toArray, List.map_cons, List.map_nil]); first | done | rfl | (simp only [List.length_drop, List.length_take]; rfl)) ?_; (with_reducible refine (screeref2_Four.calls t238 t239 _ A16.out).mono ?_); rintro e w23 ⟨v240, rfl, ho0, hb⟩; refine ⟨_, rfl, ?_⟩; have n0_ := Aside0.mk (Kd.R_below (by (with_reducible repeat (first | apply Kd.R_alloc | apply Kd.R_drewN | apply Kd.R_drew)); exact HO_6.out) hb); have n1_ := Aside0.mk (Kd.R_elder' (by (with_reducible repeat (first | apply Kd.R_alloc | apply Kd.R_drewN | apply Kd.R_drew)); exact HO234.out) (Kd.R_base ho0) hb); have n2_ := Aside0.mk (Kd.R_elder' (by (with_reducible repeat (first | apply Kd.R_alloc | apply Kd.R_drewN | apply Kd.R_drew)); exact HO237.out) (Kd.R_base ho0) hb); have n3_ := Aside0.mk (Kd.R_lower (Kd.R_new' (Kd.R_new' ho0 (Kd.R_lt (by (with_reducible repeat (first | apply Kd.R_alloc | apply Kd.R_drewN | apply Kd.R_drew)); exact HO234.out))) (Kd.R_lt (by (with_reducible repeat (first | apply Kd.R_alloc | apply Kd.R_drewN | apply Kd.R_drew)); exact HO237.out))) (below_size (by repeat (first | (with_reducible first | exact HB.out | apply below_alloc | apply pw_below_drewN | apply below_drew1) | exact HB.out)))); have n4_ := Aside0.mk (below_step (by repeat (first | (with_reducible first | exact HB.out | apply below_alloc | apply pw_below_drewN | apply below_drew1) | exact HB.out)) hb); clear HO_6; clear HO234; clear HO237; clear HB; have HO_6 := n0_; have HO234 := n1_; have HO237 := n2_; have HO241 := n3_; have HB := n4_; clear n0_ n1_ n2_ n3_ n4_; (try clear hb); (try clear hb2); (try clear hk); (try clear hi); (try clear ho0); obtain ⟨Ao25, co25, eo25⟩ := Kd.R_slice HO241.out; subst eo25) | ((with_reducible refine gate_builtin (b := .append) (xs := #[.tmp 32, .tmp 35]) rfl ?_); at_builtin; refine Kd.R_append_rows (Kd.int .u8) (w0 := w) w.heap.size rfl (.tmp 32) (.tmp 35) 57 5 (.int .u8 0) 1 rfl Tryz.underlying57 info5 rfl (by decide) (by omega) (.slice Ao22 y235.length co22) y235 t239 _ _ _ (fun k_ => some k_ ≠ (.slice Ao21 t232.length co21 : Value).ownBlock ∧ some k_ ≠ (.slice Ao25 t239.length co25 : Value).ownBlock) (fun _ => False) rfl rfl ?aO ?aR (fun _ _ h => h) (fun _ h => h.elim) ?aF ?aB ?aS ?aL ?_; (case aR => repeat (first | exact (Kd.R_reads' HO241.out).2.2 | (with_reducible refine Kd.C_alloc ?_ _) | (with_reducible refine Kd.C_drewN ?_ _) | (with_reducible refine Kd.C_drew ?_))); (case aB => exact (by repeat (first | (with_reducible first | exact HB.out | apply below_alloc | apply pw_below_drewN | apply below_drew1) | exact HB.out))); (case aF => exact (fun k_ hk => ⟨Kd.fresh' (Kd.R_lt (by (with_reducible repeat (first | apply Kd.R_alloc | apply Kd.R_drewN | apply Kd.R_drew)); exact HO234.out)) k_ hk, Kd.fresh' (Kd.R_lt (by (with_reducible repeat (first | apply Kd.R_alloc | apply Kd.R_drewN | apply Kd.R_drew)); exact HO241.out)) k_ hk⟩)); (case aO => exact (by (with_reducible repeat (first | apply Kd.R_alloc | apply Kd.R_drewN | apply Kd.R_drew)); exact HO237.out)); (case aS => exact (below_size (by repeat (first | (with_reducible first | exact HB.out | apply below_alloc | apply pw_below_drewN | apply below_drew1) | exact HB.out)))); (case aL => have := LMc17.out; omega); intro v243 w24 ho hb hg hat; rw [← Ny242.out] at ho; have n0_ := Aside0.mk (Kd.R_over' (by (with_reducible repeat (first | apply Kd.R_alloc | apply Kd.R_drewN | apply Kd.R_drew)); exact HO_6.out) (Kd.R_typed (by (with_reducible repeat (first | apply Kd.R_alloc | apply Kd.R_drewN | apply Kd.R_drew)); exact HO237.out)) (by decide) hg); have n1_ := Aside0.mk (Kd.R_after (ok := (fun k_ => some k_ ≠ (.slice Ao25 t239.length co25 : Value).ownBlock)) (by (with_reducible repeat (first | apply Kd.R_alloc | apply Kd.R_drewN | apply Kd.R_drew)); exact Kd.R_mono HO234.out (fun _ hk => ⟨hk.2, hk.1.2⟩)) hg hat); have n2_ := Aside0.mk (Kd.R_after (ok := (fun k_ => some k_ ≠ (.slice Ao21 t232.length co21 : Value).ownBlock)) (by (with_reducible repeat (first | apply Kd.R_alloc | apply Kd.R_drewN | apply Kd.R_drew)); exact Kd.R_mono HO241.out (fun _ hk => ⟨hk.1.2, hk.2⟩)) hg hat); have n3_ := Aside0.mk (hb); have n4_ := Aside0.mk (ho); clear HO_6; clear HO234; clear HO241; clear HB; clear HO237; have HO_6 := n0_; have HO234 := n1_; have HO241 := n2_; have HB := n3_; have HO244 := n4_; clear n0_ n1_ n2_ n3_ n4_; clear ho hb hg hat))
            go_ret
            exact ⟨_, by first | rfl | (simp [errW_none, errW_some] <;> rfl) | (simp [*, errW_none, errW_some] <;> rfl), by (with_reducible repeat (first | apply Kd.R_alloc | apply Kd.R_drewN | apply Kd.R_drew)); exact Kd.R_mono HO244.out (fun _ hk => trivial), by repeat (first | (with_reducible first | exact HB.out | apply below_alloc | apply pw_below_drewN | apply below_drew1) | exact HB.out)⟩
          · rw [if_neg c17] at H
            exact absurd H (by simp)
        · rw [if_neg c14] at H
          exact absurd H (by simp)
def block_four.f (l0 : List Int) (a1 : Int) : Option (List Int) := (some (([(a1) % 256, (a1 / 256) % 256, (a1 / 65536) % 256, (a1 / 16777216) % 256] : List Int) : List Int)).bind fun y245 => (if l0.length + y245.length < 140737488355328 then (some (l0 ++ y245)) else (none))
set_option maxHeartbeats 8000000 in
set_option maxRecDepth 100000 in
theorem block_four.calls (P0_ : Nat → Prop) (u9000_ : Value) (l0 : List Int) (a1 : Int) (r : List Int) (w0 w : World) (hB : Below w0.heap.size w0 w) (ho0 : Kd.R (Kd.int .u8) 5 w w0.heap.size P0_ u9000_ l0) (h : block_four.f l0 a1 = some r) :
    Calls Tryz.prog 31 #[u9000_, .int .u32 a1] w fun e w' => ∃ v0_ : Value, e = .returned (v0_) ∧ Kd.R (Kd.int .u8) 5 w' w0.heap.size (fun k_ => (P0_ k_ ∨ w.heap.size ≤ k_)) v0_ r ∧ Below w0.heap.size w0 w' ∧ Kept w w' (fun k_ => P0_ k_) := by
  have HO0 := Aside0.mk (show Kd.R (Kd.int .u8) 5 w w0.heap.size (fun k_ => (P0_ k_ ∨ w.heap.size ≤ k_)) u9000_ l0 from Kd.R_mono ho0 (fun k_ hk => (.inl hk)))
  have HK := Aside0.mk (Kept.refl w (fun k_ => P0_ k_))
  have HW0 := Aside0.mk hB.size
  have HB := Aside0.mk hB
  clear hB
  have H : ((some (([(a1) % 256, (a1 / 256) % 256, (a1 / 65536) % 256, (a1 / 16777216) % 256] : List Int) : List Int)).bind fun y245 => (if l0.length + y245.length < 140737488355328 then (some (l0 ++ y245)) else (none))) = some r := h
  clear h
  obtain ⟨y245, hy245⟩ : ∃ y_ : List Int, y_ = (([(a1) % 256, (a1 / 256) % 256, (a1 / 65536) % 256, (a1 / 16777216) % 256] : List Int)) := ⟨_, rfl⟩
  replace H : (if l0.length + y245.length < 140737488355328 then (some (l0 ++ y245)) else (none)) = some r := by first | (rw [hy245]; with_reducible exact H) | (have H2_ := (Option.bind_some _ _).symm.trans H; rw [hy245]; with_reducible exact H2_) | (have H2_ := (Option.bind_some _ _).symm.trans H; with_reducible exact H2_) | with_reducible exact H | (rw [hy245]; exact H) | exact H
  have Ny245 := Aside0.mk hy245
  clear hy245
  by_cases c3 : l0.length + y245.length < 140737488355328
  · rw [if_pos c3] at H
    have LMc3 := Aside0.mk c3
    clear c3
    obtain ⟨y248, hy248⟩ : ∃ y_ : List Int, y_ = (l0 ++ y245) := ⟨_, rfl⟩
    replace H : (some y248) = some r := by first | (rw [hy248]; with_reducible exact H) | (have H2_ := (Option.bind_some _ _).symm.trans H; rw [hy248]; with_reducible exact H2_) | (have H2_ := (Option.bind_some _ _).symm.trans H; with_reducible exact H2_) | with_reducible exact H | (rw [hy248]; exact H) | exact H
    have Ny248 := Aside0.mk hy248
    clear hy248
    obtain rfl := Option.some.inj H
    go_enter Tryz.func31, Tryz.ntmps31
    go_wp2_with (first | ((with_reducible refine gate_dst (N := 17) rfl ?_); refine Kd.R_lit (Kd.int .u8) _ 5 ?hg (N := 17) ?hd (xs := ([(a1) % 256, (a1 / 256) % 256, (a1 / 65536) % 256, (a1 / 16777216) % 256] : List Int)) (inner := [.int .u8 ((a1) % 256), .int .u8 ((a1 / 256) % 256), .int .u8 ((a1 / 65536) % 256), .int .u8 ((a1 / 16777216) % 256)]) (ok := fun _ => True) (okp := fun _ => True) ?hr ?hp (fun _ hk => hk) trivial (Below.refl _ _) (Nat.le_refl _) (by simp) ?_; (case hd => rfl); (case hg => rfl); (case hr => first | (go_simp; done) | (go_simp; rfl)); (case hp => exact (Reps.one (show Kd.M (Kd.int .u8) _ _ _ ((a1) % 256) [.int .u8 ((a1) % 256)] from rfl) (Reps.one (show Kd.M (Kd.int .u8) _ _ _ ((a1 / 256) % 256) [.int .u8 ((a1 / 256) % 256)] from rfl) (Reps.one (show Kd.M (Kd.int .u8) _ _ _ ((a1 / 65536) % 256) [.int .u8 ((a1 / 65536) % 256)] from rfl) (Reps.one (show Kd.M (Kd.int .u8) _ _ _ ((a1 / 16777216) % 256) [.int .u8 ((a1 / 16777216) % 256)] from rfl) (Reps.none _ _)))))); intro v246 w4 ho5 hb hg_ hnew_; clear hg_ hnew_; (first | rw [← Ny245.out] at ho5 | (simp only [Int.reduceToNat] at ho5; rw [← Ny245.out] at ho5)); have n0_ := Aside0.mk (Kd.R_elder' (by (with_reducible repeat (first | apply Kd.R_alloc | apply Kd.R_drewN | apply Kd.R_drew)); exact HO0.out) (Kd.R_base ho5) hb); have n1_ := Aside0.mk (Kd.R_lower (Kd.R_new' (Kd.R_newM (M := fun k_ => (P0_ k_ ∨ w.heap.size ≤ k_)) ho5 (by first | exact HK.out.1 | exact (show Kept w _ (fun k_ => P0_ k_) from by repeat (first | (with_reducible first | exact HK.out | apply Kept.alloc | apply Kept.drewN | apply Kept.drew) | exact HK.out)).1) (fun k_ h_ => .inr h_)) (Kd.R_lt (by (with_reducible repeat (first | apply Kd.R_alloc | apply Kd.R_drewN | apply Kd.R_drew)); exact HO0.out))) (below_size (by repeat (first | (with_reducible first | exact HB.out | apply below_alloc | apply pw_below_drewN | apply below_drew1) | exact HB.out)))); have n2_ := Aside0.mk (Kept.below (S := (fun k_ => P0_ k_)) (by repeat (first | (with_reducible first | exact HK.out | apply Kept.alloc | apply Kept.drewN | apply Kept.drew) | exact HK.out)) hb); have n3_ := Aside0.mk (below_step (by repeat (first | (with_reducible first | exact HB.out | apply below_alloc | apply pw_below_drewN | apply below_drew1) | exact HB.out)) hb); clear HO0; clear HK; clear HB; have HO0 := n0_; have HO247 := n1_; have HK := n2_; have HB := n3_; clear n0_ n1_ n2_ n3_; clear hb ho5; obtain ⟨Ao7, co7, eo7⟩ := Kd.R_slice HO247.out; subst eo7) | ((with_reducible refine gate_builtin (b := .append) (xs := #[.tmp 5, .tmp 17]) rfl ?_); at_builtin; refine Kd.R_append_rows (Kd.int .u8) (w0 := w0) w0.heap.size rfl (.tmp 5) (.tmp 17) 57 5 (.int .u8 0) 1 rfl Tryz.underlying57 info5 rfl (by decide) (by omega) u9000_ l0 y245 _ _ _ (fun k_ => (P0_ k_ ∨ w.heap.size ≤ k_) ∧ some k_ ≠ (.slice Ao7 y245.length co7 : Value).ownBlock) (fun _ => False) rfl rfl ?aO ?aR (fun _ _ h => h) (fun _ h => h.elim) ?aF ?aB ?aS ?aL ?_; (case aR => repeat (first | exact (Kd.R_reads' HO247.out).2.2 | (with_reducible refine Kd.C_alloc ?_ _) | (with_reducible refine Kd.C_drewN ?_ _) | (with_reducible refine Kd.C_drew ?_))); (case aB => exact (by repeat (first | (with_reducible first | exact HB.out | apply below_alloc | apply pw_below_drewN | apply below_drew1) | exact HB.out))); (case aF => exact (fun k_ hk => ⟨(.inr (Nat.le_trans (by first | exact HK.out.1 | exact (show Kept w _ (fun k_ => P0_ k_) from by repeat (first | (with_reducible first | exact HK.out | apply Kept.alloc | apply Kept.drewN | apply Kept.drew) | exact HK.out)).1) hk)), Kd.fresh' (Kd.R_lt (by (with_reducible repeat (first | apply Kd.R_alloc | apply Kd.R_drewN | apply Kd.R_drew)); exact HO247.out)) k_ hk⟩)); (case aO => exact (by (with_reducible repeat (first | apply Kd.R_alloc | apply Kd.R_drewN | apply Kd.R_drew)); exact HO0.out)); (case aS => exact (below_size (by repeat (first | (with_reducible first | exact HB.out | apply below_alloc | apply pw_below_drewN | apply below_drew1) | exact HB.out)))); (case aL => have := LMc3.out; omega); intro v249 w6 ho hb hg hat; rw [← Ny248.out] at ho; have n0_ := Aside0.mk (Kd.R_after (ok := (fun k_ => (P0_ k_ ∨ w.heap.size ≤ k_))) (by (with_reducible repeat (first | apply Kd.R_alloc | apply Kd.R_drewN | apply Kd.R_drew)); exact Kd.R_mono HO247.out (fun _ hk => ⟨hk.1.1, hk.2⟩)) hg hat); have n1_ := Aside0.mk (hb); have n2_ := Aside0.mk (Kept.of_grown (S := (fun k_ => P0_ k_)) hg (by repeat (first | (with_reducible first | exact HK.out | apply Kept.alloc | apply Kept.drewN | apply Kept.drew) | exact HK.out)) (fun k_ e_ => (HO0.out.1 k_ e_).1)); have n3_ := Aside0.mk (ho); clear HO247; clear HB; clear HK; clear HO0; have HO247 := n0_; have HB := n1_; have HK := n2_; have HO250 := n3_; clear n0_ n1_ n2_ n3_; clear ho hb hg hat))
    go_ret
    exact ⟨_, by first | rfl | (simp [errW_none, errW_some] <;> rfl) | (simp [*, errW_none, errW_some] <;> rfl), by (with_reducible repeat (first | apply Kd.R_alloc | apply Kd.R_drewN | apply Kd.R_drew)); exact Kd.R_mono HO250.out (fun _ hk => hk.1), by repeat (first | (with_reducible first | exact HB.out | apply below_alloc | apply pw_below_drewN | apply below_drew1) | exact HB.out), by repeat (first | (with_reducible first | exact HK.out | apply Kept.alloc | apply Kept.drewN | apply Kept.drew) | exact HK.out)⟩
  · rw [if_neg c3] at H
    exact absurd H (by simp)
open Go.Proofs.YtaonjmkfbfhanaaGreatDoor.G
def codec_Sum.f (l0 : List Int) : Option Int := if okB l0 = true then some (sumF l0) else none
theorem codec_Sum.calls (A0 : Option Addr) (c0 : Nat) (l0 : List Int) (r : Int) (w : World) (hr0 : Kd.C (Kd.int .u8) w A0 l0.length l0) (hc0 : l0.length ≤ c0) (h : codec_Sum.f l0 = some r) (hT_ : GT w) :
    Calls Tryz.prog 32 #[.slice A0 l0.length c0] w fun e w' => e = .returned (.int .u32 r) ∧ w' = w := by
  unfold codec_Sum.f at h
  split at h
  · rename_i hh
    rw [← Option.some.inj h]
    exact Go.Proofs.YtaonjmkfbfhanaaGreatDoor.G.sum_calls A0 c0 l0 w hr0 hc0 (okB_iff.1 hh) hT_
  · cases h
def screelaw9_same_p.l0 : Nat → List Int → List Int → Int → Option (Bool)
  | 0, _, _, _ => none
  | k + 1, x0, x1, x5 => if x5 < (x0.length : Int) then (if 0 ≤ x5 then (if x5 < (x1.length : Int) then (if (rd x0 x5) = (rd x1 x5) then (screelaw9_same_p.l0 k x0 x1 (wrap64 (x5 + 1))) else (some false)) else (none)) else (none)) else (some true)
def screelaw9_same_p.f (k : Nat) (l0 : List Int) (l1 : List Int) : Option (Bool) := if (l0.length : Int) = (l1.length : Int) then (screelaw9_same_p.l0 k l0 l1 0) else (some false)
theorem screelaw9_same_p.mono_l : ∀ k, (∀ y0 y1 y2, LeO (screelaw9_same_p.l0 k y0 y1 y2) (screelaw9_same_p.l0 (k + 1) y0 y1 y2))
  | 0 => fun _ _ _ r h => by simp [screelaw9_same_p.l0] at h
  | k + 1 => by
    have ih0 := screelaw9_same_p.mono_l k
    · intro y0 y1 y2
      unfold screelaw9_same_p.l0
      repeat' first
      | (with_reducible exact ih0 _ _ _)
      | (with_reducible exact LeO.refl _)
      | (with_reducible exact LeO.none _)
      | (with_reducible refine LeO.ite ?_ ?_)
      | (with_reducible refine LeO.bind ?_ (fun _ => ?_))
      | exact ih0 _ _ _
      | exact LeO.none _
      | refine LeO.ite ?_ ?_
      | refine LeO.bind ?_ (fun _ => ?_)
theorem screelaw9_same_p.mono : ∀ a0 a1 k, LeO (screelaw9_same_p.f k a0 a1) (screelaw9_same_p.f (k + 1) a0 a1) := by
  intro a0 a1 k
  have ih0 := screelaw9_same_p.mono_l k
  unfold screelaw9_same_p.f
  repeat' first
      | (with_reducible exact ih0 _ _ _)
      | (with_reducible exact LeO.refl _)
      | (with_reducible exact LeO.none _)
      | (with_reducible refine LeO.ite ?_ ?_)
      | (with_reducible refine LeO.bind ?_ (fun _ => ?_))
      | exact ih0 _ _ _
      | exact LeO.none _
      | refine LeO.ite ?_ ?_
      | refine LeO.bind ?_ (fun _ => ?_)
set_option maxHeartbeats 8000000 in
set_option maxRecDepth 100000 in
theorem screelaw9_same_p.calls (k : Nat) (A0 : Option Addr) (c0 : Nat) (l0 : List Int) (A1 : Option Addr) (c1 : Nat) (l1 : List Int) (r : Bool) (w : World) (hr0 : Kd.C (Kd.int .u8) w A0 l0.length l0) (hc0 : l0.length ≤ c0) (hr1 : Kd.C (Kd.int .u8) w A1 l1.length l1) (hc1 : l1.length ≤ c1) (h : screelaw9_same_p.f k l0 l1 = some r) :
    Calls Tryz.prog 13 #[.slice A0 l0.length c0, .slice A1 l1.length c1] w fun e w' => e = .returned (.bool r) ∧ Drawn0 w w' := by
  have HR0 := Aside0.mk hr0
  have HC0 := Aside0.mk hc0
  clear hr0 hc0
  have HR1 := Aside0.mk hr1
  have HC1 := Aside0.mk hc1
  clear hr1 hc1
  have H : (if (l0.length : Int) = (l1.length : Int) then (screelaw9_same_p.l0 k l0 l1 0) else (some false)) = some r := h
  clear h
  by_cases c3 : (l0.length : Int) = (l1.length : Int)
  · rw [if_pos c3] at H
    have c3b0 : ((l0.length : Int) == (l1.length : Int)) = true := beq_iff_eq.mpr c3
    have c3b1 : ((l0.length : Int) != (l1.length : Int)) = false := bne_eq_false_iff_eq.mpr c3
    have c3b2 : (l0.length == l1.length) = true := by first | simpa using c3 | (simp at c3 ⊢; omega)
    clear c3
    have H' := Aside0.mk H
    clear H
    go_enter Tryz.func13, Tryz.ntmps13
    go_wp2
    repeat (go_quiet (fail); try go_wp2)
    go_loopg [5] k (fun kq v5 w' => ∃ (x5_1 : Int), v5 = .int .i64 x5_1 ∧ Aside0 (screelaw9_same_p.l0 kq l0 l1 x5_1 = some r) ∧ Aside0 (kq ≤ k) ∧ Drawn0 w w')
    case atStart => exact ⟨(0), (by first | rfl | (simp; done) | (simp [*]; done)), H', ⟨Nat.le_refl _⟩, by repeat (first | exact Drawn0.refl _ | apply Drawn0.step)⟩
    case round =>
      clear H'
      try clear c1
      try clear p2
      try clear c3
      try clear c3b0
      try clear c3b1
      try clear c3b2
      obtain ⟨x5_1, rfl, HA, HK1, ⟨m1, rfl⟩⟩ := hrel
      cases gk with
      | zero => exact absurd HA.out (by simp [screelaw9_same_p.l0])
      | succ k1 =>
        have H := HA.out
        clear HA
        simp only [screelaw9_same_p.l0] at H
        by_cases c4 : x5_1 < (l0.length : Int)
        · rw [if_pos c4] at H
          have c4b0 : decide (x5_1 < (l0.length : Int)) = true := decide_eq_true c4
          clear c4
          by_cases c5 : 0 ≤ x5_1
          · rw [if_pos c5] at H
            have c5b0 : decide (0 ≤ x5_1) = true := decide_eq_true c5
            clear c5
            by_cases c6 : x5_1 < (l1.length : Int)
            · rw [if_pos c6] at H
              have c6b0 : decide (x5_1 < (l1.length : Int)) = true := decide_eq_true c6
              clear c6
              by_cases c7 : (rd l0 x5_1) = (rd l1 x5_1)
              · rw [if_pos c7] at H
                have c7b0 : ((rd l0 x5_1) == (rd l1 x5_1)) = true := beq_iff_eq.mpr c7
                have c7b1 : ((rd l0 x5_1) != (rd l1 x5_1)) = false := bne_eq_false_iff_eq.mpr c7
                clear c7
                have H' := Aside0.mk H
                clear H
                have p258 : 0 ≤ (x5_1 : Int) := of_decide_eq_true (by first | (with_reducible assumption) | assumption)
                have q258 : x5_1 < (l0.length : Int) := of_decide_eq_true (by first | (with_reducible assumption) | assumption)
                obtain ⟨ad258, e258, hx258_0⟩ := Kd.at_int HR0.out x5_1 p258 q258
                cases e258
                replace p258 := eq_true p258
                replace q258 := eq_true q258
                have p259 : 0 ≤ (x5_1 : Int) := of_decide_eq_true (by first | (with_reducible assumption) | assumption)
                have q259 : x5_1 < (l1.length : Int) := of_decide_eq_true (by first | (with_reducible assumption) | assumption)
                obtain ⟨ad259, e259, hx259_0⟩ := Kd.at_int HR1.out x5_1 p259 q259
                cases e259
                replace p259 := eq_true p259
                replace q259 := eq_true q259
                go_wp2
                repeat (go_quiet (fail); try go_wp2)
                go_roundg k1
                case measure => have := HK1.out; omega
                case rel => exact ⟨(wrap64 (x5_1 + 1)), (by first | rfl | (simp; done) | (simp [*]; done)), H', ⟨by have := HK1.out; omega⟩, by repeat (first | exact Drawn0.refl _ | apply Drawn0.step)⟩
              · rw [if_neg c7] at H
                have c7b0 : ((rd l0 x5_1) == (rd l1 x5_1)) = false := beq_eq_false_iff_ne.mpr c7
                have c7b1 : ((rd l0 x5_1) != (rd l1 x5_1)) = true := bne_iff_ne.mpr c7
                obtain rfl := Option.some.inj H
                have p258 : 0 ≤ (x5_1 : Int) := of_decide_eq_true (by first | (with_reducible assumption) | assumption)
                have q258 : x5_1 < (l0.length : Int) := of_decide_eq_true (by first | (with_reducible assumption) | assumption)
                obtain ⟨ad258, e258, hx258_0⟩ := Kd.at_int HR0.out x5_1 p258 q258
                cases e258
                replace p258 := eq_true p258
                replace q258 := eq_true q258
                have p259 : 0 ≤ (x5_1 : Int) := of_decide_eq_true (by first | (with_reducible assumption) | assumption)
                have q259 : x5_1 < (l1.length : Int) := of_decide_eq_true (by first | (with_reducible assumption) | assumption)
                obtain ⟨ad259, e259, hx259_0⟩ := Kd.at_int HR1.out x5_1 p259 q259
                cases e259
                replace p259 := eq_true p259
                replace q259 := eq_true q259
                go_wp2
                repeat (go_quiet (fail); try go_wp2)
                go_ret
                exact ⟨by first | rfl | (simp; done) | (simp [*]; done), by repeat (first | exact Drawn0.refl _ | apply Drawn0.step)⟩
            · rw [if_neg c6] at H
              exact absurd H (by simp)
          · rw [if_neg c5] at H
            exact absurd H (by simp)
        · rw [if_neg c4] at H
          have c4b0 : decide (x5_1 < (l0.length : Int)) = false := decide_eq_false c4
          clear c4
          obtain rfl := Option.some.inj H
          go_wp2
          repeat (go_quiet (fail); try go_wp2)
          go_ret
          exact ⟨by first | rfl | (simp; done) | (simp [*]; done), by repeat (first | exact Drawn0.refl _ | apply Drawn0.step)⟩
  · rw [if_neg c3] at H
    have c3b0 : ((l0.length : Int) == (l1.length : Int)) = false := beq_eq_false_iff_ne.mpr c3
    have c3b1 : ((l0.length : Int) != (l1.length : Int)) = true := bne_iff_ne.mpr c3
    have c3b2 : (l0.length == l1.length) = false := by first | simpa using c3 | (simp at c3 ⊢; omega)
    obtain rfl := Option.some.inj H
    go_enter Tryz.func13, Tryz.ntmps13
    go_wp2
    repeat (go_quiet (fail); try go_wp2)
    go_ret
    exact ⟨by first | rfl | (simp; done) | (simp [*]; done), by repeat (first | exact Drawn0.refl _ | apply Drawn0.step)⟩
theorem screelaw9_same_ev (l1 l2 : List Int) (hlen : l1.length = l2.length) (hm : l1.length ≤ 9223372036854775807) (d : Nat) : ∀ i : Nat, i + d = l1.length → Ev (fun k => screelaw9_same_p.l0 k l1 l2 (i : Int)) (decide (l1.drop i = l2.drop i)) := by
  induction d with
  | zero =>
    intro i hi
    refine Ev.step (f := fun _ => some true) (fun k => ?_) (by rw [List.drop_of_length_le (by omega), List.drop_of_length_le (by omega)]; exact Ev.now _)
    simp only [screelaw9_same_p.l0]
    rw [if_neg (by omega)]
  | succ d ih =>
    intro i hi
    have h1 : i < l1.length := by omega
    have h2 : i < l2.length := by omega
    have e1 : rd l1 (i : Int) = l1[i] := by simp [rd, List.getD_eq_getElem?_getD, h1]
    have e2 : rd l2 (i : Int) = l2[i] := by simp [rd, List.getD_eq_getElem?_getD, h2]
    rw [List.drop_eq_getElem_cons h1, List.drop_eq_getElem_cons h2]
    by_cases h : l1[i] = l2[i]
    · have hd : decide (l1[i] :: l1.drop (i + 1) = l2[i] :: l2.drop (i + 1)) = decide (l1.drop (i + 1) = l2.drop (i + 1)) := decide_eq_decide.2 ⟨fun e => (List.cons.inj e).2, fun e => by rw [h, e]⟩
      rw [hd]
      refine Ev.step (fun k => ?_) (ih (i + 1) (by omega))
      simp only [screelaw9_same_p.l0]
      rw [if_pos (by omega), if_pos (by omega), if_pos (by omega), e1, e2, if_pos h, show wrap64 ((i : Int) + 1) = ((i + 1 : Nat) : Int) by unfold wrap64; omega]
    · have hd : decide (l1[i] :: l1.drop (i + 1) = l2[i] :: l2.drop (i + 1)) = false := decide_eq_false (fun e => h (List.cons.inj e).1)
      rw [hd]
      refine Ev.step (f := fun _ => some false) (fun k => ?_) (Ev.now _)
      simp only [screelaw9_same_p.l0]
      rw [if_pos (by omega), if_pos (by omega), if_pos (by omega), e1, e2, if_neg h]
def screelaw9_same.f (l0 : List Int) (l1 : List Int) : Option (Bool) := if l0.length ≤ 9223372036854775807 then some (decide (l0 = l1)) else none
theorem screelaw9_same.calls (A0 : Option Addr) (c0 : Nat) (l0 : List Int) (A1 : Option Addr) (c1 : Nat) (l1 : List Int) (r : Bool) (w : World) (hr0 : Kd.C (Kd.int .u8) w A0 l0.length l0) (hc0 : l0.length ≤ c0) (hr1 : Kd.C (Kd.int .u8) w A1 l1.length l1) (hc1 : l1.length ≤ c1) (h : screelaw9_same.f l0 l1 = some r) :
    Calls Tryz.prog 13 #[.slice A0 l0.length c0, .slice A1 l1.length c1] w fun e w' => e = .returned (.bool r) ∧ Drawn0 w w' := by
  unfold screelaw9_same.f at h
  split at h
  · rename_i hh
    by_cases hlen : l0.length = l1.length
    · obtain ⟨k, hk⟩ := (screelaw9_same_ev l0 l1 hlen hh l0.length 0 (by omega)).rounds
      refine screelaw9_same_p.calls k A0 c0 l0 A1 c1 l1 r w hr0 hc0 hr1 hc1 ?_
      unfold screelaw9_same_p.f
      rw [if_pos (by omega)]
      rw [← h]
      exact hk
    · refine screelaw9_same_p.calls 0 A0 c0 l0 A1 c1 l1 r w hr0 hc0 hr1 hc1 ?_
      unfold screelaw9_same_p.f
      rw [if_neg (by omega), ← h]
      have : ¬ l0 = l1 := fun e => hlen (by rw [e])
      simp [this]
  · cases h
def screekept_sameBytes.l0 : Nat → List Int → List Int → Int → Option (Bool)
  | 0, _, _, _ => none
  | k + 1, x0, x1, x5 => if x5 < (x0.length : Int) then (if 0 ≤ x5 then (if x5 < (x1.length : Int) then (if (rd x0 x5) = (rd x1 x5) then (screekept_sameBytes.l0 k x0 x1 (wrap64 (x5 + 1))) else (some false)) else (none)) else (none)) else (some true)
def screekept_sameBytes.f (k : Nat) (l0 : List Int) (l1 : List Int) : Option (Bool) := if (l0.length : Int) = (l1.length : Int) then (screekept_sameBytes.l0 k l0 l1 0) else (some false)
theorem screekept_sameBytes.mono_l : ∀ k, (∀ y0 y1 y2, LeO (screekept_sameBytes.l0 k y0 y1 y2) (screekept_sameBytes.l0 (k + 1) y0 y1 y2))
  | 0 => fun _ _ _ r h => by simp [screekept_sameBytes.l0] at h
  | k + 1 => by
    have ih0 := screekept_sameBytes.mono_l k
    · intro y0 y1 y2
      unfold screekept_sameBytes.l0
      repeat' first
      | (with_reducible exact ih0 _ _ _)
      | (with_reducible exact LeO.refl _)
      | (with_reducible exact LeO.none _)
      | (with_reducible refine LeO.ite ?_ ?_)
      | (with_reducible refine LeO.bind ?_ (fun _ => ?_))
      | exact ih0 _ _ _
      | exact LeO.none _
      | refine LeO.ite ?_ ?_
      | refine LeO.bind ?_ (fun _ => ?_)
theorem screekept_sameBytes.mono : ∀ a0 a1 k, LeO (screekept_sameBytes.f k a0 a1) (screekept_sameBytes.f (k + 1) a0 a1) := by
  intro a0 a1 k
  have ih0 := screekept_sameBytes.mono_l k
  unfold screekept_sameBytes.f
  repeat' first
      | (with_reducible exact ih0 _ _ _)
      | (with_reducible exact LeO.refl _)
      | (with_reducible exact LeO.none _)
      | (with_reducible refine LeO.ite ?_ ?_)
      | (with_reducible refine LeO.bind ?_ (fun _ => ?_))
      | exact ih0 _ _ _
      | exact LeO.none _
      | refine LeO.ite ?_ ?_
      | refine LeO.bind ?_ (fun _ => ?_)
set_option maxHeartbeats 8000000 in
set_option maxRecDepth 100000 in
theorem screekept_sameBytes.calls (k : Nat) (A0 : Option Addr) (c0 : Nat) (l0 : List Int) (A1 : Option Addr) (c1 : Nat) (l1 : List Int) (r : Bool) (w : World) (hr0 : Kd.C (Kd.int .u8) w A0 l0.length l0) (hc0 : l0.length ≤ c0) (hr1 : Kd.C (Kd.int .u8) w A1 l1.length l1) (hc1 : l1.length ≤ c1) (h : screekept_sameBytes.f k l0 l1 = some r) :
    Calls Tryz.prog 69 #[.slice A0 l0.length c0, .slice A1 l1.length c1] w fun e w' => e = .returned (.bool r) ∧ Drawn0 w w' := by
  have HR0 := Aside0.mk hr0
  have HC0 := Aside0.mk hc0
  clear hr0 hc0
  have HR1 := Aside0.mk hr1
  have HC1 := Aside0.mk hc1
  clear hr1 hc1
  have H : (if (l0.length : Int) = (l1.length : Int) then (screekept_sameBytes.l0 k l0 l1 0) else (some false)) = some r := h
  clear h
  by_cases c3 : (l0.length : Int) = (l1.length : Int)
  · rw [if_pos c3] at H
    have c3b0 : ((l0.length : Int) == (l1.length : Int)) = true := beq_iff_eq.mpr c3
    have c3b1 : ((l0.length : Int) != (l1.length : Int)) = false := bne_eq_false_iff_eq.mpr c3
    have c3b2 : (l0.length == l1.length) = true := by first | simpa using c3 | (simp at c3 ⊢; omega)
    clear c3
    have H' := Aside0.mk H
    clear H
    go_enter Tryz.func69, Tryz.ntmps69
    go_wp2
    go_loopg [5] k (fun kq v5 w' => ∃ (x5_1 : Int), v5 = .int .i64 x5_1 ∧ Aside0 (screekept_sameBytes.l0 kq l0 l1 x5_1 = some r) ∧ Aside0 (kq ≤ k) ∧ Drawn0 w w')
    case atStart => exact ⟨(0), (by first | rfl | (simp; done) | (simp [*]; done)), H', ⟨Nat.le_refl _⟩, by repeat (first | exact Drawn0.refl _ | apply Drawn0.step)⟩
    case round =>
      clear H'
      try clear c1
      try clear p2
      try clear c3
      try clear c3b0
      try clear c3b1
      try clear c3b2
      obtain ⟨x5_1, rfl, HA, HK1, ⟨m1, rfl⟩⟩ := hrel
      cases gk with
      | zero => exact absurd HA.out (by simp [screekept_sameBytes.l0])
      | succ k1 =>
        have H := HA.out
        clear HA
        simp only [screekept_sameBytes.l0] at H
        by_cases c4 : x5_1 < (l0.length : Int)
        · rw [if_pos c4] at H
          have c4b0 : decide (x5_1 < (l0.length : Int)) = true := decide_eq_true c4
          clear c4
          by_cases c5 : 0 ≤ x5_1
          · rw [if_pos c5] at H
            have c5b0 : decide (0 ≤ x5_1) = true := decide_eq_true c5
            clear c5
            by_cases c6 : x5_1 < (l1.length : Int)
            · rw [if_pos c6] at H
              have c6b0 : decide (x5_1 < (l1.length : Int)) = true := decide_eq_true c6
              clear c6
              by_cases c7 : (rd l0 x5_1) = (rd l1 x5_1)
              · rw [if_pos c7] at H
                have c7b0 : ((rd l0 x5_1) == (rd l1 x5_1)) = true := beq_iff_eq.mpr c7
                have c7b1 : ((rd l0 x5_1) != (rd l1 x5_1)) = false := bne_eq_false_iff_eq.mpr c7
                clear c7
                have H' := Aside0.mk H
                clear H
                have p260 : 0 ≤ (x5_1 : Int) := of_decide_eq_true (by first | (with_reducible assumption) | assumption)
                have q260 : x5_1 < (l0.length : Int) := of_decide_eq_true (by first | (with_reducible assumption) | assumption)
                obtain ⟨ad260, e260, hx260_0⟩ := Kd.at_int HR0.out x5_1 p260 q260
                cases e260
                replace p260 := eq_true p260
                replace q260 := eq_true q260
                have p261 : 0 ≤ (x5_1 : Int) := of_decide_eq_true (by first | (with_reducible assumption) | assumption)
                have q261 : x5_1 < (l1.length : Int) := of_decide_eq_true (by first | (with_reducible assumption) | assumption)
                obtain ⟨ad261, e261, hx261_0⟩ := Kd.at_int HR1.out x5_1 p261 q261
                cases e261
                replace p261 := eq_true p261
                replace q261 := eq_true q261
                go_wp2
                go_roundg k1
                case measure => have := HK1.out; omega
                case rel => exact ⟨(wrap64 (x5_1 + 1)), (by first | rfl | (simp; done) | (simp [*]; done)), H', ⟨by have := HK1.out; omega⟩, by repeat (first | exact Drawn0.refl _ | apply Drawn0.step)⟩
              · rw [if_neg c7] at H
                have c7b0 : ((rd l0 x5_1) == (rd l1 x5_1)) = false := beq_eq_false_iff_ne.mpr c7
                have c7b1 : ((rd l0 x5_1) != (rd l1 x5_1)) = true := bne_iff_ne.mpr c7
                obtain rfl := Option.some.inj H
                have p260 : 0 ≤ (x5_1 : Int) := of_decide_eq_true (by first | (with_reducible assumption) | assumption)
                have q260 : x5_1 < (l0.length : Int) := of_decide_eq_true (by first | (with_reducible assumption) | assumption)
                obtain ⟨ad260, e260, hx260_0⟩ := Kd.at_int HR0.out x5_1 p260 q260
                cases e260
                replace p260 := eq_true p260
                replace q260 := eq_true q260
                have p261 : 0 ≤ (x5_1 : Int) := of_decide_eq_true (by first | (with_reducible assumption) | assumption)
                have q261 : x5_1 < (l1.length : Int) := of_decide_eq_true (by first | (with_reducible assumption) | assumption)
                obtain ⟨ad261, e261, hx261_0⟩ := Kd.at_int HR1.out x5_1 p261 q261
                cases e261
                replace p261 := eq_true p261
                replace q261 := eq_true q261
                go_wp2
                go_ret
                exact ⟨by first | rfl | (simp; done) | (simp [*]; done), by repeat (first | exact Drawn0.refl _ | apply Drawn0.step)⟩
            · rw [if_neg c6] at H
              exact absurd H (by simp)
          · rw [if_neg c5] at H
            exact absurd H (by simp)
        · rw [if_neg c4] at H
          have c4b0 : decide (x5_1 < (l0.length : Int)) = false := decide_eq_false c4
          clear c4
          obtain rfl := Option.some.inj H
          go_wp2
          go_ret
          exact ⟨by first | rfl | (simp; done) | (simp [*]; done), by repeat (first | exact Drawn0.refl _ | apply Drawn0.step)⟩
  · rw [if_neg c3] at H
    have c3b0 : ((l0.length : Int) == (l1.length : Int)) = false := beq_eq_false_iff_ne.mpr c3
    have c3b1 : ((l0.length : Int) != (l1.length : Int)) = true := bne_iff_ne.mpr c3
    have c3b2 : (l0.length == l1.length) = false := by first | simpa using c3 | (simp at c3 ⊢; omega)
    obtain rfl := Option.some.inj H
    go_enter Tryz.func69, Tryz.ntmps69
    go_wp2
    go_ret
    exact ⟨by first | rfl | (simp; done) | (simp [*]; done), by repeat (first | exact Drawn0.refl _ | apply Drawn0.step)⟩
end Go.Proofs.YtaonjmkfbfhanaaGreatDoor.QBo
namespace Go.Proofs.YtaonjmkfbfhanaaGreatDoor.QBo
open Go.Proofs.YtaonjmkfbfhanaaGreatDoor.Own
open Go.RowKit Go.Proofs.YtaonjmkfbfhanaaGreatDoorW.PrintWords Go.Proofs.YtaonjmkfbfhanaaGreatDoorW.PrintLast Go.Proofs.YtaonjmkfbfhanaaGreatDoorW.PrintMore
attribute [local go_sem] max2_int min2_int max_two min_two max_three min_three max_four min_four   -- for this text's walks alone
set_option linter.unusedVariables false
set_option linter.unusedSimpArgs false
theorem eqA53 (d : Nat) (w : World) (x0 y0 : ByteArray) (x1 y1 : Int) (x2 y2 : Bool) (x3 y3 : ByteArray) :
    (Op.equalIn (d + 2) 53 (.agg #[.string x0, .int .u64 x1, .bool x2, .string x3]) (.agg #[.string y0, .int .u64 y1, .bool y2, .string y3])).run Tryz.prog w = .ok (x0.toList == y0.toList && (x1 == y1 && (x2 == y2 && (x3.toList == y3.toList)))) w := by
  refine eqA_of Tryz.underlying53 (by kernel_rfl) ?_
  refine eqf_cons (by rfl) (by go_simp; rfl) (by go_simp; rfl) (by go_simp) ?_
  refine eqf_cons (by rfl) (by go_simp; rfl) (by go_simp; rfl) (by go_simp) ?_
  refine eqf_cons (by rfl) (by go_simp; rfl) (by go_simp; rfl) (by go_simp) ?_
  exact eqf_last (by rfl) (by go_simp; rfl) (by go_simp; rfl) (by go_simp)
end Go.Proofs.YtaonjmkfbfhanaaGreatDoor.QBo
namespace Go.Proofs.YtaonjmkfbfhanaaGreatDoor.QBo
open Go.Proofs.YtaonjmkfbfhanaaGreatDoor.Own
open Go.RowKit Go.Proofs.YtaonjmkfbfhanaaGreatDoorW.PrintWords Go.Proofs.YtaonjmkfbfhanaaGreatDoorW.PrintLast Go.Proofs.YtaonjmkfbfhanaaGreatDoorW.PrintMore
attribute [local go_sem] max2_int min2_int max_two min_two max_three min_three max_four min_four   -- for this text's walks alone
set_option linter.unusedVariables false
set_option linter.unusedSimpArgs false
attribute [local go_sem high] eqA53
def block_word.f (l0 : List Int) : Option (Int) := if 0 < (l0.length : Int) then (if 1 < (l0.length : Int) then (if 2 < (l0.length : Int) then (if 3 < (l0.length : Int) then (some (Go.bits .or .i64 (Go.bits .or .i64 (Go.bits .or .i64 (wrap64 (rd l0 0)) (wrap64 ((wrap64 (rd l0 1)) * 256))) (wrap64 ((wrap64 (rd l0 2)) * 65536))) (wrap64 ((wrap64 (rd l0 3)) * 16777216)))) else (none)) else (none)) else (none)) else (none)
set_option maxHeartbeats 8000000 in
set_option maxRecDepth 100000 in
theorem block_word.calls (A0 : Option Addr) (c0 : Nat) (l0 : List Int) (r : Int) (w : World) (hr0 : Kd.C (Kd.int .u8) w A0 l0.length l0) (hc0 : l0.length ≤ c0) (h : block_word.f l0 = some r) :
    Calls Tryz.prog 88 #[.slice A0 l0.length c0] w fun e w' => e = .returned (.int .i64 r) ∧ Drawn0 w w' := by
  have HR0 := Aside0.mk hr0
  have HC0 := Aside0.mk hc0
  clear hr0 hc0
  have H : (if 0 < (l0.length : Int) then (if 1 < (l0.length : Int) then (if 2 < (l0.length : Int) then (if 3 < (l0.length : Int) then (some (Go.bits .or .i64 (Go.bits .or .i64 (Go.bits .or .i64 (wrap64 (rd l0 0)) (wrap64 ((wrap64 (rd l0 1)) * 256))) (wrap64 ((wrap64 (rd l0 2)) * 65536))) (wrap64 ((wrap64 (rd l0 3)) * 16777216)))) else (none)) else (none)) else (none)) else (none)) = some r := h
  clear h
  by_cases c2 : 0 < (l0.length : Int)
  · rw [if_pos c2] at H
    have c2b0 : decide (0 < (l0.length : Int)) = true := decide_eq_true c2
    have c2b1 : decide (0 < l0.length) = true := decide_eq_true (by omega)
    clear c2
    by_cases c3 : 1 < (l0.length : Int)
    · rw [if_pos c3] at H
      have c3b0 : decide (1 < (l0.length : Int)) = true := decide_eq_true c3
      have c3b1 : decide (1 < l0.length) = true := decide_eq_true (by omega)
      clear c3
      by_cases c4 : 2 < (l0.length : Int)
      · rw [if_pos c4] at H
        have c4b0 : decide (2 < (l0.length : Int)) = true := decide_eq_true c4
        have c4b1 : decide (2 < l0.length) = true := decide_eq_true (by omega)
        clear c4
        by_cases c5 : 3 < (l0.length : Int)
        · rw [if_pos c5] at H
          have c5b0 : decide (3 < (l0.length : Int)) = true := decide_eq_true c5
          have c5b1 : decide (3 < l0.length) = true := decide_eq_true (by omega)
          clear c5
          obtain rfl := Option.some.inj H
          have p472 : 0 ≤ (0 : Int) := (by omega)
          have q472 : 0 < (l0.length : Int) := of_decide_eq_true (by first | (with_reducible assumption) | assumption)
          obtain ⟨ad472, e472, hx472_0⟩ := Kd.at_int HR0.out 0 p472 q472
          cases e472
          have qi472 : (0 < l0.length) = True := eq_true (by omega)
          (try rw [show ((0 : Int)).toNat = 0 from rfl] at hx472_0)
          (try rw [Addr.add_zero'] at hx472_0)
          replace p472 := eq_true p472
          replace q472 := eq_true q472
          have p473 : 0 ≤ (1 : Int) := (by omega)
          have q473 : 1 < (l0.length : Int) := of_decide_eq_true (by first | (with_reducible assumption) | assumption)
          obtain ⟨ad473, e473, hx473_0⟩ := Kd.at_int HR0.out 1 p473 q473
          obtain rfl : ad472 = ad473 := (by injection e473)
          (try simp only [show (1 : Int).toNat = 1 from rfl, Nat.reduceMul, Nat.reduceEqDiff, Go.Addr.add, ↓reduceIte] at hx473_0)
          have qi473 : (1 < l0.length) = True := eq_true (by omega)
          (try rw [show ((1 : Int)).toNat = 1 from rfl] at hx473_0)
          replace p473 := eq_true p473
          replace q473 := eq_true q473
          have p474 : 0 ≤ (2 : Int) := (by omega)
          have q474 : 2 < (l0.length : Int) := of_decide_eq_true (by first | (with_reducible assumption) | assumption)
          obtain ⟨ad474, e474, hx474_0⟩ := Kd.at_int HR0.out 2 p474 q474
          obtain rfl : ad472 = ad474 := (by injection e474)
          (try simp only [show (2 : Int).toNat = 2 from rfl, Nat.reduceMul, Nat.reduceEqDiff, Go.Addr.add, ↓reduceIte] at hx474_0)
          have qi474 : (2 < l0.length) = True := eq_true (by omega)
          (try rw [show ((2 : Int)).toNat = 2 from rfl] at hx474_0)
          replace p474 := eq_true p474
          replace q474 := eq_true q474
          have p475 : 0 ≤ (3 : Int) := (by omega)
          have q475 : 3 < (l0.length : Int) := of_decide_eq_true (by first | (with_reducible assumption) | assumption)
          obtain ⟨ad475, e475, hx475_0⟩ := Kd.at_int HR0.out 3 p475 q475
          obtain rfl : ad472 = ad475 := (by injection e475)
          (try simp only [show (3 : Int).toNat = 3 from rfl, Nat.reduceMul, Nat.reduceEqDiff, Go.Addr.add, ↓reduceIte] at hx475_0)
          have qi475 : (3 < l0.length) = True := eq_true (by omega)
          (try rw [show ((3 : Int)).toNat = 3 from rfl] at hx475_0)
          replace p475 := eq_true p475
          replace q475 := eq_true q475
          go_enter Tryz.func88, Tryz.ntmps88
          go_wp2
          repeat (go_quiet (fail); try go_wp2)
          go_ret
          exact ⟨by first | rfl | (simp; done) | (simp [*]; done), by repeat (first | exact Drawn0.refl _ | apply Drawn0.step)⟩
        · rw [if_neg c5] at H
          exact absurd H (by simp)
      · rw [if_neg c4] at H
        exact absurd H (by simp)
    · rw [if_neg c3] at H
      exact absurd H (by simp)
  · rw [if_neg c2] at H
    exact absurd H (by simp)
mutual
def codec_Uint_p.l0 : Nat → Int → List Int → Int → Int → Option (Int × Int × Int)
  | 0, _, _, _, _ => none
  | k + 1, x5, x8, x9, x10 => if x10 < x9 then (if 0 ≤ x10 then (if x10 < (x8.length : Int) then (if (rd x8 x10) = 0 then (if x10 > 0 then (codec_Uint_p.j1 k x5 x10 (rd x8 x10) x8 x9 x10 true) else (if x10 = 9 then (codec_Uint_p.j1 k x5 x10 (rd x8 x10) x8 x9 x10 ((rd x8 x10) != 1)) else (codec_Uint_p.j1 k x5 x10 (rd x8 x10) x8 x9 x10 false))) else (if x10 = 9 then (codec_Uint_p.j1 k x5 x10 (rd x8 x10) x8 x9 x10 ((rd x8 x10) != 1)) else (codec_Uint_p.j1 k x5 x10 (rd x8 x10) x8 x9 x10 false))) else (none)) else (none)) else (some (0, 0, 20))
def codec_Uint_p.j1 : Nat → Int → Int → Int → List Int → Int → Int → Bool → Option (Int × Int × Int)
  | 0, _, _, _, _, _, _, _ => none
  | k + 1, x5, x6, x7, x8, x9, x10, x28 => if x28 = true then (some (0, 0, 21)) else (if 0 ≤ (wrap64 (7 * x6)) then (if x7 < 128 then (some (Go.bits .or .u64 x5 (shl .u64 (IntKind.u64.wrap (Go.bits .and .u8 x7 127)) (wrap64 (7 * x6))), wrap64 (x6 + 1), 0)) else (codec_Uint_p.l0 k (Go.bits .or .u64 x5 (shl .u64 (IntKind.u64.wrap (Go.bits .and .u8 x7 127)) (wrap64 (7 * x6)))) x8 x9 (wrap64 (x10 + 1)))) else (none))
end
def codec_Uint_p.f (k : Nat) (l0 : List Int) : Option (Int × Int × Int) := codec_Uint_p.l0 k 0 l0 (l0.length : Int) 0
theorem codec_Uint_p.mono_l : ∀ k, (∀ y0 y1 y2 y3, LeO (codec_Uint_p.l0 k y0 y1 y2 y3) (codec_Uint_p.l0 (k + 1) y0 y1 y2 y3)) ∧ (∀ y0 y1 y2 y3 y4 y5 y6, LeO (codec_Uint_p.j1 k y0 y1 y2 y3 y4 y5 y6) (codec_Uint_p.j1 (k + 1) y0 y1 y2 y3 y4 y5 y6))
  | 0 => ⟨fun _ _ _ _ r h => by simp [codec_Uint_p.l0] at h, fun _ _ _ _ _ _ _ r h => by simp [codec_Uint_p.j1] at h⟩
  | k + 1 => by
    obtain ⟨ih0, ih1⟩ := codec_Uint_p.mono_l k
    refine ⟨?_, ?_⟩
    · intro y0 y1 y2 y3
      unfold codec_Uint_p.l0
      repeat' first
      | (with_reducible exact ih0 _ _ _ _)
      | (with_reducible exact ih1 _ _ _ _ _ _ _)
      | (with_reducible exact LeO.refl _)
      | (with_reducible exact LeO.none _)
      | (with_reducible refine LeO.ite ?_ ?_)
      | (with_reducible refine LeO.bind ?_ (fun _ => ?_))
      | exact ih0 _ _ _ _
      | exact ih1 _ _ _ _ _ _ _
      | exact LeO.none _
      | refine LeO.ite ?_ ?_
      | refine LeO.bind ?_ (fun _ => ?_)
    · intro y0 y1 y2 y3 y4 y5 y6
      unfold codec_Uint_p.j1
      repeat' first
      | (with_reducible exact ih0 _ _ _ _)
      | (with_reducible exact ih1 _ _ _ _ _ _ _)
      | (with_reducible exact LeO.refl _)
      | (with_reducible exact LeO.none _)
      | (with_reducible refine LeO.ite ?_ ?_)
      | (with_reducible refine LeO.bind ?_ (fun _ => ?_))
      | exact ih0 _ _ _ _
      | exact ih1 _ _ _ _ _ _ _
      | exact LeO.none _
      | refine LeO.ite ?_ ?_
      | refine LeO.bind ?_ (fun _ => ?_)
theorem codec_Uint_p.mono : ∀ a0 k, LeO (codec_Uint_p.f k a0) (codec_Uint_p.f (k + 1) a0) := by
  intro a0 k
  obtain ⟨ih0, ih1⟩ := codec_Uint_p.mono_l k
  unfold codec_Uint_p.f
  repeat' first
      | (with_reducible exact ih0 _ _ _ _)
      | (with_reducible exact ih1 _ _ _ _ _ _ _)
      | (with_reducible exact LeO.refl _)
      | (with_reducible exact LeO.none _)
      | (with_reducible refine LeO.ite ?_ ?_)
      | (with_reducible refine LeO.bind ?_ (fun _ => ?_))
      | exact ih0 _ _ _ _
      | exact ih1 _ _ _ _ _ _ _
      | exact LeO.none _
      | refine LeO.ite ?_ ?_
      | refine LeO.bind ?_ (fun _ => ?_)
set_option maxHeartbeats 8000000 in
set_option maxRecDepth 100000 in
theorem codec_Uint_p.calls (k : Nat) (A0 : Option Addr) (c0 : Nat) (l0 : List Int) (r1 : Int) (r2 : Int) (r3 : Int) (w : World) (hr0 : Kd.C (Kd.int .u8) w A0 l0.length l0) (hc0 : l0.length ≤ c0) (h : codec_Uint_p.f k l0 = some (r1, r2, r3)) :
    Calls Tryz.prog 134 #[.slice A0 l0.length c0] w fun e w' => e = .returned (.tuple #[.int .u64 r1, .int .i64 r2, .int .i64 r3]) ∧ Drawn0 w w' := by
  have HR0 := Aside0.mk hr0
  have HC0 := Aside0.mk hc0
  clear hr0 hc0
  have H : (codec_Uint_p.l0 k 0 l0 (l0.length : Int) 0) = some (r1, r2, r3) := h
  clear h
  have H' := Aside0.mk H
  clear H
  go_enter Tryz.func134, Tryz.ntmps134
  go_wp2
  go_loopg [5, 10] k (fun kq v5 v10 w' => ∃ (x5_1 : Int) (x10_1 : Int), v5 = .int .u64 x5_1 ∧ v10 = .int .i64 x10_1 ∧ Aside0 (codec_Uint_p.l0 kq x5_1 l0 (l0.length : Int) x10_1 = some (r1, r2, r3)) ∧ Aside0 (kq ≤ k) ∧ Drawn0 w w')
  case atStart => exact ⟨(0), (0), (by first | rfl | (simp; done) | (simp [*]; done)), (by first | rfl | (simp; done) | (simp [*]; done)), H', ⟨Nat.le_refl _⟩, by repeat (first | exact Drawn0.refl _ | apply Drawn0.step)⟩
  case round =>
    clear H'
    try clear c1
    obtain ⟨x5_1, x10_1, rfl, rfl, HA, HK1, ⟨m1, rfl⟩⟩ := hrel
    cases gk with
    | zero => exact absurd HA.out (by simp [codec_Uint_p.l0])
    | succ k1 =>
      have H := HA.out
      clear HA
      simp only [codec_Uint_p.l0] at H
      by_cases c2 : x10_1 < (l0.length : Int)
      · rw [if_pos c2] at H
        have c2b0 : decide (x10_1 < (l0.length : Int)) = true := decide_eq_true c2
        clear c2
        by_cases c3 : 0 ≤ x10_1
        · rw [if_pos c3] at H
          have c3b0 : decide (0 ≤ x10_1) = true := decide_eq_true c3
          clear c3
          by_cases c4 : x10_1 < (l0.length : Int)
          · rw [if_pos c4] at H
            have c4b0 : decide (x10_1 < (l0.length : Int)) = true := decide_eq_true c4
            clear c4
            have HC5 := Aside0.mk H
            clear H
            have p476 : 0 ≤ (x10_1 : Int) := of_decide_eq_true (by first | (with_reducible assumption) | assumption)
            have q476 : x10_1 < (l0.length : Int) := of_decide_eq_true (by first | (with_reducible assumption) | assumption)
            obtain ⟨ad476, e476, hx476_0⟩ := Kd.at_int HR0.out x10_1 p476 q476
            cases e476
            replace p476 := eq_true p476
            replace q476 := eq_true q476
            go_upto_region 5 with (fail)
            (try (obtain ⟨tb1_, hTB1_⟩ : ∃ tb_ : Bool, (((rd l0 x10_1) == 0)) = tb_ := ⟨_, rfl⟩; simp only [hTB1_]; have TB1_ := Aside0.mk hTB1_; clear hTB1_))
            go_cut [28] (fun v28 wc => ∃ (kq : Nat) (x28_4 : Bool), v28 = .bool x28_4 ∧ Aside0 (codec_Uint_p.j1 kq x5_1 x10_1 (rd l0 x10_1) l0 (l0.length : Int) x10_1 x28_4 = some (r1, r2, r3)) ∧ Aside0 (kq ≤ k1) ∧ Drawn0 w wc)
            case first =>
              have H := HC5.out
              clear HC5
              by_cases c6 : (rd l0 x10_1) = 0
              · rw [if_pos c6] at H
                have c6b0 : ((rd l0 x10_1) == 0) = true := beq_iff_eq.mpr c6
                (try (obtain rfl := TB1_.out.symm.trans c6b0))
                have c6b1 : ((rd l0 x10_1) != 0) = false := bne_eq_false_iff_eq.mpr c6
                clear c6
                (first | rw [c6b0] | (simp only [i64_w, i32_w]; rw [c6b0]) | skip)
                by_cases c7 : x10_1 > 0
                · rw [if_pos c7] at H
                  have c7b0 : decide (0 < x10_1) = true := decide_eq_true c7
                  clear c7
                  have H' := Aside0.mk H
                  clear H
                  go_wp2
                  go_meet
                  case rel => exact ⟨_, (true), (by first | rfl | (simp; done) | (simp [*]; done)), H', ⟨by have := HK1.out; first | omega | exact Nat.le_refl _⟩, by repeat (first | exact Drawn0.refl _ | apply Drawn0.step)⟩
                · rw [if_neg c7] at H
                  have c7b0 : decide (0 < x10_1) = false := decide_eq_false c7
                  clear c7
                  by_cases c8 : x10_1 = 9
                  · rw [if_pos c8] at H
                    have c8b0 : (x10_1 == 9) = true := beq_iff_eq.mpr c8
                    have c8b1 : (x10_1 != 9) = false := bne_eq_false_iff_eq.mpr c8
                    clear c8
                    have H' := Aside0.mk H
                    clear H
                    go_wp2
                    go_meet
                    case rel => exact ⟨_, (((rd l0 x10_1) != 1)), (by first | rfl | (simp; done) | (simp [*]; done)), H', ⟨by have := HK1.out; first | omega | exact Nat.le_refl _⟩, by repeat (first | exact Drawn0.refl _ | apply Drawn0.step)⟩
                  · rw [if_neg c8] at H
                    have c8b0 : (x10_1 == 9) = false := beq_eq_false_iff_ne.mpr c8
                    have c8b1 : (x10_1 != 9) = true := bne_iff_ne.mpr c8
                    have H' := Aside0.mk H
                    clear H
                    go_wp2
                    go_meet
                    case rel => exact ⟨_, (false), (by first | rfl | (simp; done) | (simp [*]; done)), H', ⟨by have := HK1.out; first | omega | exact Nat.le_refl _⟩, by repeat (first | exact Drawn0.refl _ | apply Drawn0.step)⟩
              · rw [if_neg c6] at H
                have c6b0 : ((rd l0 x10_1) == 0) = false := beq_eq_false_iff_ne.mpr c6
                (try (obtain rfl := TB1_.out.symm.trans c6b0))
                have c6b1 : ((rd l0 x10_1) != 0) = true := bne_iff_ne.mpr c6
                (first | rw [c6b0] | (simp only [i64_w, i32_w]; rw [c6b0]) | skip)
                by_cases c9 : x10_1 = 9
                · rw [if_pos c9] at H
                  have c9b0 : (x10_1 == 9) = true := beq_iff_eq.mpr c9
                  have c9b1 : (x10_1 != 9) = false := bne_eq_false_iff_eq.mpr c9
                  clear c9
                  have H' := Aside0.mk H
                  clear H
                  go_wp2
                  go_meet
                  case rel => exact ⟨_, (((rd l0 x10_1) != 1)), (by first | rfl | (simp; done) | (simp [*]; done)), H', ⟨by have := HK1.out; first | omega | exact Nat.le_refl _⟩, by repeat (first | exact Drawn0.refl _ | apply Drawn0.step)⟩
                · rw [if_neg c9] at H
                  have c9b0 : (x10_1 == 9) = false := beq_eq_false_iff_ne.mpr c9
                  have c9b1 : (x10_1 != 9) = true := bne_iff_ne.mpr c9
                  have H' := Aside0.mk H
                  clear H
                  go_wp2
                  go_meet
                  case rel => exact ⟨_, (false), (by first | rfl | (simp; done) | (simp [*]; done)), H', ⟨by have := HK1.out; first | omega | exact Nat.le_refl _⟩, by repeat (first | exact Drawn0.refl _ | apply Drawn0.step)⟩
            case rest =>
              clear HC5
              try clear c1
              try clear c2
              try clear c2b0
              try clear p2
              try clear c3
              try clear c3b0
              try clear c4
              try clear c4b0
              try clear p4
              try clear q4
              try clear hx4
              try clear c6
              try clear c6b0
              try clear c6b1
              try clear c7
              try clear c7b0
              try clear c8
              try clear c8b0
              try clear c8b1
              try clear c9
              try clear c9b0
              try clear c9b1
              try clear hx476_0
              try clear p476
              try clear q476
              obtain ⟨kq, x28_4, rfl, HA, HJ4, ⟨mc4, rfl⟩⟩ := hcut
              cases kq with
              | zero => exact absurd HA.out (by simp [codec_Uint_p.j1])
              | succ kj4 =>
                have H := HA.out
                clear HA
                simp only [codec_Uint_p.j1] at H
                by_cases c10 : x28_4 = true
                · subst c10
                  have H1 : (some (0, 0, 21)) = some (r1, r2, r3) := by rw [if_pos rfl] at H; exact H
                  clear H
                  have H := H1
                  clear H1
                  simp only [Option.some.injEq, Prod.mk.injEq] at H
                  obtain ⟨rfl, rfl, rfl⟩ := H
                  go_wp2
                  go_ret3
                  exact ⟨by first | rfl | (simp; done) | (simp [*]; done), by repeat (first | exact Drawn0.refl _ | apply Drawn0.step)⟩
                · replace c10 := Bool.eq_false_iff.mpr c10
                  subst c10
                  have H1 : (if 0 ≤ (wrap64 (7 * x10_1)) then (if (rd l0 x10_1) < 128 then (some (Go.bits .or .u64 x5_1 (shl .u64 (IntKind.u64.wrap (Go.bits .and .u8 (rd l0 x10_1) 127)) (wrap64 (7 * x10_1))), wrap64 (x10_1 + 1), 0)) else (codec_Uint_p.l0 kj4 (Go.bits .or .u64 x5_1 (shl .u64 (IntKind.u64.wrap (Go.bits .and .u8 (rd l0 x10_1) 127)) (wrap64 (7 * x10_1)))) l0 (l0.length : Int) (wrap64 (x10_1 + 1)))) else (none)) = some (r1, r2, r3) := by rw [if_neg (show ¬ (false = true) by decide)] at H; exact H
                  clear H
                  have H := H1
                  clear H1
                  obtain ⟨ji11, hji11⟩ : ∃ j_ : Int, (wrap64 (7 * x10_1)) = j_ := ⟨_, rfl⟩
                  replace H : (if 0 ≤ (ji11) then (if (rd l0 x10_1) < 128 then (some (Go.bits .or .u64 x5_1 (shl .u64 (IntKind.u64.wrap (Go.bits .and .u8 (rd l0 x10_1) 127)) (ji11)), wrap64 (x10_1 + 1), 0)) else (codec_Uint_p.l0 kj4 (Go.bits .or .u64 x5_1 (shl .u64 (IntKind.u64.wrap (Go.bits .and .u8 (rd l0 x10_1) 127)) (ji11))) l0 (l0.length : Int) (wrap64 (x10_1 + 1)))) else (none)) = some (r1, r2, r3) := by first | (rw [hji11] at H; exact H) | (simp only [hji11] at H ⊢; exact H)
                  have hji11w : (IntKind.i64.wrap (7 * x10_1)) = ji11 := (i64_w _).trans hji11
                  by_cases c12 : 0 ≤ (ji11)
                  · rw [if_pos c12] at H
                    have c12b0 := eq_true c12
                    have c12b1 : decide (0 ≤ (ji11)) = true := decide_eq_true c12
                    clear c12
                    obtain ⟨ji13, hji13⟩ : ∃ j_ : Int, (shl .u64 (IntKind.u64.wrap (Go.bits .and .u8 (rd l0 x10_1) 127)) (ji11)) = j_ := ⟨_, rfl⟩
                    replace H : (if (rd l0 x10_1) < 128 then (some (Go.bits .or .u64 x5_1 (ji13), wrap64 (x10_1 + 1), 0)) else (codec_Uint_p.l0 kj4 (Go.bits .or .u64 x5_1 (ji13)) l0 (l0.length : Int) (wrap64 (x10_1 + 1)))) = some (r1, r2, r3) := by first | (rw [hji13] at H; exact H) | (simp only [hji13] at H ⊢; exact H)
                    have hji13_ : (IntKind.u64.wrap ((IntKind.u64.wrap (Go.bits .and .u8 (rd l0 x10_1) 127)) * 2 ^ min (ji11).toNat 64)) = ji13 := hji13
                    have hji13z : (ji11) ≤ 64 → (IntKind.u64.wrap ((IntKind.u64.wrap (Go.bits .and .u8 (rd l0 x10_1) 127)) * 2 ^ (ji11).toNat)) = ji13 := shl_small hji13
                    by_cases c14 : (rd l0 x10_1) < 128
                    · rw [if_pos c14] at H
                      have c14b0 : decide ((rd l0 x10_1) < 128) = true := decide_eq_true c14
                      clear c14
                      simp only [Option.some.injEq, Prod.mk.injEq] at H
                      obtain ⟨rfl, rfl, rfl⟩ := H
                      go_wp2
                      go_ret3
                      exact ⟨by first | rfl | (simp; done) | (simp only [← hji11, ← hji13] <;> (first | rfl | simp)) | (simp [*]; done), by repeat (first | exact Drawn0.refl _ | apply Drawn0.step)⟩
                    · rw [if_neg c14] at H
                      have c14b0 : decide ((rd l0 x10_1) < 128) = false := decide_eq_false c14
                      clear c14
                      have H' := Aside0.mk H
                      clear H
                      go_wp2
                      go_roundg kj4
                      case measure => have := HK1.out; have := HJ4.out; omega
                      case rel => exact ⟨(Go.bits .or .u64 x5_1 (ji13)), (wrap64 (x10_1 + 1)), (by first | rfl | (simp; done) | (simp only [← hji13] <;> (first | rfl | simp)) | (simp [*]; done)), (by first | rfl | (simp; done) | (simp [*]; done)), H', ⟨by have := HK1.out; have := HJ4.out; omega⟩, by repeat (first | exact Drawn0.refl _ | apply Drawn0.step)⟩
                  · rw [if_neg c12] at H
                    exact absurd H (by simp)
          · rw [if_neg c4] at H
            exact absurd H (by simp)
        · rw [if_neg c3] at H
          exact absurd H (by simp)
      · rw [if_neg c2] at H
        have c2b0 : decide (x10_1 < (l0.length : Int)) = false := decide_eq_false c2
        clear c2
        simp only [Option.some.injEq, Prod.mk.injEq] at H
        obtain ⟨rfl, rfl, rfl⟩ := H
        go_wp2
        go_ret3
        exact ⟨by first | rfl | (simp; done) | (simp [*]; done), by repeat (first | exact Drawn0.refl _ | apply Drawn0.step)⟩
theorem codec_Uint_ev (l : List Int) (hl : Bytes l) (hm : l.length ≤ 140737488355328) (d : Nat) : ∀ (i a : Nat), i + d = l.length → i ≤ 9 → a < 128 ^ i → Ev (fun k => codec_Uint_p.l0 k (a : Int) l (l.length : Int) (i : Int)) (i3 (uintR (l.drop i) i a)) := by
  induction d with
  | zero =>
    intro i a hi h9 ha
    refine Ev.step (f := fun _ => some (0, 0, 20)) (fun k => ?_) (by rw [List.drop_of_length_le (by omega)]; exact Ev.now _)
    simp only [codec_Uint_p.l0]
    rw [if_neg (by omega)]
  | succ d ih =>
    intro i a hi h9 ha
    have hlt : i < l.length := by omega
    have hb := hl _ (List.getElem_mem hlt)
    have hrd : rd l (i : Int) = l[i] := by simp [rd, List.getD_eq_getElem?_getD, hlt]
    rw [List.drop_eq_getElem_cons hlt]
    obtain ⟨c, hc⟩ := Int.eq_ofNat_of_zero_le hb.1
    have hw : wrap64 (7 * (i : Int)) = 7 * (i : Int) := by unfold wrap64; omega
    have hw1 : wrap64 ((i : Int) + 1) = ((i + 1 : Nat) : Int) := by unfold wrap64; omega
    have hand : IntKind.u64.wrap (Go.bits .and .u8 (c : Int) 127) = ((c % 128 : Nat) : Int) := by
      rw [own_and127 _ ⟨by omega, by omega⟩]
      simp [IntKind.wrap, IntKind.bits, IntKind.signed]
      omega
    have bad : Ev (fun k => codec_Uint_p.j1 k (a : Int) (i : Int) (rd l (i : Int)) l (l.length : Int) (i : Int) true) (i3 (0, 0, 21)) := Ev.step (f := fun _ => some (0, 0, 21)) (fun k => by simp [codec_Uint_p.j1]) (Ev.now _)
    have good : (i ≤ 8 ∨ i = 9 ∧ c = 1) → Ev (fun k => codec_Uint_p.j1 k (a : Int) (i : Int) (rd l (i : Int)) l (l.length : Int) (i : Int) false) (i3 (if (l[i] : Int) < 128 then (a + (l[i] : Int).toNat % 128 * 128 ^ i, i + 1, 0) else uintR (l.drop (i + 1)) (i + 1) (a + (l[i] : Int).toNat % 128 * 128 ^ i))) := by
      intro h8
      rw [hrd, hc, Int.toNat_natCast]
      have hacc := acc_step a (c % 128) i ha (by omega) (by omega)
      by_cases h1 : (c : Int) < 128
      · rw [if_pos h1]
        refine Ev.step (f := fun _ => some (i3 (a + c % 128 * 128 ^ i, i + 1, 0))) (fun k => ?_) (Ev.now _)
        simp only [codec_Uint_p.j1]
        rw [if_neg (by decide), if_pos (by omega), if_pos h1, hand, hw, hacc.1, hw1]
        rfl
      · rw [if_neg h1]
        refine Ev.step (f := fun k => codec_Uint_p.l0 k ((a + c % 128 * 128 ^ i : Nat) : Int) l (l.length : Int) ((i + 1 : Nat) : Int)) (fun k => ?_) (ih (i + 1) _ (by omega) (by omega) (acc_lt a (c % 128) i ha (by omega)))
        simp only [codec_Uint_p.j1]
        rw [if_neg (by decide), if_pos (by omega), if_neg h1, hand, hw, hacc.1, hw1]
    simp only [uintR]
    by_cases hz : l[i] = 0 ∧ 0 < i ∨ i = 9 ∧ l[i] ≠ 1
    · rw [if_pos hz]
      refine Ev.step (fun k => ?_) bad
      simp only [codec_Uint_p.l0]
      rw [if_pos (by omega), if_pos (by omega), if_pos (by omega)]
      by_cases h0 : l[i] = 0
      · rw [hrd, if_pos h0]
        by_cases hi0 : (i : Int) > 0
        · rw [if_pos hi0]
        · exact absurd hz (by omega)
      · rw [hrd, if_neg h0]
        have h9' : i = 9 ∧ l[i] ≠ 1 := by omega
        rw [if_pos (by omega), bne_iff_ne.mpr h9'.2]
    · rw [if_neg hz]
      refine Ev.step (fun k => ?_) (good (by omega))
      simp only [codec_Uint_p.l0]
      rw [if_pos (by omega), if_pos (by omega), if_pos (by omega)]
      by_cases h0 : l[i] = 0
      · rw [hrd, if_pos h0, if_neg (by omega), if_neg (by omega)]
      · rw [hrd, if_neg h0]
        by_cases h9' : i = 9
        · rw [if_pos (by omega)]
          have h1 : l[i] = 1 := by omega
          rw [h1]
          rfl
        · rw [if_neg (by omega)]
def codec_Uint.f (l0 : List Int) : Option (Int × Int × Int) := if okB l0 = true ∧ l0.length ≤ 140737488355328 then some (uintL l0) else none
theorem codec_Uint.calls (A0 : Option Addr) (c0 : Nat) (l0 : List Int) (r1 : Int) (r2 : Int) (r3 : Int) (w : World) (hr0 : Kd.C (Kd.int .u8) w A0 l0.length l0) (hc0 : l0.length ≤ c0) (h : codec_Uint.f l0 = some (r1, r2, r3)) :
    Calls Tryz.prog 134 #[.slice A0 l0.length c0] w fun e w' => e = .returned (.tuple #[.int .u64 r1, .int .i64 r2, .int .i64 r3]) ∧ Drawn0 w w' := by
  unfold codec_Uint.f at h
  split at h
  · rename_i hh
    obtain ⟨k, hk⟩ := (codec_Uint_ev l0 (okB_iff.1 hh.1) hh.2 l0.length 0 0 (by omega) (by omega) (by decide)).rounds
    exact codec_Uint_p.calls k A0 c0 l0 r1 r2 r3 w hr0 hc0 (by rw [← h]; exact hk)
  · cases h
def codec_Text.f (l0 : List Int) (a1 : Int) : Option (ByteArray × Int × Int) := if okB l0 = true ∧ l0.length ≤ 140737488351232 ∧ -9223372036854775808 ≤ a1 ∧ a1 ≤ 9223372036854775807 then some (textL l0 a1) else none
set_option maxHeartbeats 1000000 in
set_option maxRecDepth 100000 in
theorem codec_Text.calls (A0 : Option Addr) (c0 : Nat) (l0 : List Int) (a1 : Int) (r1 : ByteArray) (r2 : Int) (r3 : Int) (w : World) (hr0 : Kd.C (Kd.int .u8) w A0 l0.length l0) (hc0 : l0.length ≤ c0) (h : codec_Text.f l0 a1 = some (r1, r2, r3)) :
    Calls Tryz.prog 135 #[.slice A0 l0.length c0, .int .i64 a1] w fun e w' => e = .returned (.tuple #[.string r1, .int .i64 r2, .int .i64 r3]) ∧ Drawn0 w w' := by
  unfold codec_Text.f at h
  split at h
  · rename_i hh
    obtain ⟨hb, hl, hm1, hm2⟩ := hh
    have h := Option.some.inj h
    have HR0 := Aside0.mk hr0
    have hs := uintN_spec l0 (okB_iff.1 hb)
    have hU : codec_Uint.f l0 = some (uintL l0) := by unfold codec_Uint.f; rw [if_pos ⟨hb, by omega⟩]
    obtain ⟨n, k, e, hN, s1, s2, s3⟩ : ∃ n k e, uintN l0 = (n, k, e) ∧ n < 18446744073709551616 ∧ k ≤ l0.length ∧ k ≤ 10 := ⟨_, _, _, rfl, hs⟩
    have hL : uintL l0 = ((n : Int), (k : Int), (e : Int)) := by unfold uintL i3; rw [hN]
    rw [hL] at hU
    have HU := Aside0.mk hU
    unfold textL at h
    rw [hN] at h
    simp only at h
    have hk : IntKind.u64.wrap (wrap64 ((l0.length : Int) - (k : Int))) = (l0.length : Int) - (k : Int) := by
      rw [show wrap64 ((l0.length : Int) - (k : Int)) = (l0.length : Int) - (k : Int) by unfold wrap64; omega]
      simp [IntKind.wrap, IntKind.bits, IntKind.signed]
      omega
    have HK := Aside0.mk hk
    clear hU hr0 hs hN hL hk
    by_cases he : e = 0
    · rw [if_neg (by simpa using he)] at h
      subst he
      by_cases hmost : a1 < 0
      · rw [if_pos (.inl hmost)] at h
        simp only [Prod.mk.injEq] at h
        obtain ⟨rfl, rfl, rfl⟩ := h
        have hd : decide (a1 < 0) = true := decide_eq_true hmost
        go_enter Tryz.func135, Tryz.ntmps135
        go_wp2_with fail
        refine (codec_Uint.calls A0 c0 l0 (n : Int) (k : Int) ((0 : Nat) : Int) w HR0.out hc0 HU.out).mono ?_
        rintro e w1 ⟨rfl, ⟨m1, rfl⟩⟩
        go_wp2
        go_ret3
        exact ⟨rfl, ⟨m1, rfl⟩⟩
      · have hge : 0 ≤ a1 := by omega
        have hd : decide (a1 < 0) = false := decide_eq_false hmost
        have hwa : IntKind.u64.wrap a1 = a1 := by simp [IntKind.wrap, IntKind.bits, IntKind.signed]; omega
        by_cases hbig : (n : Int) > a1
        · rw [if_pos (.inr hbig)] at h
          simp only [Prod.mk.injEq] at h
          obtain ⟨rfl, rfl, rfl⟩ := h
          have hd2 : decide (a1 < (n : Int)) = true := decide_eq_true hbig
          have hd3 : decide (IntKind.u64.wrap a1 < (n : Int)) = true := by rw [hwa]; exact hd2
          clear hwa
          go_enter Tryz.func135, Tryz.ntmps135
          go_wp2_with fail
          refine (codec_Uint.calls A0 c0 l0 (n : Int) (k : Int) ((0 : Nat) : Int) w HR0.out hc0 HU.out).mono ?_
          rintro e w1 ⟨rfl, ⟨m1, rfl⟩⟩
          go_wp2
          go_ret3
          exact ⟨rfl, ⟨m1, rfl⟩⟩
        · rw [if_neg (by omega)] at h
          have hd2 : decide (a1 < (n : Int)) = false := decide_eq_false (by omega)
          have hd3 : decide (IntKind.u64.wrap a1 < (n : Int)) = false := by rw [hwa]; exact hd2
          clear hwa
          by_cases hs : n > l0.length - k
          · rw [if_pos hs] at h
            simp only [Prod.mk.injEq] at h
            obtain ⟨rfl, rfl, rfl⟩ := h
            have hd4 : decide ((l0.length : Int) - (k : Int) < (n : Int)) = true := decide_eq_true (by omega)
            have hd5 : decide (IntKind.u64.wrap (wrap64 ((l0.length : Int) - (k : Int))) < (n : Int)) = true := by rw [HK.out]; exact hd4
            have hd6 : decide (IntKind.u64.wrap ((l0.length : Int) - (k : Int)) < (n : Int)) = true := by have := HK.out; rw [show wrap64 ((l0.length : Int) - (k : Int)) = (l0.length : Int) - (k : Int) by unfold wrap64; omega] at this; rw [this]; exact hd4
            go_enter Tryz.func135, Tryz.ntmps135
            go_wp2_with fail
            refine (codec_Uint.calls A0 c0 l0 (n : Int) (k : Int) ((0 : Nat) : Int) w HR0.out hc0 HU.out).mono ?_
            rintro e w1 ⟨rfl, ⟨m1, rfl⟩⟩
            go_wp2
            go_ret3
            exact ⟨rfl, ⟨m1, rfl⟩⟩
          · rw [if_neg hs] at h
            simp only [Prod.mk.injEq] at h
            obtain ⟨e1, e2, rfl⟩ := h
            have E1 := Aside0.mk e1
            have E2 := Aside0.mk e2
            clear e1 e2
            have hd4 : decide ((l0.length : Int) - (k : Int) < (n : Int)) = false := decide_eq_false (by omega)
            have hd5 : decide (IntKind.u64.wrap (wrap64 ((l0.length : Int) - (k : Int))) < (n : Int)) = false := by rw [HK.out]; exact hd4
            have hd6 : decide (IntKind.u64.wrap ((l0.length : Int) - (k : Int)) < (n : Int)) = false := by have := HK.out; rw [show wrap64 ((l0.length : Int) - (k : Int)) = (l0.length : Int) - (k : Int) by unfold wrap64; omega] at this; rw [this]; exact hd4
            obtain ⟨i012, hi012, _, hsz12, _⟩ := info_parts info5
            obtain ⟨A12, hcut12, hA12, hC12⟩ := print_mid_of (P := Tryz.prog) (Value.int .u8) (0 : Int) 57 5 .i64 .i64 Tryz.underlying57 hi012 hsz12 A0 c0 l0 (k : Int) ((k : Int) + (n : Int)) (by omega) (by omega) (by omega) hc0
            have HE : Aside0 (strOfNums ((l0.take ((k : Int) + (n : Int)).toNat).drop (k : Int).toNat) = r1) := ⟨by rw [show ((k : Int) + (n : Int)).toNat = k + n by omega, Int.toNat_natCast]; exact E1.out⟩
            generalize (l0.take ((k : Int) + (n : Int)).toNat).drop (k : Int).toNat = ys at hcut12 hA12 hC12 HE
            have hR12 := Kd.C_of_reads (h1 := fun _ => rfl) (hA12 _ (Kd.reads_of_C HR0.out))
            have HR12 := Aside0.mk hR12
            clear hA12 hC12 hi012 hsz12 hR12
            go_enter Tryz.func135, Tryz.ntmps135
            go_wp2_with fail
            refine (codec_Uint.calls A0 c0 l0 (n : Int) (k : Int) ((0 : Nat) : Int) w HR0.out hc0 HU.out).mono ?_
            rintro e w1 ⟨rfl, ⟨m1, rfl⟩⟩
            have hcv13 := Kd.C_string (P := Tryz.prog) (w := w.drewN m1) (A := A12) (c := (c0 - k)) Tryz.underlying57 Tryz.underlying5 Tryz.underlying9 HR12.out
            rw [HE.out] at hcv13
            go_wp2
            repeat (go_quiet (fail); try go_wp2)
            go_ret3
            exact ⟨by rw [← E2.out]; rfl, by repeat (first | exact Drawn0.refl _ | apply Drawn0.step)⟩
    · rw [if_pos (by simpa using he)] at h
      simp only [Prod.mk.injEq] at h
      obtain ⟨rfl, rfl, rfl⟩ := h
      have hd : ((e : Int) != 0) = true := by rw [bne_iff_ne]; omega
      go_enter Tryz.func135, Tryz.ntmps135
      go_wp2_with fail
      refine (codec_Uint.calls A0 c0 l0 (n : Int) (k : Int) (e : Int) w HR0.out hc0 HU.out).mono ?_
      rintro e' w1 ⟨rfl, ⟨m1, rfl⟩⟩
      go_wp2
      go_ret3
      exact ⟨rfl, ⟨m1, rfl⟩⟩
  · cases h
/-- A state of type 98 at block g of W; what its slices lead to came in by w0. -/
def IsS98 (w0 W : World) (g : Nat) (f0 : List (S53)) (f1 : Int) : Prop := ∃ A0 c0, W.heap[g]? = some (.cells #[.slice A0 f0.length c0, .int .i64 f1] 98 (0, 0)) ∧ w0.heap.size ≤ g ∧ Kd.C k53 w0 A0 f0.length f0
theorem IsS98.grown {w0 W : World} {g : Nat} {f0 : List (S53)} {f1 : Int} {W1 : World} {row : Option Nat} (h : IsS98 w0 W g f0 f1) (hw : W.grownBy W1 row) (hne : some g ≠ row) : IsS98 w0 W1 g f0 f1 := by
  obtain ⟨A0, c0, hb, hg, hr0⟩ := h
  exact ⟨A0, c0, blk_grown hb hw hne, hg, hr0⟩
theorem IsS98.kept {w0 W : World} {g : Nat} {f0 : List (S53)} {f1 : Int} {W1 : World} {S : Nat → Prop} (h : IsS98 w0 W g f0 f1) (hk : Kept W W1 S) (hne : ¬ S g) : IsS98 w0 W1 g f0 f1 := by
  obtain ⟨A0, c0, hb, hg, hr0⟩ := h
  exact ⟨A0, c0, blk_kept hb hk hne, hg, hr0⟩
theorem IsS98.below {w0 W : World} {g : Nat} {f0 : List (S53)} {f1 : Int} {W1 : World} (h : IsS98 w0 W g f0 f1) (hw : Below W.heap.size W W1) : IsS98 w0 W1 g f0 f1 := h.grown (grown_of_below hw none) (by simp)
theorem IsS98.alloc {w0 W : World} {g : Nat} {f0 : List (S53)} {f1 : Int} (h : IsS98 w0 W g f0 f1) (o : Obj) : IsS98 w0 (W.alloc o) g f0 f1 := h.below (below_alloc (Below.refl _ _) o)
theorem IsS98.drewN {w0 W : World} {g : Nat} {f0 : List (S53)} {f1 : Int} (h : IsS98 w0 W g f0 f1) (m : Nat) : IsS98 w0 (W.drewN m) g f0 f1 := h
theorem IsS98.drew {w0 W : World} {g : Nat} {f0 : List (S53)} {f1 : Int} (h : IsS98 w0 W g f0 f1) : IsS98 w0 W.drew g f0 f1 := h
theorem IsS98.apart {w0 W : World} {g : Nat} {f0 : List (S53)} {f1 : Int} {α : Type} {d : Kd α} {e : Nat} {base : Nat} {ok : Nat → Prop} {v : Value} {xs : List α} (h : IsS98 w0 W g f0 f1) (ho : d.R e W base ok v xs) (ht : ∀ q, q ∈ e :: d.E → q ≠ 98) : d.R e W base (fun k => ok k ∧ k ≠ g) v xs := by
  obtain ⟨A0, c0, hb, hg, hr0⟩ := h
  exact Kd.R_types ho hb ht
theorem IsS98.own_ne {w0 W : World} {g : Nat} {f0 : List (S53)} {f1 : Int} {α : Type} {d : Kd α} {e : Nat} {base : Nat} {ok : Nat → Prop} {v : Value} {xs : List α} (h : IsS98 w0 W g f0 f1) (ho : d.R e W base ok v xs) (ht : e ≠ 98) : some g ≠ v.ownBlock := by
  obtain ⟨A0, c0, hb, hg, hr0⟩ := h
  exact Kd.R_ne ho hb ht
theorem IsS98.ge {w0 W : World} {g : Nat} {f0 : List (S53)} {f1 : Int} (h : IsS98 w0 W g f0 f1) : w0.heap.size ≤ g := by
  obtain ⟨A0, c0, hb, hg, hr0⟩ := h
  exact hg
theorem IsS98.far {w0 W : World} {g : Nat} {f0 : List (S53)} {f1 : Int} {p : Addr} (h : IsS98 w0 W g f0 f1) (hne : g ≠ p.block) (u : Value) : IsS98 w0 (W.setCell p u) g f0 f1 := by
  obtain ⟨A0, c0, hb, hg, hr0⟩ := h
  exact ⟨A0, c0, blk_far hb hne u, hg, hr0⟩
theorem cellS98_0 {W : World} {g : Nat} {A0 : Option Addr} {c0 : Nat} {f0 : List (S53)} {f1 : Int} (h : W.heap[g]? = some (.cells #[.slice A0 f0.length c0, .int .i64 f1] 98 (0, 0))) : W.cell? ⟨g, 0, none⟩ = some (.slice A0 f0.length c0) := (blk_cell h 0).trans rfl
theorem cellS98_1 {W : World} {g : Nat} {A0 : Option Addr} {c0 : Nat} {f0 : List (S53)} {f1 : Int} (h : W.heap[g]? = some (.cells #[.slice A0 f0.length c0, .int .i64 f1] 98 (0, 0))) : W.cell? ⟨g, 1, none⟩ = some (.int .i64 f1) := (blk_cell h 1).trans rfl
theorem IsS98.set_1 {w0 W : World} {g : Nat} {f0 : List (S53)} {f1 : Int} (h : IsS98 w0 W g f0 f1) (x : Int) : IsS98 w0 (W.setCell ⟨g, 1, none⟩ (.int .i64 x)) g f0 x := by
  obtain ⟨A0, c0, hb, hg, hr0⟩ := h
  exact ⟨A0, c0, by simpa using blk_set hb 1 (.int .i64 x), hg, hr0⟩
theorem IsS98.new (w0 W : World) (A0 : Option Addr) (c0 : Nat) (f0 : List (S53)) (f1 : Int) (hB : Below w0.heap.size w0 W) (hr0 : Kd.C k53 w0 A0 f0.length f0) : IsS98 w0 (W.alloc (.cells #[.slice A0 f0.length c0, .int .i64 f1] 98)) W.heap.size f0 f1 := ⟨A0, c0, by simpa using heap_alloc_new W _, hB.size, hr0⟩
def block_Block_key.f (s0_0 : List (S53)) (s0_1 : Int) : Option (ByteArray × Int) := if (s0_0.length : Int) = 0 then (some ((⟨#[]⟩ : ByteArray), s0_1)) else (if 0 ≤ (wrap64 ((s0_0.length : Int) - 1)) then (if (wrap64 ((s0_0.length : Int) - 1)) < (s0_0.length : Int) then (some ((rd_T53 s0_0 (wrap64 ((s0_0.length : Int) - 1))).f0, s0_1)) else (none)) else (none))
set_option maxHeartbeats 8000000 in
set_option maxRecDepth 100000 in
theorem block_Block_key.calls (g : Nat) (s0_0 : List (S53)) (s0_1 : Int) (r1 : ByteArray) (r2 : Int) (w0 w : World) (hI : IsS98 w0 w g s0_0 s0_1) (hB : Below w0.heap.size w0 w) (h : block_Block_key.f s0_0 s0_1 = some (r1, r2)) :
    Calls Tryz.prog 90 #[.pointer (some ⟨g, 0, none⟩)] w fun e w' => e = .returned (.string r1) ∧ IsS98 w0 w' g s0_0 r2 ∧ Below w0.heap.size w0 w' ∧ KeepBut w w' g none := by
  have HI0 := Aside0.mk hI
  have HK := Aside0.mk (KeepBut.refl w g none)
  have HL := Aside0.mk hB.size
  clear hI
  have HW0 := Aside0.mk hB.size
  have HB := Aside0.mk hB
  clear hB
  have H : (if (s0_0.length : Int) = 0 then (some ((⟨#[]⟩ : ByteArray), s0_1)) else (if 0 ≤ (wrap64 ((s0_0.length : Int) - 1)) then (if (wrap64 ((s0_0.length : Int) - 1)) < (s0_0.length : Int) then (some ((rd_T53 s0_0 (wrap64 ((s0_0.length : Int) - 1))).f0, s0_1)) else (none)) else (none))) = some (r1, r2) := h
  clear h
  by_cases c2 : (s0_0.length : Int) = 0
  · rw [if_pos c2] at H
    have c2b0 : ((s0_0.length : Int) == 0) = true := beq_iff_eq.mpr c2
    have c2b1 : ((s0_0.length : Int) != 0) = false := bne_eq_false_iff_eq.mpr c2
    clear c2
    simp only [Option.some.injEq, Prod.mk.injEq] at H
    obtain ⟨rfl, rfl⟩ := H
    obtain ⟨ASz3_0, cSz3_0, HGz3, hgz3, HSz3_0⟩ := HI0.out
    have hcz3_0 := cellS98_0 HGz3
    have hcz3_1 := cellS98_1 HGz3
    have hfz3_1 := blk_frozen HGz3 1
    clear HGz3 hgz3
    go_enter Tryz.func90, Tryz.ntmps90
    go_wp2
    repeat (go_quiet (fail); try go_wp2)
    go_ret
    exact ⟨by first | rfl | (simp [errW_none, errW_some] <;> rfl) | (simp [*, errW_none, errW_some] <;> rfl), by repeat (first | (with_reducible first | exact HI0.out | apply IsS98.alloc | apply IsS98.drewN | apply IsS98.drew | apply IsS98.set_1) | exact HI0.out), by repeat (first | (with_reducible first | exact HB.out | apply below_alloc | apply pw_below_drewN | apply below_drew1 | refine below_set ?_ (IsS98.ge HI0.out)) | exact HB.out), by repeat (first | (with_reducible first | exact HK.out | apply KeepBut.set_ | apply keep_drewN | apply keep_drew | apply keep_alloc) | exact HK.out)⟩
  · rw [if_neg c2] at H
    have c2b0 : ((s0_0.length : Int) == 0) = false := beq_eq_false_iff_ne.mpr c2
    have c2b1 : ((s0_0.length : Int) != 0) = true := bne_iff_ne.mpr c2
    have c2b2 : ¬ (s0_0 = []) := fun h_ => c2 (by rw [h_]; rfl)
    obtain ⟨ji4, hji4⟩ : ∃ j_ : Int, (wrap64 ((s0_0.length : Int) - 1)) = j_ := ⟨_, rfl⟩
    replace H : (if 0 ≤ (ji4) then (if (ji4) < (s0_0.length : Int) then (some ((rd_T53 s0_0 (ji4)).f0, s0_1)) else (none)) else (none)) = some (r1, r2) := by first | (rw [hji4] at H; exact H) | (simp only [hji4] at H ⊢; exact H)
    have hji4w : (IntKind.i64.wrap ((s0_0.length : Int) - 1)) = ji4 := (i64_w _).trans hji4
    by_cases c5 : 0 ≤ (ji4)
    · rw [if_pos c5] at H
      have c5b0 : decide (0 ≤ (ji4)) = true := decide_eq_true c5
      clear c5
      by_cases c6 : (ji4) < (s0_0.length : Int)
      · rw [if_pos c6] at H
        have c6b0 : decide ((ji4) < (s0_0.length : Int)) = true := decide_eq_true c6
        clear c6
        simp only [Option.some.injEq, Prod.mk.injEq] at H
        obtain ⟨rfl, rfl⟩ := H
        obtain ⟨ASz7_0, cSz7_0, HGz7, hgz7, HSz7_0⟩ := HI0.out
        have hcz7_0 := cellS98_0 HGz7
        have hcz7_1 := cellS98_1 HGz7
        have hfz7_1 := blk_frozen HGz7 1
        clear HGz7 hgz7
        have p478 : 0 ≤ ((ji4) : Int) := of_decide_eq_true (by first | (with_reducible assumption) | assumption)
        have q478 : (ji4) < (s0_0.length : Int) := of_decide_eq_true (by first | (with_reducible assumption) | assumption)
        obtain ⟨ad478, e478, hx478_0, hx478_1, hx478_2, hx478_3⟩ := at_T53 HSz7_0 (ji4) p478 q478
        cases e478
        replace hx478_0 := pw_cell_below HB.out hx478_0
        replace hx478_1 := pw_cell_below HB.out hx478_1
        replace hx478_2 := pw_cell_below HB.out hx478_2
        replace hx478_3 := pw_cell_below HB.out hx478_3
        replace p478 := eq_true p478
        replace q478 := eq_true q478
        go_enter Tryz.func90, Tryz.ntmps90
        go_wp2
        repeat (go_quiet (fail); try go_wp2)
        go_ret
        exact ⟨by first | rfl | (simp [errW_none, errW_some] <;> rfl) | (simp only [← hji4]; first | rfl | (simp [errW_none, errW_some] <;> rfl)) | (simp [*, errW_none, errW_some] <;> rfl), by repeat (first | (with_reducible first | exact HI0.out | apply IsS98.alloc | apply IsS98.drewN | apply IsS98.drew | apply IsS98.set_1) | exact HI0.out), by repeat (first | (with_reducible first | exact HB.out | apply below_alloc | apply pw_below_drewN | apply below_drew1 | refine below_set ?_ (IsS98.ge HI0.out)) | exact HB.out), by repeat (first | (with_reducible first | exact HK.out | apply KeepBut.set_ | apply keep_drewN | apply keep_drew | apply keep_alloc) | exact HK.out)⟩
      · rw [if_neg c6] at H
        exact absurd H (by simp)
    · rw [if_neg c5] at H
      exact absurd H (by simp)
def bytes_Equal.f (l0 : List Int) (l1 : List Int) : Option (Bool) := some ((strOfNums l0).toList == (strOfNums l1).toList)
set_option maxHeartbeats 8000000 in
set_option maxRecDepth 100000 in
theorem bytes_Equal.calls (A0 : Option Addr) (c0 : Nat) (l0 : List Int) (A1 : Option Addr) (c1 : Nat) (l1 : List Int) (r : Bool) (w : World) (hr0 : Kd.C (Kd.int .u8) w A0 l0.length l0) (hc0 : l0.length ≤ c0) (hr1 : Kd.C (Kd.int .u8) w A1 l1.length l1) (hc1 : l1.length ≤ c1) (h : bytes_Equal.f l0 l1 = some r) :
    Calls Tryz.prog 55 #[.slice A0 l0.length c0, .slice A1 l1.length c1] w fun e w' => e = .returned (.bool r) ∧ Drawn0 w w' := by
  have HR0 := Aside0.mk hr0
  have HC0 := Aside0.mk hc0
  clear hr0 hc0
  have HR1 := Aside0.mk hr1
  have HC1 := Aside0.mk hc1
  clear hr1 hc1
  have H : (some ((strOfNums l0).toList == (strOfNums l1).toList)) = some r := h
  clear h
  obtain rfl := Option.some.inj H
  have hcv3 := Kd.C_string (P := Tryz.prog) (A := A0) (c := c0) Tryz.underlying57 Tryz.underlying5 Tryz.underlying9 HR0.out
  have hcv4 := Kd.C_string (P := Tryz.prog) (A := A1) (c := c1) Tryz.underlying57 Tryz.underlying5 Tryz.underlying9 HR1.out
  go_enter Tryz.func55, Tryz.ntmps55
  go_wp2
  go_ret
  exact ⟨by first | rfl | (simp; done) | (simp [*]; done), by repeat (first | exact Drawn0.refl _ | apply Drawn0.step)⟩
def screelaw9_sameEntries.l0 : Nat → List (S53) → List (S53) → Int → Option (Bool)
  | 0, _, _, _ => none
  | k + 1, x0, x1, x5 => if x5 < (x0.length : Int) then (if 0 ≤ x5 then (if x5 < (x1.length : Int) then (if (!((((rd_T53 x0 x5).f0).toList) == (((rd_T53 x1 x5).f0).toList)) || (!(((rd_T53 x0 x5).f1) == ((rd_T53 x1 x5).f1)) || (!(((rd_T53 x0 x5).f2) == ((rd_T53 x1 x5).f2)) || (!((((rd_T53 x0 x5).f3).toList) == (((rd_T53 x1 x5).f3).toList)))))) = true then (some false) else (screelaw9_sameEntries.l0 k x0 x1 (wrap64 (x5 + 1)))) else (none)) else (none)) else (some true)
def screelaw9_sameEntries.f (k : Nat) (l0 : List (S53)) (l1 : List (S53)) : Option (Bool) := if (l0.length : Int) = (l1.length : Int) then (screelaw9_sameEntries.l0 k l0 l1 0) else (some false)
theorem screelaw9_sameEntries.mono_l : ∀ k, (∀ y0 y1 y2, LeO (screelaw9_sameEntries.l0 k y0 y1 y2) (screelaw9_sameEntries.l0 (k + 1) y0 y1 y2))
  | 0 => fun _ _ _ r h => by simp [screelaw9_sameEntries.l0] at h
  | k + 1 => by
    have ih0 := screelaw9_sameEntries.mono_l k
    · intro y0 y1 y2
      unfold screelaw9_sameEntries.l0
      repeat' first
      | (with_reducible exact ih0 _ _ _)
      | (with_reducible exact LeO.refl _)
      | (with_reducible exact LeO.none _)
      | (with_reducible refine LeO.ite ?_ ?_)
      | (with_reducible refine LeO.bind ?_ (fun _ => ?_))
      | exact ih0 _ _ _
      | exact LeO.none _
      | refine LeO.ite ?_ ?_
      | refine LeO.bind ?_ (fun _ => ?_)
theorem screelaw9_sameEntries.mono : ∀ a0 a1 k, LeO (screelaw9_sameEntries.f k a0 a1) (screelaw9_sameEntries.f (k + 1) a0 a1) := by
  intro a0 a1 k
  have ih0 := screelaw9_sameEntries.mono_l k
  unfold screelaw9_sameEntries.f
  repeat' first
      | (with_reducible exact ih0 _ _ _)
      | (with_reducible exact LeO.refl _)
      | (with_reducible exact LeO.none _)
      | (with_reducible refine LeO.ite ?_ ?_)
      | (with_reducible refine LeO.bind ?_ (fun _ => ?_))
      | exact ih0 _ _ _
      | exact LeO.none _
      | refine LeO.ite ?_ ?_
      | refine LeO.bind ?_ (fun _ => ?_)
set_option maxHeartbeats 8000000 in
set_option maxRecDepth 100000 in
theorem screelaw9_sameEntries.calls (k : Nat) (A0 : Option Addr) (c0 : Nat) (l0 : List (S53)) (A1 : Option Addr) (c1 : Nat) (l1 : List (S53)) (r : Bool) (w : World) (hr0 : Kd.C k53 w A0 l0.length l0) (hc0 : l0.length ≤ c0) (hr1 : Kd.C k53 w A1 l1.length l1) (hc1 : l1.length ≤ c1) (h : screelaw9_sameEntries.f k l0 l1 = some r) :
    Calls Tryz.prog 17 #[.slice A0 l0.length c0, .slice A1 l1.length c1] w fun e w' => e = .returned (.bool r) ∧ Drawn0 w w' := by
  have hu53 := Tryz.underlying53
  have HR0 := Aside0.mk hr0
  have HC0 := Aside0.mk hc0
  clear hr0 hc0
  have HR1 := Aside0.mk hr1
  have HC1 := Aside0.mk hc1
  clear hr1 hc1
  have H : (if (l0.length : Int) = (l1.length : Int) then (screelaw9_sameEntries.l0 k l0 l1 0) else (some false)) = some r := h
  clear h
  by_cases c3 : (l0.length : Int) = (l1.length : Int)
  · rw [if_pos c3] at H
    have c3b0 : ((l0.length : Int) == (l1.length : Int)) = true := beq_iff_eq.mpr c3
    have c3b1 : ((l0.length : Int) != (l1.length : Int)) = false := bne_eq_false_iff_eq.mpr c3
    have c3b2 : (l0.length == l1.length) = true := by first | simpa using c3 | (simp at c3 ⊢; omega)
    clear c3
    have H' := Aside0.mk H
    clear H
    go_enter Tryz.func17, Tryz.ntmps17
    go_wp2
    repeat (go_quiet (fail); try go_wp2)
    go_loopg [5] k (fun kq v5 w' => ∃ (x5_1 : Int), v5 = .int .i64 x5_1 ∧ Aside0 (screelaw9_sameEntries.l0 kq l0 l1 x5_1 = some r) ∧ Aside0 (kq ≤ k) ∧ Drawn0 w w')
    case atStart => exact ⟨(0), (by first | rfl | (simp; done) | (simp [*]; done)), H', ⟨Nat.le_refl _⟩, by repeat (first | exact Drawn0.refl _ | apply Drawn0.step)⟩
    case round =>
      clear H'
      try clear c1
      try clear p2
      try clear c3
      try clear c3b0
      try clear c3b1
      try clear c3b2
      obtain ⟨x5_1, rfl, HA, HK1, ⟨m1, rfl⟩⟩ := hrel
      cases gk with
      | zero => exact absurd HA.out (by simp [screelaw9_sameEntries.l0])
      | succ k1 =>
        have H := HA.out
        clear HA
        simp only [screelaw9_sameEntries.l0] at H
        by_cases c4 : x5_1 < (l0.length : Int)
        · rw [if_pos c4] at H
          have c4b0 : decide (x5_1 < (l0.length : Int)) = true := decide_eq_true c4
          clear c4
          by_cases c5 : 0 ≤ x5_1
          · rw [if_pos c5] at H
            have c5b0 : decide (0 ≤ x5_1) = true := decide_eq_true c5
            clear c5
            by_cases c6 : x5_1 < (l1.length : Int)
            · rw [if_pos c6] at H
              have c6b0 : decide (x5_1 < (l1.length : Int)) = true := decide_eq_true c6
              clear c6
              by_cases c7 : (!((((rd_T53 l0 x5_1).f0).toList) == (((rd_T53 l1 x5_1).f0).toList)) || (!(((rd_T53 l0 x5_1).f1) == ((rd_T53 l1 x5_1).f1)) || (!(((rd_T53 l0 x5_1).f2) == ((rd_T53 l1 x5_1).f2)) || (!((((rd_T53 l0 x5_1).f3).toList) == (((rd_T53 l1 x5_1).f3).toList)))))) = true
              · rw [if_pos c7] at H
                have c7b0 : (!((((rd_T53 l0 x5_1).f0).toList) == (((rd_T53 l1 x5_1).f0).toList)) || (!(((rd_T53 l0 x5_1).f1) == ((rd_T53 l1 x5_1).f1)) || (!(((rd_T53 l0 x5_1).f2) == ((rd_T53 l1 x5_1).f2)) || (!((((rd_T53 l0 x5_1).f3).toList) == (((rd_T53 l1 x5_1).f3).toList)))))) = true := c7
                clear c7
                obtain rfl := Option.some.inj H
                have p479 : 0 ≤ (x5_1 : Int) := of_decide_eq_true (by first | (with_reducible assumption) | assumption)
                have q479 : x5_1 < (l0.length : Int) := of_decide_eq_true (by first | (with_reducible assumption) | assumption)
                obtain ⟨ad479, e479, hx479_0, hx479_1, hx479_2, hx479_3⟩ := at_T53 HR0.out x5_1 p479 q479
                cases e479
                replace p479 := eq_true p479
                replace q479 := eq_true q479
                have p480 : 0 ≤ (x5_1 : Int) := of_decide_eq_true (by first | (with_reducible assumption) | assumption)
                have q480 : x5_1 < (l1.length : Int) := of_decide_eq_true (by first | (with_reducible assumption) | assumption)
                obtain ⟨ad480, e480, hx480_0, hx480_1, hx480_2, hx480_3⟩ := at_T53 HR1.out x5_1 p480 q480
                cases e480
                replace p480 := eq_true p480
                replace q480 := eq_true q480
                go_wp2
                repeat (go_quiet (fail); try go_wp2)
                go_ret
                exact ⟨by first | rfl | (simp; done) | (simp [*]; done), by repeat (first | exact Drawn0.refl _ | apply Drawn0.step)⟩
              · rw [if_neg c7] at H
                have c7b0 : (!((((rd_T53 l0 x5_1).f0).toList) == (((rd_T53 l1 x5_1).f0).toList)) || (!(((rd_T53 l0 x5_1).f1) == ((rd_T53 l1 x5_1).f1)) || (!(((rd_T53 l0 x5_1).f2) == ((rd_T53 l1 x5_1).f2)) || (!((((rd_T53 l0 x5_1).f3).toList) == (((rd_T53 l1 x5_1).f3).toList)))))) = false := by simpa using c7
                clear c7
                have H' := Aside0.mk H
                clear H
                have p479 : 0 ≤ (x5_1 : Int) := of_decide_eq_true (by first | (with_reducible assumption) | assumption)
                have q479 : x5_1 < (l0.length : Int) := of_decide_eq_true (by first | (with_reducible assumption) | assumption)
                obtain ⟨ad479, e479, hx479_0, hx479_1, hx479_2, hx479_3⟩ := at_T53 HR0.out x5_1 p479 q479
                cases e479
                replace p479 := eq_true p479
                replace q479 := eq_true q479
                have p480 : 0 ≤ (x5_1 : Int) := of_decide_eq_true (by first | (with_reducible assumption) | assumption)
                have q480 : x5_1 < (l1.length : Int) := of_decide_eq_true (by first | (with_reducible assumption) | assumption)
                obtain ⟨ad480, e480, hx480_0, hx480_1, hx480_2, hx480_3⟩ := at_T53 HR1.out x5_1 p480 q480
                cases e480
                replace p480 := eq_true p480
                replace q480 := eq_true q480
                go_wp2
                repeat (go_quiet (fail); try go_wp2)
                go_roundg k1
                case measure => have := HK1.out; omega
                case rel => exact ⟨(wrap64 (x5_1 + 1)), (by first | rfl | (simp; done) | (simp [*]; done)), H', ⟨by have := HK1.out; omega⟩, by repeat (first | exact Drawn0.refl _ | apply Drawn0.step)⟩
            · rw [if_neg c6] at H
              exact absurd H (by simp)
          · rw [if_neg c5] at H
            exact absurd H (by simp)
        · rw [if_neg c4] at H
          have c4b0 : decide (x5_1 < (l0.length : Int)) = false := decide_eq_false c4
          clear c4
          obtain rfl := Option.some.inj H
          go_wp2
          repeat (go_quiet (fail); try go_wp2)
          go_ret
          exact ⟨by first | rfl | (simp; done) | (simp [*]; done), by repeat (first | exact Drawn0.refl _ | apply Drawn0.step)⟩
  · rw [if_neg c3] at H
    have c3b0 : ((l0.length : Int) == (l1.length : Int)) = false := beq_eq_false_iff_ne.mpr c3
    have c3b1 : ((l0.length : Int) != (l1.length : Int)) = true := bne_iff_ne.mpr c3
    have c3b2 : (l0.length == l1.length) = false := by first | simpa using c3 | (simp at c3 ⊢; omega)
    obtain rfl := Option.some.inj H
    go_enter Tryz.func17, Tryz.ntmps17
    go_wp2
    repeat (go_quiet (fail); try go_wp2)
    go_ret
    exact ⟨by first | rfl | (simp; done) | (simp [*]; done), by repeat (first | exact Drawn0.refl _ | apply Drawn0.step)⟩
end Go.Proofs.YtaonjmkfbfhanaaGreatDoor.QBo
namespace Go.Proofs.YtaonjmkfbfhanaaGreatDoor.Bk
open Go.RowKit Go.Proofs.YtaonjmkfbfhanaaGreatDoorW.PrintWords Go.Proofs.YtaonjmkfbfhanaaGreatDoor.Own Go.Proofs.YtaonjmkfbfhanaaGreatDoor.G
set_option linter.unusedVariables false
abbrev En := QBo.S53
abbrev kE : Kd En := QBo.k53
end Go.Proofs.YtaonjmkfbfhanaaGreatDoor.Bk
namespace Go.Proofs.YtaonjmkfbfhanaaGreatDoor.Bk
open Go.RowKit Go.Proofs.YtaonjmkfbfhanaaGreatDoorW.PrintWords Go.Proofs.YtaonjmkfbfhanaaGreatDoor.Own Go.Proofs.YtaonjmkfbfhanaaGreatDoor.G Go.Proofs.YtaonjmkfbfhanaaGreatDoor.Wk Go.Proofs.YtaonjmkfbfhanaaGreatDoor.QBo
set_option linter.unusedVariables false
theorem infoU : (Tryz.prog.info? 5).map (fun i => (i.zero, i.size, i.bytes)) = some (some (.int .u8 0), 1, 1) := by kernel_rfl
def ev (x : En) : Value := .agg #[.string x.f0, .int .u64 x.f1, .bool x.f2, .string x.f3]
end Go.Proofs.YtaonjmkfbfhanaaGreatDoor.Bk
namespace Go.Proofs.YtaonjmkfbfhanaaGreatDoor.Bk
open Go.RowKit Go.Proofs.YtaonjmkfbfhanaaGreatDoorW.PrintWords Go.Proofs.YtaonjmkfbfhanaaGreatDoor.Own Go.Proofs.YtaonjmkfbfhanaaGreatDoor.G Go.Proofs.YtaonjmkfbfhanaaGreatDoor.Wk Go.Proofs.YtaonjmkfbfhanaaGreatDoor.QBo
set_option linter.unusedVariables false
end Go.Proofs.YtaonjmkfbfhanaaGreatDoor.Bk
namespace Go.Proofs.YtaonjmkfbfhanaaGreatDoor.Bk
open Go.RowKit Go.Proofs.YtaonjmkfbfhanaaGreatDoorW.PrintWords Go.Proofs.YtaonjmkfbfhanaaGreatDoor.Own Go.Proofs.YtaonjmkfbfhanaaGreatDoor.G Go.Proofs.YtaonjmkfbfhanaaGreatDoor.Wk Go.Proofs.YtaonjmkfbfhanaaGreatDoor.QBo
set_option linter.unusedVariables false
/-- The key of the last of the entries. -/
def lastK (es : List En) : ByteArray := if es.length = 0 then (⟨#[]⟩ : ByteArray) else (rd_T53 es ((es.length - 1 : Nat) : Int)).f0
end Go.Proofs.YtaonjmkfbfhanaaGreatDoor.Bk
namespace Go.Proofs.YtaonjmkfbfhanaaGreatDoor.Bk
open Go.RowKit Go.Proofs.YtaonjmkfbfhanaaGreatDoorW.PrintWords Go.Proofs.YtaonjmkfbfhanaaGreatDoor.Own Go.Proofs.YtaonjmkfbfhanaaGreatDoor.G Go.Proofs.YtaonjmkfbfhanaaGreatDoor.Wk Go.Proofs.YtaonjmkfbfhanaaGreatDoor.QBo
set_option linter.unusedVariables false
theorem lastK_snoc (es : List En) (x : En) : lastK (es ++ [x]) = x.f0 := by
  unfold lastK
  rw [if_neg (by simp)]
  simp [rd_T53]
end Go.Proofs.YtaonjmkfbfhanaaGreatDoor.Bk
namespace Go.Proofs.YtaonjmkfbfhanaaGreatDoor.U
open Go.RowKit Go.Proofs.YtaonjmkfbfhanaaGreatDoorW.PrintWords Go.Proofs.YtaonjmkfbfhanaaGreatDoor.Own
set_option linter.unusedVariables false
end Go.Proofs.YtaonjmkfbfhanaaGreatDoor.U
namespace Go.Proofs.YtaonjmkfbfhanaaGreatDoor.Bk
open Go.RowKit Go.Proofs.YtaonjmkfbfhanaaGreatDoorW.PrintWords Go.Proofs.YtaonjmkfbfhanaaGreatDoor.Own Go.Proofs.YtaonjmkfbfhanaaGreatDoor.G Go.Proofs.YtaonjmkfbfhanaaGreatDoor.U
set_option linter.unusedVariables false
def txL (s : ByteArray) : List Int := numL s.size ++ bytesOf s
/-- A maker: its restart, its entries' bytes, its places, how many entries, the last key. -/
structure Mk where
  rs : Nat
  data : List Int
  places : List Nat
  n : Nat
  last : ByteArray
def rsOf (r : Int) : Nat := if 1 ≤ r then r.toNat else 1
def newM (r : Int) : Mk := ⟨rsOf r, [], [], 0, (⟨#[]⟩ : ByteArray)⟩
/-- Why an entry can't be written at all. -/
def wrongE (e : En) : Int :=
  if e.f0.size = 0 then 10 else if 64 < e.f0.size then 11 else if e.f2 = false ∧ 512 < e.f3.size then 12
  else if 72057594037927935 < e.f1 ∨ e.f2 = true ∧ e.f3.size ≠ 0 then 91 else 0
def leK (a b : ByteArray) : Bool := Op.bytesLess a.toList b.toList || a.toList == b.toList
/-- How many bytes two keys begin with alike. -/
def lcp : List Int → List Int → Nat
  | x :: a, y :: b => if x = y then lcp a b + 1 else 0
  | _, _ => 0
def markE (e : En) : Nat := 2 * e.f1.toNat + if e.f2 = true then 1 else 0
/-- An entry's bytes, n of its key's bytes being shared. -/
def encE (n : Nat) (e : En) : List Int := numL n ++ (numL (e.f0.size - n) ++ (numL (markE e) ++ ((bytesOf e.f0).drop n ++ if e.f2 = true then [] else txL e.f3)))
def sharedM (m : Mk) (e : En) : Nat := if m.n % m.rs = 0 then 0 else lcp (bytesOf e.f0) (bytesOf m.last)
def pushM (m : Mk) (e : En) : Mk := ⟨m.rs, m.data ++ encE (sharedM m e) e, if m.n % m.rs = 0 then m.places ++ [m.data.length] else m.places, m.n + 1, e.f0⟩
/-- What Add answers, and the maker behind it. -/
def addM (m : Mk) (e : En) : Int × Mk := if wrongE e ≠ 0 then (wrongE e, m) else if 0 < m.n ∧ leK e.f0 m.last = true then (90, m) else (0, pushM m e)
def bodyM (m : Mk) : List Int := m.data ++ (m.places.flatMap fun (p : Nat) => fourL (p : Int)) ++ fourL (m.places.length : Int)
def bytesM (m : Mk) : List Int := bodyM m ++ fourL (sumF (bodyM m))
/-- A maker takes all of some entries. -/
def addsM : Mk → List En → Option Mk
  | m, [] => some m
  | m, e :: l => if (addM m e).1 = 0 then addsM (addM m e).2 l else none
/-- What a maker takes of some entries, and the maker behind them. -/
def madeM : Mk → List En → List En × Mk
  | m, [] => ([], m)
  | m, e :: l => if (addM m e).1 = 0 then (e :: (madeM (addM m e).2 l).1, (madeM (addM m e).2 l).2) else madeM (addM m e).2 l
def OkE (e : En) : Prop := 1 ≤ e.f0.size ∧ e.f0.size ≤ 64 ∧ 0 ≤ e.f1 ∧ e.f1 ≤ 72057594037927935 ∧ (e.f2 = false → e.f3.size ≤ 512) ∧ (e.f2 = true → e.f3.size = 0)
/-- An entry of Go's: its number is one. -/
def EnW (e : En) : Prop := 0 ≤ e.f1 ∧ e.f1 ≤ 18446744073709551615
theorem okE_of {e : En} (h : wrongE e = 0) (hw : EnW e) : OkE e := by
  unfold wrongE at h
  split at h
  · simp at h
  · split at h
    · simp at h
    · split at h
      · simp at h
      · split at h
        · simp at h
        · rename_i h1 h2 h3 h4
          have h5 := hw.1
          refine ⟨by omega, by omega, h5, ?_, fun hf => ?_, fun ht => ?_⟩
          · rcases Int.lt_or_le 72057594037927935 e.f1 with h | h
            · exact absurd (.inl h) h4
            · exact h
          · rcases Nat.lt_or_ge 512 e.f3.size with h | h
            · exact absurd ⟨hf, h⟩ h3
            · exact h
          · rcases Nat.eq_zero_or_pos e.f3.size with h | h
            · exact h
            · exact absurd (.inr ⟨ht, by omega⟩) h4
theorem lcp_le (a : List Int) : ∀ b, lcp a b ≤ a.length ∧ lcp a b ≤ b.length ∧ a.take (lcp a b) = b.take (lcp a b) := by
  induction a with
  | nil => intro b; simp [lcp]
  | cons x a ih =>
    intro b
    cases b with
    | nil => simp [lcp]
    | cons y b =>
      unfold lcp
      split
      · rename_i h
        obtain ⟨h1, h2, h3⟩ := ih b
        refine ⟨by simp; omega, by simp; omega, ?_⟩
        rw [List.take_succ_cons, List.take_succ_cons, h3, h]
      · simp
theorem bytesOf_extract (s : ByteArray) (i j : Nat) : bytesOf (s.extract i j) = ((bytesOf s).take j).drop i := by
  unfold bytesOf
  rw [ByteArray.data_extract, Array.toList_extract, List.extract_eq_take_drop, List.map_take, List.map_drop, List.drop_take]
theorem markE_lt {e : En} (h : OkE e) : markE e < 144115188075855872 := by
  obtain ⟨h1, h2, h3, h4, h5, h6⟩ := h
  unfold markE
  split <;> omega
end Go.Proofs.YtaonjmkfbfhanaaGreatDoor.Bk
namespace Go.Proofs.YtaonjmkfbfhanaaGreatDoor.Bk
open Go.RowKit Go.Proofs.YtaonjmkfbfhanaaGreatDoorW.PrintWords Go.Proofs.YtaonjmkfbfhanaaGreatDoor.Own Go.Proofs.YtaonjmkfbfhanaaGreatDoor.G Go.Proofs.YtaonjmkfbfhanaaGreatDoor.Wk Go.Proofs.YtaonjmkfbfhanaaGreatDoor.QBo
set_option linter.unusedVariables false
theorem infoI : (Tryz.prog.info? 3).map (fun i => (i.zero, i.size, i.bytes)) = some (some (.int .i64 0), 1, 8) := by kernel_rfl
abbrev u8 : Kd Int := Kd.int .u8
abbrev i64 : Kd Int := Kd.int .i64
def plcs (m : Mk) : List Int := m.places.map fun (p : Nat) => (p : Int)
def mkCells (m : Mk) (v1 v2 : Value) : Array Value := #[.int .i64 (m.rs : Int), v1, v2, .int .i64 (m.n : Int), .string m.last]
/-- The blocks that are a maker's. -/
def mkF (g : Nat) (v1 v2 : Value) (k : Nat) : Prop := k = g ∨ v1.ownBlock = some k ∨ v2.ownBlock = some k
def MkAt (W : World) (base g : Nat) (m : Mk) (v1 v2 : Value) : Prop :=
  W.heap[g]? = some (.cells (mkCells m v1 v2) 82 (0, 0)) ∧ base ≤ g ∧ u8.R 5 W base (fun _ => True) v1 m.data ∧ i64.R 3 W base (fun _ => True) v2 (plcs m)
/-- From a world w on, in which the blocks of F were the maker's: it stands so by now; no other block has changed. -/
def MkS (w W : World) (base g : Nat) (F : Nat → Prop) (m : Mk) : Prop :=
  ∃ v1 v2, MkAt W base g m v1 v2 ∧ Below base w W ∧ (∀ k, k < w.heap.size → ¬ F k → W.heap[k]? = w.heap[k]?) ∧ (∀ k, mkF g v1 v2 k → F k ∨ w.heap.size ≤ k)
section
variable {w W W' : World} {base g : Nat} {F : Nat → Prop} {m : Mk} {v1 v2 : Value}
theorem MkAt.start (h : MkAt w base g m v1 v2) : MkS w w base g (mkF g v1 v2) m := ⟨v1, v2, h, Below.refl _ _, fun _ _ _ => rfl, fun k hk => .inl hk⟩
theorem MkAt.below (h : MkAt W base g m v1 v2) (hb : Below W.heap.size W W') : MkAt W' base g m v1 v2 := ⟨(hb.block _ (blk_lt h.1)).trans h.1, h.2.1, Kd.R_below h.2.2.1 hb, Kd.R_below h.2.2.2 hb⟩
theorem MkS.below (h : MkS w W base g F m) (hb : Below W.heap.size W W') : MkS w W' base g F m := by
  obtain ⟨v1, v2, h1, h2, h3, h4⟩ := h
  have hs := h2.size
  exact ⟨v1, v2, h1.below hb, h2.trans (hb.mono (Nat.le_trans h1.2.1 (Nat.le_of_lt (blk_lt h1.1)))), fun k hk hF => (hb.block k (by omega)).trans (h3 k hk hF), h4⟩
theorem MkS.size (h : MkS w W base g F m) : w.heap.size ≤ W.heap.size := by
  obtain ⟨v1, v2, h1, h2, h3, h4⟩ := h
  exact h2.size
theorem MkS.bel (h : MkS w W base g F m) : Below base w W := by
  obtain ⟨v1, v2, h1, h2, h3, h4⟩ := h
  exact h2
theorem MkS.bs (h : MkS w W base g F m) : base ≤ W.heap.size := by
  obtain ⟨v1, v2, h1, h2, h3, h4⟩ := h
  exact Nat.le_trans h1.2.1 (Nat.le_of_lt (blk_lt h1.1))
theorem own_u8 {v : Value} {l : List Int} (h : u8.R 5 W base (fun _ => True) v l) {k : Nat} (hk : v.ownBlock = some k) : base ≤ k ∧ k < W.heap.size ∧ ∃ cs, W.heap[k]? = some (.cells cs 5 (0, 0)) := by
  obtain ⟨inner, ho⟩ := Kd.R_own h
  exact ⟨own_base ho k hk, own_lt ho k hk, own_typed ho k hk⟩
theorem own_i64 {v : Value} {l : List Int} (h : i64.R 3 W base (fun _ => True) v l) {k : Nat} (hk : v.ownBlock = some k) : base ≤ k ∧ k < W.heap.size ∧ ∃ cs, W.heap[k]? = some (.cells cs 3 (0, 0)) := by
  obtain ⟨inner, ho⟩ := Kd.R_own h
  exact ⟨own_base ho k hk, own_lt ho k hk, own_typed ho k hk⟩
/-- The maker's block by the maker's own look: a block of another type is none of the maker's. -/
theorem MkAt.other (h : MkAt W base g m v1 v2) {k T : Nat} {cs : Array Value} (hk : W.heap[k]? = some (.cells cs T (0, 0))) (h1 : T ≠ 82) (h2 : T ≠ 5) (h3 : T ≠ 3) : ¬ mkF g v1 v2 k := by
  rintro (rfl | hv | hv)
  · rw [h.1] at hk; injection hk with hk; injection hk with _ e; exact h1 e.symm
  · obtain ⟨_, _, cs', hc⟩ := own_u8 h.2.2.1 hv
    rw [hc] at hk; injection hk with hk; injection hk with _ e; exact h2 e.symm
  · obtain ⟨_, _, cs', hc⟩ := own_i64 h.2.2.2 hv
    rw [hc] at hk; injection hk with hk; injection hk with _ e; exact h3 e.symm
/-- The entries' bytes grow and are stored. -/
theorem MkAt.data {W1 : World} {v : Value} {l : List Int} (h : MkAt W base g m v1 v2) (hr : u8.R 5 W1 base (fun _ => True) v l) (hg : W.grownBy W1 v1.ownBlock) (hat : v.ownBlock = v1.ownBlock ∨ ∃ b, v.ownBlock = some b ∧ W.heap.size ≤ b) :
    MkAt (W1.setCell ⟨g, 1, none⟩ v) base g ⟨m.rs, l, m.places, m.n, m.last⟩ v v2 ∧ (∀ k, k < W.heap.size → ¬ mkF g v1 v2 k → (W1.setCell ⟨g, 1, none⟩ v).heap[k]? = W.heap[k]?) ∧ (∀ k, mkF g v v2 k → mkF g v1 v2 k ∨ W.heap.size ≤ k) := by
  obtain ⟨h1, h2, h3, h4⟩ := h
  have ng : some g ≠ v1.ownBlock := Kd.R_ne h3 h1 (by decide)
  have g1 := blk_grown h1 hg ng
  have nv : some g ≠ v.ownBlock := Kd.R_ne hr g1 (by decide)
  have n2 : ∀ k, v2.ownBlock = some k → some k ≠ v1.ownBlock := fun k hk e => by
    obtain ⟨_, _, c1, e1⟩ := own_i64 h4 hk
    obtain ⟨_, _, c2, e2⟩ := own_u8 h3 e.symm
    rw [e1] at e2; injection e2 with e2; injection e2 with _ e3; exact absurd e3 (by decide)
  have h4' : i64.R 3 W1 base (fun _ => True) v2 (plcs m) := Kd.R_mono (Kd.R_step (Kd.R_bound h4) (fun k hk hlt => by
    obtain ⟨_, _, _, q, hq, cs, hc⟩ := hk
    have hq' : q = 3 := by
      rcases List.mem_cons.1 hq with h | h
      · exact h
      · exact absurd h List.not_mem_nil
    subst hq'
    exact hg.block k hlt (fun e => by
      obtain ⟨_, _, c2, e2⟩ := own_u8 h3 e.symm
      rw [hc] at e2; injection e2 with e2; injection e2 with _ e3; exact absurd e3 (by decide)))) (fun _ _ => trivial)
  refine ⟨⟨?_, h2, Kd.R_set hr g1 (by decide) 1 v, Kd.R_set h4' g1 (by decide) 1 v⟩, ?_, ?_⟩
  · rw [blk_set g1 1 v]; rfl
  · intro k hk hF
    rw [Below.heap_setCell _ _ _ _ (fun e => hF (.inl e)), hg.block k hk (fun e => hF (.inr (.inl e.symm)))]
  · rintro k (rfl | hv | hv)
    · exact .inl (.inl rfl)
    · rcases hat with e | ⟨b, e, hb⟩
      · exact .inl (.inr (.inl (e ▸ hv)))
      · rw [e] at hv; injection hv with hv; exact .inr (by omega)
    · exact .inl (.inr (.inr hv))
/-- The places grow and are stored. -/
theorem MkAt.grow {W1 : World} {v : Value} {l : List Nat} (h : MkAt W base g m v1 v2) (hr : i64.R 3 W1 base (fun _ => True) v (l.map fun (p : Nat) => (p : Int))) (hg : W.grownBy W1 v2.ownBlock) (hat : v.ownBlock = v2.ownBlock ∨ ∃ b, v.ownBlock = some b ∧ W.heap.size ≤ b) :
    MkAt (W1.setCell ⟨g, 2, none⟩ v) base g ⟨m.rs, m.data, l, m.n, m.last⟩ v1 v ∧ (∀ k, k < W.heap.size → ¬ mkF g v1 v2 k → (W1.setCell ⟨g, 2, none⟩ v).heap[k]? = W.heap[k]?) ∧ (∀ k, mkF g v1 v k → mkF g v1 v2 k ∨ W.heap.size ≤ k) := by
  obtain ⟨h1, h2, h3, h4⟩ := h
  have ng : some g ≠ v2.ownBlock := Kd.R_ne h4 h1 (by decide)
  have g1 := blk_grown h1 hg ng
  have h3' : u8.R 5 W1 base (fun _ => True) v1 m.data := Kd.R_mono (Kd.R_step (Kd.R_bound h3) (fun k hk hlt => by
    obtain ⟨_, _, _, q, hq, cs, hc⟩ := hk
    have hq' : q = 5 := by
      rcases List.mem_cons.1 hq with h | h
      · exact h
      · exact absurd h List.not_mem_nil
    subst hq'
    exact hg.block k hlt (fun e => by
      obtain ⟨_, _, c2, e2⟩ := own_i64 h4 e.symm
      rw [hc] at e2; injection e2 with e2; injection e2 with _ e3; exact absurd e3 (by decide)))) (fun _ _ => trivial)
  refine ⟨⟨?_, h2, Kd.R_set h3' g1 (by decide) 2 v, Kd.R_set hr g1 (by decide) 2 v⟩, ?_, ?_⟩
  · rw [blk_set g1 2 v]; rfl
  · intro k hk hF
    rw [Below.heap_setCell _ _ _ _ (fun e => hF (.inl e)), hg.block k hk (fun e => hF (.inr (.inr e.symm)))]
  · rintro k (rfl | hv | hv)
    · exact .inl (.inl rfl)
    · exact .inl (.inr (.inl hv))
    · rcases hat with e | ⟨b, e, hb⟩
      · exact .inl (.inr (.inr (e ▸ hv)))
      · rw [e] at hv; injection hv with hv; exact .inr (by omega)
theorem MkAt.count (h : MkAt W base g m v1 v2) (n : Nat) : MkAt (W.setCell ⟨g, 3, none⟩ (.int .i64 (n : Int))) base g ⟨m.rs, m.data, m.places, n, m.last⟩ v1 v2 := by
  obtain ⟨h1, h2, h3, h4⟩ := h
  exact ⟨by rw [blk_set h1 3 _]; rfl, h2, Kd.R_set h3 h1 (by decide) 3 _, Kd.R_set h4 h1 (by decide) 3 _⟩
theorem MkAt.key (h : MkAt W base g m v1 v2) (s : ByteArray) : MkAt (W.setCell ⟨g, 4, none⟩ (.string s)) base g ⟨m.rs, m.data, m.places, m.n, s⟩ v1 v2 := by
  obtain ⟨h1, h2, h3, h4⟩ := h
  exact ⟨by rw [blk_set h1 4 _]; rfl, h2, Kd.R_set h3 h1 (by decide) 4 _, Kd.R_set h4 h1 (by decide) 4 _⟩
/-- One step of the maker's more. -/
theorem MkS.step {m' : Mk} {v1' v2' : Value} (hb : Below base w W) (hk : ∀ k, k < w.heap.size → ¬ F k → W.heap[k]? = w.heap[k]?) (hF : ∀ k, mkF g v1 v2 k → F k ∨ w.heap.size ≤ k) (h : MkAt W' base g m' v1' v2') (hb' : Below base W W') (hk' : ∀ k, k < W.heap.size → ¬ mkF g v1 v2 k → W'.heap[k]? = W.heap[k]?) (hF' : ∀ k, mkF g v1' v2' k → mkF g v1 v2 k ∨ W.heap.size ≤ k) : MkS w W' base g F m' := by
  have hs := hb.size
  refine ⟨v1', v2', h, hb.trans hb', fun k hkw hFk => ?_, fun k hkF => ?_⟩
  · refine (hk' k (by omega) (fun e => ?_)).trans (hk k hkw hFk)
    rcases hF k e with e | e
    · exact hFk e
    · omega
  · rcases hF' k hkF with e | e
    · exact hF k e
    · exact .inr (by omega)
/-- What is told of a world behind w. -/
def MkR (w W : World) (base g : Nat) (F : Nat → Prop) (v1 v2 : Value) : Prop := Below base w W ∧ (∀ k, k < w.heap.size → ¬ F k → W.heap[k]? = w.heap[k]?) ∧ (∀ k, mkF g v1 v2 k → F k ∨ w.heap.size ≤ k)
/-- Blocks of other types stay. -/
def Oth (W W' : World) : Prop := ∀ (k T : Nat) (cs : Array Value), W.heap[k]? = some (.cells cs T (0, 0)) → T ≠ 82 → T ≠ 5 → T ≠ 3 → W'.heap[k]? = some (.cells cs T (0, 0))
theorem MkS.open_ (h : MkS w W base g F m) : ∃ v1 v2, MkAt W base g m v1 v2 ∧ MkR w W base g F v1 v2 := h
theorem MkS.grow {W1 : World} {v : Value} {l : List Nat} (h : MkAt W base g m v1 v2) (hR : MkR w W base g F v1 v2) (hr : i64.R 3 W1 base (fun _ => True) v (l.map fun (p : Nat) => (p : Int))) (hg : W.grownBy W1 v2.ownBlock) (hat : v.ownBlock = v2.ownBlock ∨ ∃ b, v.ownBlock = some b ∧ W.heap.size ≤ b) :
    MkS w (W1.setCell ⟨g, 2, none⟩ v) base g F ⟨m.rs, m.data, l, m.n, m.last⟩ ∧ Oth W (W1.setCell ⟨g, 2, none⟩ v) := by
  obtain ⟨a1, a2, a3⟩ := h.grow hr hg hat
  have hbs : base ≤ W.heap.size := Nat.le_trans h.2.1 (Nat.le_of_lt (blk_lt h.1))
  have hb' : Below base W (W1.setCell ⟨g, 2, none⟩ v) := ((Below.refl base W).grown hg hbs (fun k hk => (own_i64 h.2.2.2 hk).1)).setCell (p := ⟨g, 2, none⟩) h.2.1 _
  exact ⟨MkS.step hR.1 hR.2.1 hR.2.2 a1 hb' a2 a3, fun k T cs hk t1 t2 t3 => (a2 k (blk_lt hk) (h.other hk t1 t2 t3)).trans hk⟩
theorem MkS.put {W1 : World} {v : Value} {l : List Int} (h : MkAt W base g m v1 v2) (hR : MkR w W base g F v1 v2) (hr : u8.R 5 W1 base (fun _ => True) v l) (hg : W.grownBy W1 v1.ownBlock) (hat : v.ownBlock = v1.ownBlock ∨ ∃ b, v.ownBlock = some b ∧ W.heap.size ≤ b) :
    MkS w (W1.setCell ⟨g, 1, none⟩ v) base g F ⟨m.rs, l, m.places, m.n, m.last⟩ ∧ Oth W (W1.setCell ⟨g, 1, none⟩ v) := by
  obtain ⟨a1, a2, a3⟩ := h.data hr hg hat
  have hbs : base ≤ W.heap.size := Nat.le_trans h.2.1 (Nat.le_of_lt (blk_lt h.1))
  have hb' : Below base W (W1.setCell ⟨g, 1, none⟩ v) := ((Below.refl base W).grown hg hbs (fun k hk => (own_u8 h.2.2.1 hk).1)).setCell (p := ⟨g, 1, none⟩) h.2.1 _
  exact ⟨MkS.step hR.1 hR.2.1 hR.2.2 a1 hb' a2 a3, fun k T cs hk t1 t2 t3 => (a2 k (blk_lt hk) (h.other hk t1 t2 t3)).trans hk⟩
theorem MkS.done (h : MkS w W base g F m) (n : Nat) (s : ByteArray) : MkS w ((W.setCell ⟨g, 3, none⟩ (.int .i64 (n : Int))).setCell ⟨g, 4, none⟩ (.string s)) base g F ⟨m.rs, m.data, m.places, n, s⟩ := by
  obtain ⟨v1, v2, h1, h2, h3, h4⟩ := h
  have a := (h1.count n).key s
  refine MkS.step h2 h3 h4 a (((Below.refl base W).setCell (p := ⟨g, 3, none⟩) h1.2.1 _).setCell (p := ⟨g, 4, none⟩) h1.2.1 _) (fun k hk hF => ?_) (fun k hk => .inl hk)
  have hne : k ≠ g := fun e => hF (.inl e)
  rw [Below.heap_setCell _ _ _ _ hne, Below.heap_setCell _ _ _ _ hne]
theorem MkR.drew (h : MkR w W base g F v1 v2) : MkR w W.drew base g F v1 v2 := ⟨below_drew h.1, h.2.1, h.2.2⟩
theorem MkR.below (h : MkR w W base g F v1 v2) (hb : Below W.heap.size W W') (hbs : base ≤ W.heap.size) : MkR w W' base g F v1 v2 := by
  have hs := h.1.size
  exact ⟨h.1.trans (hb.mono hbs), fun k hk hF => (hb.block k (by omega)).trans (h.2.1 k hk hF), h.2.2⟩
end
end Go.Proofs.YtaonjmkfbfhanaaGreatDoor.Bk
namespace Go.Proofs.YtaonjmkfbfhanaaGreatDoor.Bk
open Go.RowKit Go.Proofs.YtaonjmkfbfhanaaGreatDoorW.PrintWords Go.Proofs.YtaonjmkfbfhanaaGreatDoor.Own Go.Proofs.YtaonjmkfbfhanaaGreatDoor.G Go.Proofs.YtaonjmkfbfhanaaGreatDoor.U
set_option linter.unusedVariables false
def pushAll (m : Mk) (l : List En) : Mk := l.foldl pushM m
theorem pushAll_append (m : Mk) (a b : List En) : pushAll m (a ++ b) = pushAll (pushAll m a) b := by simp [pushAll]
theorem pushAll_rs (l : List En) : ∀ m : Mk, (pushAll m l).rs = m.rs ∧ (pushAll m l).n = m.n + l.length := by
  induction l with
  | nil => intro m; simp [pushAll]
  | cons e l ih =>
    intro m
    have := ih (pushM m e)
    unfold pushAll at this ⊢
    rw [List.foldl_cons, this.1, this.2]
    simp [pushM]
    omega
theorem lastK_pushAll (m : Mk) (l : List En) : l ≠ [] → (pushAll m l).last = lastK l := by
  intro h
  obtain ⟨l', x, rfl⟩ : ∃ l' x, l = l' ++ [x] := ⟨l.dropLast, l.getLast h, (List.dropLast_concat_getLast h).symm⟩
  rw [pushAll_append, lastK_snoc]
  rfl
theorem last_eq (r : Int) (l : List En) : (pushAll (newM r) l).last = lastK l := by
  by_cases h : l = []
  · subst h; rfl
  · exact lastK_pushAll _ _ h
theorem encE_pos (n : Nat) (e : En) : 3 ≤ (encE n e).length := by
  unfold encE
  simp only [List.length_append]
  have h1 := numL_pos n
  have h2 := numL_pos (e.f0.size - n)
  have h3 := numL_pos (markE e)
  omega
theorem shared_le (m : Mk) (e : En) : sharedM m e ≤ e.f0.size ∧ sharedM m e ≤ m.last.size ∧ (bytesOf e.f0).take (sharedM m e) = (bytesOf m.last).take (sharedM m e) := by
  unfold sharedM
  split
  · simp
  · have := lcp_le (bytesOf e.f0) (bytesOf m.last)
    rw [bytesOf_length, bytesOf_length] at this
    exact this
theorem rsOf_pos (r : Int) : 1 ≤ rsOf r := by unfold rsOf; split <;> omega
theorem snoc_rec {α : Type} {P : List α → Prop} (h0 : P []) (h1 : ∀ l x, P l → P (l ++ [x])) (l : List α) : P l := by
  rw [← List.reverse_reverse l]
  induction l.reverse with
  | nil => exact h0
  | cons x r ih => rw [List.reverse_cons]; exact h1 _ _ ih
theorem pushAll_snoc (m : Mk) (l : List En) (x : En) : pushAll m (l ++ [x]) = pushM (pushAll m l) x := by rw [pushAll_append]; rfl
theorem len_data (l : List En) : ∀ m : Mk, m.data.length + 3 * l.length ≤ (pushAll m l).data.length := by
  induction l with
  | nil => intro m; simp [pushAll]
  | cons e l ih =>
    intro m
    have h1 := ih (pushM m e)
    have h2 := encE_pos (sharedM m e) e
    have h3 : (pushM m e).data.length = m.data.length + (encE (sharedM m e) e).length := by simp [pushM]
    show m.data.length + 3 * (e :: l).length ≤ (pushAll (pushM m e) l).data.length
    rw [List.length_cons]
    omega
def lenAt (r : Int) (l : List En) (k : Nat) : Nat := (pushAll (newM r) (l.take k)).data.length
/-- The places of the restart points. -/
theorem places_inv (r : Int) (l : List En) : ((pushAll (newM r) l).places.length = 0 ↔ l.length = 0) ∧ (2 ≤ (pushAll (newM r) l).places.length ↔ rsOf r < l.length) ∧
    (rsOf r < l.length → (pushAll (newM r) l).places.getD 1 0 = lenAt r l (rsOf r)) ∧ (pushAll (newM r) l).places.length ≤ l.length := by
  have hr := rsOf_pos r
  refine snoc_rec (P := fun l => ((pushAll (newM r) l).places.length = 0 ↔ l.length = 0) ∧ (2 ≤ (pushAll (newM r) l).places.length ↔ rsOf r < l.length) ∧
    (rsOf r < l.length → (pushAll (newM r) l).places.getD 1 0 = lenAt r l (rsOf r)) ∧ (pushAll (newM r) l).places.length ≤ l.length) ?_ ?_ l
  · simp [pushAll, newM]
  · intro l x ⟨h1, h2, h3, h4⟩
    have hm := pushAll_rs l (newM r)
    have hn : (pushAll (newM r) l).n = l.length := by rw [hm.2]; simp [newM]
    have hrs : (pushAll (newM r) l).rs = rsOf r := hm.1
    have hlen : (l ++ [x]).length = l.length + 1 := by simp
    rw [pushAll_snoc, hlen]
    have hp : (pushM (pushAll (newM r) l) x).places = if l.length % rsOf r = 0 then (pushAll (newM r) l).places ++ [(pushAll (newM r) l).data.length] else (pushAll (newM r) l).places := by rw [← hn, ← hrs]; rfl
    have hla : ∀ k, k ≤ l.length → lenAt r (l ++ [x]) k = lenAt r l k := fun k hk => by unfold lenAt; rw [List.take_append_of_le_length hk]
    rw [hp]
    rcases Nat.lt_trichotomy l.length (rsOf r) with h | h | h
    · by_cases h0 : l.length = 0
      · rw [h0, if_pos (Nat.zero_mod _), List.length_append, List.length_singleton]
        have := h1.2 h0
        refine ⟨by omega, by omega, by omega, by omega⟩
      · rw [Nat.mod_eq_of_lt h, if_neg h0]
        refine ⟨by omega, by omega, by omega, by omega⟩
    · rw [h, Nat.mod_self, if_pos rfl, List.length_append, List.length_singleton]
      have e1 : (pushAll (newM r) l).places.length = 1 := by omega
      refine ⟨by omega, by omega, fun _ => ?_, by omega⟩
      rw [hla _ (by omega), List.getD_eq_getElem?_getD, List.getElem?_append_right (by omega), e1]
      unfold lenAt
      rw [← h, List.take_length]
      rfl
    · have e2 : 2 ≤ (pushAll (newM r) l).places.length := h2.2 h
      have e3 := h3 h
      by_cases hz : l.length % rsOf r = 0
      · rw [if_pos hz, List.length_append, List.length_singleton]
        refine ⟨by omega, by omega, fun _ => ?_, by omega⟩
        rw [hla _ (by omega), List.getD_eq_getElem?_getD, List.getElem?_append_left (by omega), ← List.getD_eq_getElem?_getD]
        exact e3
      · rw [if_neg hz]
        refine ⟨by omega, by omega, fun _ => ?_, by omega⟩
        rw [hla _ (by omega)]
        exact e3
theorem flat_len (l : List Nat) : (l.flatMap fun (p : Nat) => fourL (p : Int)).length = 4 * l.length := by
  induction l with
  | nil => rfl
  | cons p l ih => rw [List.flatMap_cons, List.length_append, ih, four_len, List.length_cons]; omega
theorem body_len (m : Mk) : (bodyM m).length = m.data.length + 4 * m.places.length + 4 := by
  unfold bodyM
  rw [List.length_append, List.length_append, flat_len, four_len]
theorem bytesM_len (m : Mk) : (bytesM m).length = m.data.length + 4 * m.places.length + 8 := by
  unfold bytesM
  rw [List.length_append, body_len, four_len]
theorem addM_zero {m : Mk} {e : En} (h : (addM m e).1 = 0) : (addM m e).2 = pushM m e ∧ wrongE e = 0 := by
  unfold addM at h ⊢
  by_cases h1 : wrongE e ≠ 0
  · rw [if_pos h1] at h
    exact absurd h h1
  · rw [if_neg h1] at h ⊢
    by_cases h2 : 0 < m.n ∧ leK e.f0 m.last = true
    · rw [if_pos h2] at h
      simp at h
    · rw [if_neg h2]
      exact ⟨rfl, by omega⟩
theorem addM_code {m m' : Mk} (hn : m.n = m'.n) (hl : m.last = m'.last) (e : En) : (addM m e).1 = (addM m' e).1 := by
  unfold addM
  rw [hn, hl]
  split
  · rfl
  · split <;> rfl
theorem adds_push : ∀ (l : List En) {m m' : Mk}, addsM m l = some m' → m' = pushAll m l ∧ (∀ e ∈ l, wrongE e = 0) ∧ madeM m l = (l, m') := by
  intro l
  induction l with
  | nil =>
    intro m m' h
    simp only [addsM, Option.some.injEq] at h
    subst h
    exact ⟨rfl, by simp, rfl⟩
  | cons e l ih =>
    intro m m' h
    unfold addsM at h
    by_cases h0 : (addM m e).1 = 0
    · rw [if_pos h0] at h
      have h1 := addM_zero h0
      obtain ⟨i1, i2, i3⟩ := ih h
      refine ⟨by rw [i1, h1.1]; rfl, fun x hx => ?_, by unfold madeM; rw [if_pos h0, i3]⟩
      rcases List.mem_cons.1 hx with rfl | hx
      · exact h1.2
      · exact i2 x hx
    · rw [if_neg h0] at h
      cases h
theorem adds_any : ∀ (l : List En) {m m' m1 : Mk}, m.n = m'.n → m.last = m'.last → addsM m l = some m1 → addsM m' l = some (pushAll m' l) := by
  intro l
  induction l with
  | nil => intro m m' m1 _ _ _; rfl
  | cons e l ih =>
    intro m m' m1 hn hl h
    unfold addsM at h ⊢
    by_cases h0 : (addM m e).1 = 0
    · rw [if_pos h0] at h
      have h0' : (addM m' e).1 = 0 := by rw [← addM_code hn hl]; exact h0
      rw [if_pos h0']
      have e1 := (addM_zero h0).1
      have e2 := (addM_zero h0').1
      rw [e1] at h
      rw [e2]
      exact ih (m := pushM m e) (by simp [pushM, hn]) rfl h
    · rw [if_neg h0] at h
      cases h
end Go.Proofs.YtaonjmkfbfhanaaGreatDoor.Bk
namespace Go.Proofs.YtaonjmkfbfhanaaGreatDoor.Bk
open Go.RowKit Go.Proofs.YtaonjmkfbfhanaaGreatDoorW.PrintWords Go.Proofs.YtaonjmkfbfhanaaGreatDoor.Own Go.Proofs.YtaonjmkfbfhanaaGreatDoor.G Go.Proofs.YtaonjmkfbfhanaaGreatDoor.Wk Go.Proofs.YtaonjmkfbfhanaaGreatDoor.QBo
set_option linter.unusedVariables false
def szM (m : Mk) : Nat := m.data.length + 4 * m.places.length + 8
set_option maxHeartbeats 1000000 in
theorem size_calls {w : World} {base g : Nat} {m : Mk} {v1 v2 : Value} (hM : MkAt w base g m v1 v2) (hd : m.data.length ≤ 1099511627776) (hp : m.places.length ≤ 1099511627776) :
    Calls Tryz.prog 7 #[.pointer (some ⟨g, 0, none⟩)] w fun e w' => e = .returned (.int .i64 (szM m : Int)) ∧ ∃ n, w' = w.drewN n := by
  obtain ⟨A1, q1, e1⟩ := Kd.R_slice hM.2.2.1
  obtain ⟨A2, q2, e2⟩ := Kd.R_slice hM.2.2.2
  subst e1 e2
  have hpl : (plcs m).length = m.places.length := by simp [plcs]
  have c1 : w.cell? ⟨g, 1, none⟩ = some (.slice A1 m.data.length q1) := by rw [blk_cell hM.1]; rfl
  have c2 : w.cell? ⟨g, 2, none⟩ = some (.slice A2 m.places.length q2) := by rw [blk_cell hM.1, ← hpl]; rfl
  have HS : Aside0 ((m.data.length : Int) + 4 * (m.places.length : Int) + 8 = (szM m : Int)) := ⟨by unfold szM; omega⟩
  clear hM hpl
  go_enter Tryz.func7, Tryz.ntmps7
  go_wp2_with fail
  repeat (go_quiet (fail); try (go_wp2_with fail))
  go_ret
  exact ⟨by rw [← HS.out]; rfl, by first | exact ⟨0, rfl⟩ | exact ⟨_, rfl⟩⟩
theorem four_calls {w w0 : World} {v : Value} {l : List Int} {x : Int} (hB : Below w0.heap.size w0 w) (ho : (Kd.int .u8).R 5 w w0.heap.size (fun _ => True) v l) (hx : U32 x) (hl : l.length + 4 < 140737488355328) :
    Calls Tryz.prog 31 #[v, .int .u32 x] w fun e w' => ∃ v', e = .returned v' ∧ (Kd.int .u8).R 5 w' w0.heap.size (fun _ => True) v' (l ++ fourL x) ∧ Below w0.heap.size w0 w' :=
  (block_four.calls (fun _ => True) v l x (l ++ fourL x) w0 w hB ho (by
    unfold block_four.f
    rw [Option.bind_some, four_eq hx, if_pos (by rw [four_len]; exact hl)])).mono fun e w' ⟨v', h1, h2, h3, _⟩ => ⟨v', h1, Kd.R_mono h2 (fun _ _ => trivial), h3⟩
theorem sum_calls' {w : World} {A : Option Addr} {c : Nat} {l : List Int} (h : Kd.C (Kd.int .u8) w A l.length l) (hc : l.length ≤ c) (hb : Bytes l) (hT : GT w) : Calls Tryz.prog 32 #[.slice A l.length c] w fun e w' => e = .returned (.int .u32 (sumF l)) ∧ w' = w :=
  codec_Sum.calls A c l (sumF l) w h hc (by unfold codec_Sum.f; rw [if_pos (okB_iff.2 hb)]) hT
theorem made_row (W : World) (base n : Nat) (hb : base ≤ W.heap.size) (hn : n ≤ 140737488355328) : (Kd.int .u8).R 5 (W.alloc (.cells (madeCells (Value.int .u8 0).cells n) 5)) base (fun _ => True) (.slice (some ⟨W.heap.size, 0, none⟩) 0 n) ([] : List Int) := by
  refine ⟨fun _ _ => trivial, [], ?_, Reps.none _ _⟩
  refine ⟨by simp [Kd.int, Kd.scalar], .inr ⟨W.heap.size, n, madeCells (Value.int .u8 0).cells n, rfl, hb, heap_alloc_new W _, Nat.zero_le _, by simp [maxLen]; omega, by simp [size_madeCells, Kd.int, Kd.scalar], by simp⟩⟩
theorem int_at {k : IntKind} {w : World} {A : Option Addr} {n : Nat} {xs : List Int} (h : Kd.C (Kd.int k) w A n xs) (i : Nat) (h1 : i < n) : ∃ ad, A = some ad ∧ w.cell? (ad.add i) = some (.int k (xs.getD i 0)) := by
  obtain ⟨ad, c, h2, h3, h4, h5⟩ := Kd.C_get h 0 (i : Int) (by omega) (by omega)
  refine ⟨ad, h2, ?_⟩
  have h6 : c = [.int k (xs.getD i 0)] := by have h7 : c = [.int k (xs.getD ((i : Int).toNat) 0)] := h4; rw [Int.toNat_natCast] at h7; exact h7
  subst h6
  have := h5 0 _ rfl
  have hsz : (Kd.int k).sz = 1 := rfl
  rw [hsz] at this
  simpa using this
def flat4 (l : List Nat) : List Int := l.flatMap fun (p : Nat) => fourL (p : Int)
theorem flat4_len (l : List Nat) : (flat4 l).length = 4 * l.length := by
  induction l with
  | nil => rfl
  | cons p l ih =>
    unfold flat4 at ih ⊢
    rw [List.flatMap_cons, List.length_append, ih, four_len, List.length_cons]; omega
theorem flat4_succ (l : List Nat) (k : Nat) (h : k < l.length) : flat4 (l.take (k + 1)) = flat4 (l.take k) ++ fourL (l[k] : Int) := by
  unfold flat4
  rw [List.take_succ_eq_append_getElem h, List.flatMap_append]
  simp
theorem flat4_bytes {l : List Nat} (h : ∀ p ∈ l, p < 4294967296) : Bytes (flat4 l) := by
  intro y hy
  unfold flat4 at hy
  obtain ⟨p, hp, hy⟩ := List.mem_flatMap.1 hy
  exact bytes_four (x := (p : Int)) ⟨by omega, by have := h p hp; omega⟩ y hy
set_option maxHeartbeats 8000000 in
set_option maxRecDepth 100000 in
theorem bytes_calls {w : World} {base g : Nat} {m : Mk} {v1 v2 : Value} (hM : MkAt w base g m v1 v2) (hd : m.data.length ≤ 1073741824) (hp : m.places.length ≤ 1073741824) (hb : Bytes m.data) (hpl : ∀ p ∈ m.places, p < 4294967296) (hT : GT w) :
    Calls Tryz.prog 12 #[.pointer (some ⟨g, 0, none⟩)] w (Made (Kd.int .u8) 5 w (bytesM m)) := by
  have HM := Aside0.mk hM
  have HB := Aside0.mk hb
  have HPl := Aside0.mk hpl
  have HT := Aside0.mk hT
  clear hM hb hpl hT
  go_enter Tryz.func12, Tryz.ntmps12
  go_wp2_with fail
  go_upto_region 1 with fail
  go_cut [3] (fun s3 wx => ∃ A n c, s3 = .slice A n c ∧ Aside0 ((Kd.int .u8).R 5 wx w.heap.size (fun _ => True) (.slice A n c) m.data) ∧ Aside0 (Below w.heap.size w wx))
  case first =>
    as_aux_lemma =>
      obtain ⟨i0, hi, hzz⟩ := Option.map_eq_some_iff.1 (infoU)
      simp only [Prod.mk.injEq] at hzz
      obtain ⟨hz0, hz1, hz2⟩ := hzz
      obtain ⟨n, hn⟩ : ∃ n, szM m = n := ⟨_, rfl⟩
      have hnl : n ≤ 140737488355328 := by rw [← hn]; unfold szM; omega
      have HSz : Aside0 (∀ W : World, Below w.heap.size w W → Calls Tryz.prog 7 #[.pointer (some ⟨g, 0, none⟩)] W fun e w' => e = .returned (.int .i64 (n : Int)) ∧ ∃ k, w' = W.drewN k) := ⟨fun W hW => by rw [← hn]; exact size_calls (HM.out.below hW) (by omega) (by omega)⟩
      have hmk : ∀ W : World, (Instr.makeSlice 57 (.int .i64 0) (.int .i64 (n : Int))).run Tryz.prog W = .ok (.slice (some ⟨W.heap.size, 0, none⟩) 0 n) (W.alloc (.cells (madeCells (Value.int .u8 0).cells n) 5)) := fun W => by
        have := run_make (P := Tryz.prog) W 57 5 i0 (.int .u8 0) Tryz.underlying57 hi hz0 .i64 .i64 0 (n : Int) (by omega) (by omega) (by rw [hz2]; omega) (by omega)
        simpa [hz1] using this
      obtain ⟨A1, q1, e1⟩ := Kd.R_slice HM.out.2.2.1
      subst e1
      have HC : Aside0 (∀ W : World, Below w.heap.size w W → W.cell? ⟨g, 1, none⟩ = some (.slice A1 m.data.length q1)) := ⟨fun W hW => by rw [blk_cell (HM.out.below hW).1]; rfl⟩
      have c0 := HC.out w (Below.refl _ _)
      clear hn hi hz0 hz1 hz2
      go_region_law (first | (refine Kd.R_append_rows_step (Kd.int .u8) (w0 := w) w.heap.size (by rfl) (.tmp 8) (.tmp 12) 57 5 (.int .u8 0) 1 rfl Tryz.underlying57 infoU rfl (by decide) (by omega) _ ([] : List Int) m.data _ _ _ (fun _ => True) (fun _ => False) (by rfl) (by rfl) HMR.out (Kd.C_below (Kd.R_reads' HM.out.2.2.1).2.2 HBA.out) (fun _ _ h => h) (fun _ h => h.elim) (fun _ _ => trivial) HBA.out HBA.out.size (by simp; omega) ?_; intro v W3 ho hb hg hat; (obtain ⟨Av, qv, ev⟩ := Kd.R_slice ho); subst ev; (have HO3 := Aside0.mk ho); (have HB3 := Aside0.mk hb); clear ho hb hg hat) | (go_simp; go_at_call 7; go_must (refine (HSz.out _ (by repeat (first | exact Below.refl _ _ | apply pw_below_drewN | apply below_drew))).mono ?_); rintro en W2 ⟨rfl, kk, hkk⟩; (have hB2 : Below w.heap.size w W2 := (by rw [hkk]; repeat (first | exact Below.refl _ _ | apply pw_below_drewN | apply below_drew))); (have c2 := HC.out W2 hB2); (have cA := HC.out _ (hB2.alloc hB2.size (.cells (madeCells #[.int .u8 0] n) 5))); (have HBA := Aside0.mk (hB2.alloc hB2.size (.cells (madeCells #[.int .u8 0] n) 5))); (have HMR := Aside0.mk (made_row W2 w.heap.size n hB2.size hnl)); clear hkk hB2))
      all_goals (try (go_wp2_with fail))
      all_goals (go_meet; case rel => exact ⟨Av, _, qv, rfl, HO3, HB3⟩)
  case rest =>
    obtain ⟨A, n, c, rfl, HO, HBw⟩ := hcut
    have hM1 := HM.out.below HBw.out
    obtain ⟨A2, q2, e2⟩ := Kd.R_slice HM.out.2.2.2
    have hplc : (plcs m).length = m.places.length := by simp [plcs]
    rw [hplc] at e2
    subst e2
    have c2 : wc.cell? ⟨g, 2, none⟩ = some (.slice A2 m.places.length q2) := by rw [blk_cell hM1.1]; rfl
    have HC2 : Aside0 (Kd.C (Kd.int .i64) w A2 m.places.length (plcs m)) := ⟨by have z := (Kd.R_reads' HM.out.2.2.2).2.2; rwa [hplc] at z⟩
    clear hM1 hplc
    go_wp2_with fail
    go_loopw [3, 19] (fun s3 s19 wr => ∃ k : Nat, s19 = .int .i64 (k : Int) ∧ k ≤ m.places.length ∧ Aside0 ((Kd.int .u8).R 5 wr w.heap.size (fun _ => True) s3 (m.data ++ flat4 (m.places.take k))) ∧ Aside0 (Below w.heap.size w wr)) (fun _ s19 _ => m.places.length - (intOf s19).toNat)
    case atStart => exact ⟨0, rfl, Nat.zero_le _, ⟨by have z := HO.out; simpa [flat4] using z⟩, HBw⟩
    case round =>
      clear HO HBw c2
      obtain ⟨k, rfl, hk, HO, HBw⟩ := hrel
      by_cases hlt : k < m.places.length
      · obtain ⟨ad, ea, hx⟩ := int_at (Kd.C_below HC2.out HBw.out) k hlt
        subst ea
        have hg : (plcs m).getD k 0 = ((m.places[k] : Nat) : Int) := by unfold plcs; simp [List.getD_eq_getElem?_getD, hlt]
        rw [hg] at hx
        obtain ⟨p, hp⟩ : ∃ p, m.places[k] = p := ⟨_, rfl⟩
        have hp4 : p < 4294967296 := by rw [← hp]; exact HPl.out _ (List.getElem_mem hlt)
        rw [hp] at hx
        have HN : Aside0 (m.data ++ flat4 (m.places.take k) ++ fourL (p : Int) = m.data ++ flat4 (m.places.take (k + 1))) := ⟨by rw [flat4_succ _ _ hlt, hp, List.append_assoc]⟩
        have HLn : Aside0 ((m.data ++ flat4 (m.places.take k)).length + 4 < 140737488355328) := ⟨by rw [List.length_append, flat4_len, List.length_take]; omega⟩
        have w1 : IntKind.u32.wrap (p : Int) = (p : Int) := by simp [IntKind.wrap, IntKind.bits, IntKind.signed]; omega
        clear hp hg
        go_wp2_with fail
        refine (four_calls HBw.out HO.out ⟨by omega, by omega⟩ HLn.out).mono ?_
        rintro en W2 ⟨v', rfl, ho', hb'⟩
        have HO2 := Aside0.mk (HN.out ▸ ho')
        have HB2 := Aside0.mk hb'
        clear ho' hb' hx
        go_wp2_with fail
        go_roundw
        case rel => exact ⟨k + 1, by go_num, by omega, HO2, HB2⟩
        case measure => simp [intOf]; omega
      · obtain rfl : k = m.places.length := by omega
        have HO1 : Aside0 ((Kd.int .u8).R 5 wr w.heap.size (fun _ => True) u3 (m.data ++ flat4 m.places)) := ⟨by have z := HO.out; rwa [List.take_length] at z⟩
        have c2 : wr.cell? ⟨g, 2, none⟩ = some (.slice A2 m.places.length q2) := by rw [blk_cell (HM.out.below HBw.out).1]; rfl
        have HLn : Aside0 ((m.data ++ flat4 m.places).length + 4 < 140737488355328) := ⟨by rw [List.length_append, flat4_len]; omega⟩
        have w1 : IntKind.u32.wrap (m.places.length : Int) = (m.places.length : Int) := by simp [IntKind.wrap, IntKind.bits, IntKind.signed]; omega
        have HBd : Aside0 (m.data ++ flat4 m.places ++ fourL (m.places.length : Int) = bodyM m) := ⟨rfl⟩
        clear HO hk hlt
        go_wp2_with fail
        refine (four_calls HBw.out HO1.out ⟨by omega, by omega⟩ HLn.out).mono ?_
        rintro en W2 ⟨v', rfl, ho', hb'⟩
        rw [HBd.out] at ho'
        obtain ⟨A5, q5, e5⟩ := Kd.R_slice ho'
        subst e5
        have HO2 := Aside0.mk ho'
        have HB2 := Aside0.mk hb'
        have HBB : Aside0 (Bytes (bodyM m)) := ⟨bytes_app (bytes_app HB.out (flat4_bytes HPl.out)) (bytes_four ⟨by omega, by omega⟩)⟩
        have hbl : (bodyM m).length + 4 < 140737488355328 := by rw [← HBd.out, List.length_append, List.length_append, flat4_len, four_len]; omega
        clear ho' hb' c2 w1
        go_wp2_with fail
        refine (sum_calls' (Kd.R_reads' HO2.out).2.2 (Kd.R_reads' HO2.out).2.1 HBB.out (HT.out.below HB2.out)).mono ?_
        rintro en W3 ⟨rfl, hw3⟩
        subst hw3
        go_wp2_with fail
        refine (four_calls HB2.out HO2.out (sumF_range HBB.out) hbl).mono ?_
        rintro en W4 ⟨v', rfl, ho', hb'⟩
        have HO4 := Aside0.mk ho'
        have HB4 := Aside0.mk hb'
        clear ho' hb'
        go_wp2_with fail
        go_ret
        exact Made.of ⟨v', rfl, HO4.out, HB4.out⟩
end Go.Proofs.YtaonjmkfbfhanaaGreatDoor.Bk
namespace Go.Proofs.YtaonjmkfbfhanaaGreatDoor.Bk
open Go.RowKit Go.Proofs.YtaonjmkfbfhanaaGreatDoorW.PrintWords Go.Proofs.YtaonjmkfbfhanaaGreatDoor.Own Go.Proofs.YtaonjmkfbfhanaaGreatDoor.G Go.Proofs.YtaonjmkfbfhanaaGreatDoor.Wk Go.Proofs.YtaonjmkfbfhanaaGreatDoor.QBo
set_option linter.unusedVariables false
theorem mkAt_new (w : World) (r : Int) : MkAt (w.alloc (.cells #[.int .i64 (rsOf r : Int), .slice none 0 0, .slice none 0 0, .int .i64 0, .string (⟨#[]⟩ : ByteArray)] 82)) w.heap.size w.heap.size (newM r) (.slice none 0 0) (.slice none 0 0) :=
  ⟨heap_alloc_new w _, Nat.le_refl _, Kd.R_nil _ _ _ _ _, Kd.R_nil _ _ _ _ _⟩
def NewPost (w : World) (r : Int) (e : Ending) (w' : World) : Prop := ∃ v1 v2, e = .returned (.pointer (some ⟨w.heap.size, 0, none⟩)) ∧ MkAt w' w.heap.size w.heap.size (newM r) v1 v2 ∧ Below w.heap.size w w'
theorem new_calls (r : Int) (w : World) : Calls Tryz.prog 6 #[.int .i64 r] w (NewPost w r) := by
  obtain ⟨j, hj⟩ : ∃ j : Int, (rsOf r : Int) = j := ⟨_, rfl⟩
  have HJ := Aside0.mk hj
  have hj2 : (if r < 1 then 1 else r) = j := by rw [← hj]; unfold rsOf; split <;> split <;> omega
  clear hj
  go_enter Tryz.func6, Tryz.ntmps6
  go_wp2_with fail
  go_ret
  refine ⟨.slice none 0 0, .slice none 0 0, rfl, ?_, below_alloc (Below.refl _ _) _⟩
  have := mkAt_new w r
  rw [HJ.out] at this
  exact this
/-- A maker that took k entries. -/
structure GoodM (r : Int) (m : Mk) (k : Nat) : Prop where
  rs : m.rs = rsOf r
  n : m.n = k
  data : m.data.length ≤ 700 * k
  bytes : Bytes m.data
  places : m.places.length ≤ k
  small : ∀ p ∈ m.places, p ≤ m.data.length
  last : m.last.size ≤ 64
theorem goodM_new (r : Int) : GoodM r (newM r) 0 := ⟨rfl, rfl, by simp [newM], fun x hx => by simp [newM] at hx, by simp [newM], fun p hp => by simp [newM] at hp, Nat.zero_le _⟩
theorem txL_len (s : ByteArray) (h : s.size ≤ 512) : (txL s).length ≤ 522 := by
  have := numL_len10 (n := s.size) (by omega)
  unfold txL
  rw [List.length_append, bytesOf_length]
  omega
theorem bytesOf_bytes (s : ByteArray) : Bytes (bytesOf s) := fun x hx => by
  simp only [bytesOf, List.mem_map] at hx
  obtain ⟨b, _, rfl⟩ := hx
  have := b.toNat_lt
  omega
theorem encE_bound {n : Nat} {e : En} (h : OkE e) (hn : n ≤ e.f0.size) : (encE n e).length ≤ 700 ∧ Bytes (encE n e) := by
  have hm := markE_lt h
  obtain ⟨h1, h2, h3, h4, h5, h6⟩ := h
  have a1 := numL_len10 (n := n) (by omega)
  have a2 := numL_len10 (n := e.f0.size - n) (by omega)
  have a3 := numL_len10 (n := markE e) (by omega)
  have a4 : (if e.f2 = true then [] else txL e.f3).length ≤ 522 := by
    cases hd : e.f2 with
    | true => simp
    | false => simpa using txL_len e.f3 (h5 hd)
  unfold encE
  refine ⟨by simp only [List.length_append, List.length_drop, bytesOf_length]; omega, bytes_app (numL_bytes _) (bytes_app (numL_bytes _) (bytes_app (numL_bytes _) (bytes_app (fun x hx => bytesOf_bytes _ x (List.mem_of_mem_drop hx)) ?_)))⟩
  cases e.f2 with
  | true => intro x hx; simp at hx
  | false => simpa [txL] using bytes_app (numL_bytes e.f3.size) (bytesOf_bytes e.f3)
theorem goodM_step {r : Int} {m : Mk} {k : Nat} {e : En} (h : GoodM r m k) (h0 : (addM m e).1 = 0) (hw : EnW e) : GoodM r (addM m e).2 (k + 1) := by
  obtain ⟨e1, e2⟩ := addM_zero h0
  have hok := okE_of e2 hw
  obtain ⟨b1, b2⟩ := encE_bound (n := sharedM m e) hok (shared_le m e).1
  rw [e1]
  refine ⟨h.rs, by show m.n + 1 = k + 1; rw [h.n], ?_, bytes_app h.bytes b2, ?_, ?_, hok.2.1⟩
  · show (m.data ++ _).length ≤ _
    rw [List.length_append]
    have := h.data
    omega
  · show (if _ then m.places ++ [m.data.length] else m.places).length ≤ _
    have := h.places
    split
    · rw [List.length_append, List.length_singleton]; omega
    · omega
  · intro p hp
    show p ≤ (m.data ++ _).length
    rw [List.length_append]
    have hp' : p ∈ (if m.n % m.rs = 0 then m.places ++ [m.data.length] else m.places) := hp
    split at hp'
    · rcases List.mem_append.1 hp' with hp' | hp'
      · have := h.small p hp'; omega
      · have : p = m.data.length := by simpa using hp'
        omega
    · have := h.small p hp'; omega
end Go.Proofs.YtaonjmkfbfhanaaGreatDoor.Bk
