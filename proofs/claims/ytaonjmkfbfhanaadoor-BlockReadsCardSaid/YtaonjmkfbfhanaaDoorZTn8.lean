/- Lemmas of this claim's own, put together: QBox12, QBox1, QBox13, RfC, RfD. -/
import Derived.Test.YtaonjmkfbfhanaaDoorZTn2
import Derived.Test.YtaonjmkfbfhanaaDoorZTn5
import Derived.Test.YtaonjmkfbfhanaaDoorZTn7
import Derived.Test.YtaonjmkfbfhanaaDoorZTn4
namespace Go.Proofs.YtaonjmkfbfhanaaDoor.QBo
open Go.Proofs.YtaonjmkfbfhanaaDoor.Own
open Go.RowKit Go.Proofs.YtaonjmkfbfhanaaDoorW.PrintWords Go.Proofs.YtaonjmkfbfhanaaDoorW.PrintLast Go.Proofs.YtaonjmkfbfhanaaDoorW.PrintMore
attribute [local go_sem] max2_int min2_int max_two min_two max_three min_three max_four min_four   -- for this text's walks alone
set_option linter.unusedVariables false
set_option linter.unusedSimpArgs false
mutual
def screeref9_Open.j0 : Nat → List Int → Int → Int → Bool → Option ((List (S30)) × Bool)
  | 0, _, _, _, _ => none
  | k + 1, x0, x4, x5, x39 => if x39 = true then (some (([] : List (S30)), false)) else (screeref9_Open.l0 k x0 x4 x5 ([] : List (S30)) (⟨#[]⟩ : ByteArray) 0 0)
def screeref9_Open.l0 : Nat → List Int → Int → Int → List (S30) → ByteArray → Int → Int → Option ((List (S30)) × Bool)
  | 0, _, _, _, _, _, _, _ => none
  | k + 1, x0, x4, x5, x6, x7, x8, x9 => if x9 < x5 then (if x4 ≥ 2 then (if x9 > 0 then (if 0 ≤ (wrap64 (x5 + 4)) then (if (wrap64 (x5 + 4)) ≤ (x0.length : Int) then ((screeref9_number.f (x0.drop ((wrap64 (x5 + 4)) : Int).toNat)).bind fun t278 => (screeref9_Open.j2 k x0 x4 x5 x6 x7 x8 x9 (x9 == t278))) else (none)) else (none)) else (screeref9_Open.j2 k x0 x4 x5 x6 x7 x8 x9 false)) else (screeref9_Open.j2 k x0 x4 x5 x6 x7 x8 x9 false)) else (if x4 ≥ 2 then (screeref9_Open.j4 k x0 x6 x8) else (screeref9_Open.j4 k x0 x6 (x6.length : Int)))
def screeref9_Open.j2 : Nat → List Int → Int → Int → List (S30) → ByteArray → Int → Int → Bool → Option ((List (S30)) × Bool)
  | 0, _, _, _, _, _, _, _, _ => none
  | k + 1, x0, x4, x5, x6, x7, x8, x9, x57 => if x57 = true then (screeref9_Open.j3 k x0 x4 x5 x6 x7 (x6.length : Int) x9) else (screeref9_Open.j3 k x0 x4 x5 x6 x7 x8 x9)
def screeref9_Open.j3 : Nat → List Int → Int → Int → List (S30) → ByteArray → Int → Int → Option ((List (S30)) × Bool)
  | 0, _, _, _, _, _, _, _ => none
  | k + 1, x0, x4, x5, x6, x7, x8, x9 => if 0 ≤ x9 then (if x9 ≤ x5 then (if x5 ≤ (x0.length : Int) then ((screeref9_entry.f k ((x0.take (x5 : Int).toNat).drop (x9 : Int).toNat) x7).bind fun bt280 => (if bt280.2.2.2.2 = 0 then (some (([] : List (S30)), false)) else ((screeref9_Adds.f k x6 bt280.1 bt280.2.1 bt280.2.2.1 bt280.2.2.2.1).bind fun t286 => (if t286 = 0 then (if x6.length < 2932031007402 then (screeref9_Open.l0 k x0 x4 x5 (x6 ++ [(⟨bt280.1, bt280.2.1, bt280.2.2.1, bt280.2.2.2.1⟩ : S30)]) bt280.1 x8 (wrap64 (x9 + bt280.2.2.2.2))) else (none)) else (some (([] : List (S30)), false)))))) else (none)) else (none)) else (none)
def screeref9_Open.j4 : Nat → List Int → List (S30) → Int → Option ((List (S30)) × Bool)
  | 0, _, _, _ => none
  | k + 1, x0, x6, x12 => if (x6.length : Int) > 0 then (screeref9_Open.j5 k x0 x6 x12 (decide (x12 < 1))) else (screeref9_Open.j5 k x0 x6 x12 false)
def screeref9_Open.j5 : Nat → List Int → List (S30) → Int → Bool → Option ((List (S30)) × Bool)
  | 0, _, _, _, _ => none
  | k + 1, x0, x6, x12, x97 => if x97 = true then (some (([] : List (S30)), false)) else ((screeref9_Bytes.f k x6 x12).bind fun t290 => ((screeref9_same.f k t290 x0).bind fun t293 => (some (x6, t293))))
end
def screeref9_Open.f (k : Nat) (l0 : List Int) : Option ((List (S30)) × Bool) := if (l0.length : Int) < 8 then (some (([] : List (S30)), false)) else (if 0 ≤ (wrap64 ((l0.length : Int) - 8)) then (if (wrap64 ((l0.length : Int) - 8)) ≤ (l0.length : Int) then ((screeref9_number.f (l0.drop ((wrap64 ((l0.length : Int) - 8)) : Int).toNat)).bind fun t276 => (if t276 < 0 then (screeref9_Open.j0 k l0 t276 (wrap64 ((wrap64 ((l0.length : Int) - 8)) - (wrap64 (4 * t276)))) true) else (if t276 > (l0.length : Int) then (screeref9_Open.j0 k l0 t276 (wrap64 ((wrap64 ((l0.length : Int) - 8)) - (wrap64 (4 * t276)))) true) else (screeref9_Open.j0 k l0 t276 (wrap64 ((wrap64 ((l0.length : Int) - 8)) - (wrap64 (4 * t276)))) (decide ((wrap64 ((wrap64 ((l0.length : Int) - 8)) - (wrap64 (4 * t276)))) < 0)))))) else (none)) else (none))
theorem screeref9_Open.mono_l : ∀ k, (∀ y0 y1 y2 y3, LeO (screeref9_Open.j0 k y0 y1 y2 y3) (screeref9_Open.j0 (k + 1) y0 y1 y2 y3)) ∧ (∀ y0 y1 y2 y3 y4 y5 y6, LeO (screeref9_Open.l0 k y0 y1 y2 y3 y4 y5 y6) (screeref9_Open.l0 (k + 1) y0 y1 y2 y3 y4 y5 y6)) ∧ (∀ y0 y1 y2 y3 y4 y5 y6 y7, LeO (screeref9_Open.j2 k y0 y1 y2 y3 y4 y5 y6 y7) (screeref9_Open.j2 (k + 1) y0 y1 y2 y3 y4 y5 y6 y7)) ∧ (∀ y0 y1 y2 y3 y4 y5 y6, LeO (screeref9_Open.j3 k y0 y1 y2 y3 y4 y5 y6) (screeref9_Open.j3 (k + 1) y0 y1 y2 y3 y4 y5 y6)) ∧ (∀ y0 y1 y2, LeO (screeref9_Open.j4 k y0 y1 y2) (screeref9_Open.j4 (k + 1) y0 y1 y2)) ∧ (∀ y0 y1 y2 y3, LeO (screeref9_Open.j5 k y0 y1 y2 y3) (screeref9_Open.j5 (k + 1) y0 y1 y2 y3))
  | 0 => ⟨fun _ _ _ _ r h => by simp [screeref9_Open.j0] at h, fun _ _ _ _ _ _ _ r h => by simp [screeref9_Open.l0] at h, fun _ _ _ _ _ _ _ _ r h => by simp [screeref9_Open.j2] at h, fun _ _ _ _ _ _ _ r h => by simp [screeref9_Open.j3] at h, fun _ _ _ r h => by simp [screeref9_Open.j4] at h, fun _ _ _ _ r h => by simp [screeref9_Open.j5] at h⟩
  | k + 1 => by
    obtain ⟨ih0, ih1, ih2, ih3, ih4, ih5⟩ := screeref9_Open.mono_l k
    refine ⟨?_, ?_, ?_, ?_, ?_, ?_⟩
    · intro y0 y1 y2 y3
      unfold screeref9_Open.j0
      repeat' first
      | (with_reducible exact ih0 _ _ _ _)
      | (with_reducible exact ih1 _ _ _ _ _ _ _)
      | (with_reducible exact ih2 _ _ _ _ _ _ _ _)
      | (with_reducible exact ih3 _ _ _ _ _ _ _)
      | (with_reducible exact ih4 _ _ _)
      | (with_reducible exact ih5 _ _ _ _)
      | (with_reducible exact screeref9_Adds.mono _ _ _ _ _ _)
      | (with_reducible exact screeref9_Bytes.mono _ _ _)
      | (with_reducible exact screeref9_entry.mono _ _ _)
      | (with_reducible exact screeref9_same.mono _ _ _)
      | (with_reducible exact LeO.refl _)
      | (with_reducible exact LeO.none _)
      | (with_reducible refine LeO.ite ?_ ?_)
      | (with_reducible refine LeO.bind ?_ (fun _ => ?_))
      | exact ih0 _ _ _ _
      | exact ih1 _ _ _ _ _ _ _
      | exact ih2 _ _ _ _ _ _ _ _
      | exact ih3 _ _ _ _ _ _ _
      | exact ih4 _ _ _
      | exact ih5 _ _ _ _
      | exact screeref9_Adds.mono _ _ _ _ _ _
      | exact screeref9_Bytes.mono _ _ _
      | exact screeref9_entry.mono _ _ _
      | exact screeref9_same.mono _ _ _
      | exact LeO.none _
      | refine LeO.ite ?_ ?_
      | refine LeO.bind ?_ (fun _ => ?_)
    · intro y0 y1 y2 y3 y4 y5 y6
      unfold screeref9_Open.l0
      repeat' first
      | (with_reducible exact ih0 _ _ _ _)
      | (with_reducible exact ih1 _ _ _ _ _ _ _)
      | (with_reducible exact ih2 _ _ _ _ _ _ _ _)
      | (with_reducible exact ih3 _ _ _ _ _ _ _)
      | (with_reducible exact ih4 _ _ _)
      | (with_reducible exact ih5 _ _ _ _)
      | (with_reducible exact screeref9_Adds.mono _ _ _ _ _ _)
      | (with_reducible exact screeref9_Bytes.mono _ _ _)
      | (with_reducible exact screeref9_entry.mono _ _ _)
      | (with_reducible exact screeref9_same.mono _ _ _)
      | (with_reducible exact LeO.refl _)
      | (with_reducible exact LeO.none _)
      | (with_reducible refine LeO.ite ?_ ?_)
      | (with_reducible refine LeO.bind ?_ (fun _ => ?_))
      | exact ih0 _ _ _ _
      | exact ih1 _ _ _ _ _ _ _
      | exact ih2 _ _ _ _ _ _ _ _
      | exact ih3 _ _ _ _ _ _ _
      | exact ih4 _ _ _
      | exact ih5 _ _ _ _
      | exact screeref9_Adds.mono _ _ _ _ _ _
      | exact screeref9_Bytes.mono _ _ _
      | exact screeref9_entry.mono _ _ _
      | exact screeref9_same.mono _ _ _
      | exact LeO.none _
      | refine LeO.ite ?_ ?_
      | refine LeO.bind ?_ (fun _ => ?_)
    · intro y0 y1 y2 y3 y4 y5 y6 y7
      unfold screeref9_Open.j2
      repeat' first
      | (with_reducible exact ih0 _ _ _ _)
      | (with_reducible exact ih1 _ _ _ _ _ _ _)
      | (with_reducible exact ih2 _ _ _ _ _ _ _ _)
      | (with_reducible exact ih3 _ _ _ _ _ _ _)
      | (with_reducible exact ih4 _ _ _)
      | (with_reducible exact ih5 _ _ _ _)
      | (with_reducible exact screeref9_Adds.mono _ _ _ _ _ _)
      | (with_reducible exact screeref9_Bytes.mono _ _ _)
      | (with_reducible exact screeref9_entry.mono _ _ _)
      | (with_reducible exact screeref9_same.mono _ _ _)
      | (with_reducible exact LeO.refl _)
      | (with_reducible exact LeO.none _)
      | (with_reducible refine LeO.ite ?_ ?_)
      | (with_reducible refine LeO.bind ?_ (fun _ => ?_))
      | exact ih0 _ _ _ _
      | exact ih1 _ _ _ _ _ _ _
      | exact ih2 _ _ _ _ _ _ _ _
      | exact ih3 _ _ _ _ _ _ _
      | exact ih4 _ _ _
      | exact ih5 _ _ _ _
      | exact screeref9_Adds.mono _ _ _ _ _ _
      | exact screeref9_Bytes.mono _ _ _
      | exact screeref9_entry.mono _ _ _
      | exact screeref9_same.mono _ _ _
      | exact LeO.none _
      | refine LeO.ite ?_ ?_
      | refine LeO.bind ?_ (fun _ => ?_)
    · intro y0 y1 y2 y3 y4 y5 y6
      unfold screeref9_Open.j3
      repeat' first
      | (with_reducible exact ih0 _ _ _ _)
      | (with_reducible exact ih1 _ _ _ _ _ _ _)
      | (with_reducible exact ih2 _ _ _ _ _ _ _ _)
      | (with_reducible exact ih3 _ _ _ _ _ _ _)
      | (with_reducible exact ih4 _ _ _)
      | (with_reducible exact ih5 _ _ _ _)
      | (with_reducible exact screeref9_Adds.mono _ _ _ _ _ _)
      | (with_reducible exact screeref9_Bytes.mono _ _ _)
      | (with_reducible exact screeref9_entry.mono _ _ _)
      | (with_reducible exact screeref9_same.mono _ _ _)
      | (with_reducible exact LeO.refl _)
      | (with_reducible exact LeO.none _)
      | (with_reducible refine LeO.ite ?_ ?_)
      | (with_reducible refine LeO.bind ?_ (fun _ => ?_))
      | exact ih0 _ _ _ _
      | exact ih1 _ _ _ _ _ _ _
      | exact ih2 _ _ _ _ _ _ _ _
      | exact ih3 _ _ _ _ _ _ _
      | exact ih4 _ _ _
      | exact ih5 _ _ _ _
      | exact screeref9_Adds.mono _ _ _ _ _ _
      | exact screeref9_Bytes.mono _ _ _
      | exact screeref9_entry.mono _ _ _
      | exact screeref9_same.mono _ _ _
      | exact LeO.none _
      | refine LeO.ite ?_ ?_
      | refine LeO.bind ?_ (fun _ => ?_)
    · intro y0 y1 y2
      unfold screeref9_Open.j4
      repeat' first
      | (with_reducible exact ih0 _ _ _ _)
      | (with_reducible exact ih1 _ _ _ _ _ _ _)
      | (with_reducible exact ih2 _ _ _ _ _ _ _ _)
      | (with_reducible exact ih3 _ _ _ _ _ _ _)
      | (with_reducible exact ih4 _ _ _)
      | (with_reducible exact ih5 _ _ _ _)
      | (with_reducible exact screeref9_Adds.mono _ _ _ _ _ _)
      | (with_reducible exact screeref9_Bytes.mono _ _ _)
      | (with_reducible exact screeref9_entry.mono _ _ _)
      | (with_reducible exact screeref9_same.mono _ _ _)
      | (with_reducible exact LeO.refl _)
      | (with_reducible exact LeO.none _)
      | (with_reducible refine LeO.ite ?_ ?_)
      | (with_reducible refine LeO.bind ?_ (fun _ => ?_))
      | exact ih0 _ _ _ _
      | exact ih1 _ _ _ _ _ _ _
      | exact ih2 _ _ _ _ _ _ _ _
      | exact ih3 _ _ _ _ _ _ _
      | exact ih4 _ _ _
      | exact ih5 _ _ _ _
      | exact screeref9_Adds.mono _ _ _ _ _ _
      | exact screeref9_Bytes.mono _ _ _
      | exact screeref9_entry.mono _ _ _
      | exact screeref9_same.mono _ _ _
      | exact LeO.none _
      | refine LeO.ite ?_ ?_
      | refine LeO.bind ?_ (fun _ => ?_)
    · intro y0 y1 y2 y3
      unfold screeref9_Open.j5
      repeat' first
      | (with_reducible exact ih0 _ _ _ _)
      | (with_reducible exact ih1 _ _ _ _ _ _ _)
      | (with_reducible exact ih2 _ _ _ _ _ _ _ _)
      | (with_reducible exact ih3 _ _ _ _ _ _ _)
      | (with_reducible exact ih4 _ _ _)
      | (with_reducible exact ih5 _ _ _ _)
      | (with_reducible exact screeref9_Adds.mono _ _ _ _ _ _)
      | (with_reducible exact screeref9_Bytes.mono _ _ _)
      | (with_reducible exact screeref9_entry.mono _ _ _)
      | (with_reducible exact screeref9_same.mono _ _ _)
      | (with_reducible exact LeO.refl _)
      | (with_reducible exact LeO.none _)
      | (with_reducible refine LeO.ite ?_ ?_)
      | (with_reducible refine LeO.bind ?_ (fun _ => ?_))
      | exact ih0 _ _ _ _
      | exact ih1 _ _ _ _ _ _ _
      | exact ih2 _ _ _ _ _ _ _ _
      | exact ih3 _ _ _ _ _ _ _
      | exact ih4 _ _ _
      | exact ih5 _ _ _ _
      | exact screeref9_Adds.mono _ _ _ _ _ _
      | exact screeref9_Bytes.mono _ _ _
      | exact screeref9_entry.mono _ _ _
      | exact screeref9_same.mono _ _ _
      | exact LeO.none _
      | refine LeO.ite ?_ ?_
      | refine LeO.bind ?_ (fun _ => ?_)
theorem screeref9_Open.mono : ∀ a0 k, LeO (screeref9_Open.f k a0) (screeref9_Open.f (k + 1) a0) := by
  intro a0 k
  obtain ⟨ih0, ih1, ih2, ih3, ih4, ih5⟩ := screeref9_Open.mono_l k
  unfold screeref9_Open.f
  repeat' first
      | (with_reducible exact ih0 _ _ _ _)
      | (with_reducible exact ih1 _ _ _ _ _ _ _)
      | (with_reducible exact ih2 _ _ _ _ _ _ _ _)
      | (with_reducible exact ih3 _ _ _ _ _ _ _)
      | (with_reducible exact ih4 _ _ _)
      | (with_reducible exact ih5 _ _ _ _)
      | (with_reducible exact screeref9_Adds.mono _ _ _ _ _ _)
      | (with_reducible exact screeref9_Bytes.mono _ _ _)
      | (with_reducible exact screeref9_entry.mono _ _ _)
      | (with_reducible exact screeref9_same.mono _ _ _)
      | (with_reducible exact LeO.refl _)
      | (with_reducible exact LeO.none _)
      | (with_reducible refine LeO.ite ?_ ?_)
      | (with_reducible refine LeO.bind ?_ (fun _ => ?_))
      | exact ih0 _ _ _ _
      | exact ih1 _ _ _ _ _ _ _
      | exact ih2 _ _ _ _ _ _ _ _
      | exact ih3 _ _ _ _ _ _ _
      | exact ih4 _ _ _
      | exact ih5 _ _ _ _
      | exact screeref9_Adds.mono _ _ _ _ _ _
      | exact screeref9_Bytes.mono _ _ _
      | exact screeref9_entry.mono _ _ _
      | exact screeref9_same.mono _ _ _
      | exact LeO.none _
      | refine LeO.ite ?_ ?_
      | refine LeO.bind ?_ (fun _ => ?_)
set_option maxHeartbeats 8000000 in
set_option maxRecDepth 100000 in
theorem screeref9_Open.calls (k : Nat) (A0 : Option Addr) (c0 : Nat) (l0 : List Int) (r1 : List (S30)) (r2 : Bool) (w : World) (hr0 : Kd.C (Kd.int .u8) w A0 l0.length l0) (hc0 : l0.length ≤ c0) (h : screeref9_Open.f k l0 = some (r1, r2)) :
    Calls Tryd.prog 17 #[.slice A0 l0.length c0] w fun e w' => ∃ v0_ : Value, e = .returned (.tuple #[v0_, .bool r2]) ∧ Kd.R k30 30 w' w.heap.size (fun _ => True) v0_ r1 ∧ Below w.heap.size w w' := by
  have hu30 := Tryd.underlying30
  have HR0 := Aside0.mk hr0
  have HC0 := Aside0.mk hc0
  clear hr0 hc0
  have HB := Aside0.mk (Below.refl w.heap.size w)
  have H : (if (l0.length : Int) < 8 then (some (([] : List (S30)), false)) else (if 0 ≤ (wrap64 ((l0.length : Int) - 8)) then (if (wrap64 ((l0.length : Int) - 8)) ≤ (l0.length : Int) then ((screeref9_number.f (l0.drop ((wrap64 ((l0.length : Int) - 8)) : Int).toNat)).bind fun t276 => (if t276 < 0 then (screeref9_Open.j0 k l0 t276 (wrap64 ((wrap64 ((l0.length : Int) - 8)) - (wrap64 (4 * t276)))) true) else (if t276 > (l0.length : Int) then (screeref9_Open.j0 k l0 t276 (wrap64 ((wrap64 ((l0.length : Int) - 8)) - (wrap64 (4 * t276)))) true) else (screeref9_Open.j0 k l0 t276 (wrap64 ((wrap64 ((l0.length : Int) - 8)) - (wrap64 (4 * t276)))) (decide ((wrap64 ((wrap64 ((l0.length : Int) - 8)) - (wrap64 (4 * t276)))) < 0)))))) else (none)) else (none))) = some (r1, r2) := h
  clear h
  by_cases c2 : (l0.length : Int) < 8
  · rw [if_pos c2] at H
    have c2b0 : decide ((l0.length : Int) < 8) = true := decide_eq_true c2
    have c2b1 : decide (l0.length < 8) = true := decide_eq_true (by omega)
    clear c2
    simp only [Option.some.injEq, Prod.mk.injEq] at H
    obtain ⟨rfl, rfl⟩ := H
    go_enter Tryd.func17, Tryd.ntmps17
    go_wp2
    go_ret2
    exact ⟨_, by first | rfl | (simp [errW_none, errW_some] <;> rfl) | (simp [*, errW_none, errW_some] <;> rfl), by first | exact Kd.R_nil _ _ _ _ _ | exact Kd.N_nil _ _ _ _ _ | exact Kd.V_nil _ _ _ _ _ | exact Kd.Q_nil _ _ _ _ _ | exact Kd.S_nil _ _ _ _ _, by repeat (first | (with_reducible first | exact HB.out | apply below_alloc | apply pw_below_drewN | apply below_drew1) | exact HB.out)⟩
  · rw [if_neg c2] at H
    have c2b0 : decide ((l0.length : Int) < 8) = false := decide_eq_false c2
    have c2b1 : decide (l0.length < 8) = false := decide_eq_false (by omega)
    clear c2
    obtain ⟨ji3, hji3⟩ : ∃ j_ : Int, (wrap64 ((l0.length : Int) - 8)) = j_ := ⟨_, rfl⟩
    replace H : (if 0 ≤ (ji3) then (if (ji3) ≤ (l0.length : Int) then ((screeref9_number.f (l0.drop ((ji3) : Int).toNat)).bind fun t276 => (if t276 < 0 then (screeref9_Open.j0 k l0 t276 (wrap64 ((ji3) - (wrap64 (4 * t276)))) true) else (if t276 > (l0.length : Int) then (screeref9_Open.j0 k l0 t276 (wrap64 ((ji3) - (wrap64 (4 * t276)))) true) else (screeref9_Open.j0 k l0 t276 (wrap64 ((ji3) - (wrap64 (4 * t276)))) (decide ((wrap64 ((ji3) - (wrap64 (4 * t276)))) < 0)))))) else (none)) else (none)) = some (r1, r2) := by first | (rw [hji3] at H; exact H) | (simp only [hji3] at H ⊢; exact H)
    have hji3w : (IntKind.i64.wrap ((l0.length : Int) - 8)) = ji3 := (i64_w _).trans hji3
    by_cases c4 : 0 ≤ (ji3)
    · rw [if_pos c4] at H
      have c4b0 := eq_true c4
      have c4b1 : decide (0 ≤ (ji3)) = true := decide_eq_true c4
      clear c4
      by_cases c5 : (ji3) ≤ (l0.length : Int)
      · rw [if_pos c5] at H
        have c5b0 := eq_true c5
        have c5b1 : decide ((ji3) ≤ (l0.length : Int)) = true := decide_eq_true c5
        clear c5
        replace H := Option.bind_eq_some_iff.mp H
        obtain ⟨t276, A60, H⟩ := H
        replace H : (if t276 < 0 then (screeref9_Open.j0 k l0 t276 (wrap64 ((ji3) - (wrap64 (4 * t276)))) true) else (if t276 > (l0.length : Int) then (screeref9_Open.j0 k l0 t276 (wrap64 ((ji3) - (wrap64 (4 * t276)))) true) else (screeref9_Open.j0 k l0 t276 (wrap64 ((ji3) - (wrap64 (4 * t276)))) (decide ((wrap64 ((ji3) - (wrap64 (4 * t276)))) < 0))))) = some (r1, r2) := H
        have A6 := Aside0.mk A60
        clear A60
        have HC7 := Aside0.mk H
        clear H
        obtain ⟨i08, hi08, _, hsz8, _⟩ := info_parts info5
        obtain ⟨A8, hcut8, hA8, hC8⟩ := print_drop_of (P := Tryd.prog) (Value.int .u8) 0 22 5 .i64 Tryd.underlying22 hi08 hsz8 A0 c0 l0 (ji3) (of_decide_eq_true (by first | (with_reducible assumption) | assumption)) (of_decide_eq_true (by first | (with_reducible assumption) | assumption)) HC0.out
        have HR275 := Aside0.mk (Kd.C_of_reads (h1 := fun _ => rfl) (hA8 _ (Kd.reads_of_C HR0.out)))
        have HC275 := Aside0.mk hC8
        clear hA8 hC8 hi08 hsz8
        go_enter Tryd.func17, Tryd.ntmps17
        go_upto_region 5 with (first | ((with_reducible refine gate_callee (f := 44) rfl ?_); refine goesL_ (some 21) rfl rfl Tryd.func44 (by kernel_rfl) rfl #[.slice A8 (l0.drop ((ji3) : Int).toNat).length (c0 - (ji3).toNat)] rfl (by (try simp only [List.map_toArray, List.map_cons, List.map_nil]); first | done | (rw [show (l0.drop ((ji3) : Int).toNat).length = (l0.length - (ji3).toNat) from List.length_drop] <;> rfl) | (simp only [hji3]; rfl) | rfl | (simp only [List.length_drop, List.length_take]; rfl)) ?_; (with_reducible refine (screeref9_number.calls _ _ (l0.drop ((ji3) : Int).toNat) t276 _ ?side1 ?side2 A6.out).mono ?_); (case side1 => repeat (first | exact HR275.out | (with_reducible refine Kd.C_alloc ?_ _) | (with_reducible refine Kd.C_drewN ?_ _) | (with_reducible refine Kd.C_drew ?_))); (case side2 => exact HC275.out); rintro e w' ⟨rfl, ⟨nd, rfl⟩⟩; refine ⟨_, rfl, ?_⟩))
        (try simp only [Act.put, List.setIfInBounds_toArray, List.set_cons_zero, List.set_cons_succ])
        (try (obtain ⟨tb1_, hTB1_⟩ : ∃ tb_ : Bool, (decide (t276 < 0)) = tb_ := ⟨_, rfl⟩; simp only [hTB1_]; have TB1_ := Aside0.mk hTB1_; clear hTB1_))
        go_cut [39] (fun v39 wc => ∃ (kq : Nat) (x39_6 : Bool), v39 = .bool x39_6 ∧ Aside0 (screeref9_Open.j0 kq l0 t276 (wrap64 ((ji3) - (wrap64 (4 * t276)))) x39_6 = some (r1, r2)) ∧ Aside0 (kq ≤ k) ∧ Aside0 (Below w.heap.size w wc))
        case first =>
          have H := HC7.out
          clear HC7
          by_cases c9 : t276 < 0
          · rw [if_pos c9] at H
            have c9b0 : decide (t276 < 0) = true := decide_eq_true c9
            (try (obtain rfl := TB1_.out.symm.trans c9b0))
            clear c9
            (first | rw [c9b0] | (simp only [i64_w, i32_w]; rw [c9b0]) | skip)
            have H' := Aside0.mk H
            clear H
            go_wp2
            go_meet
            case rel => exact ⟨_, (true), (by first | rfl | (simp; done) | (simp [*]; done)), H', ⟨by first | omega | exact Nat.le_refl _⟩, ⟨by repeat (first | (with_reducible first | exact HB.out | apply below_alloc | apply pw_below_drewN | apply below_drew1) | exact HB.out)⟩⟩
          · rw [if_neg c9] at H
            have c9b0 : decide (t276 < 0) = false := decide_eq_false c9
            (try (obtain rfl := TB1_.out.symm.trans c9b0))
            clear c9
            (first | rw [c9b0] | (simp only [i64_w, i32_w]; rw [c9b0]) | skip)
            by_cases c10 : t276 > (l0.length : Int)
            · rw [if_pos c10] at H
              have c10b0 : decide ((l0.length : Int) < t276) = true := decide_eq_true c10
              clear c10
              have H' := Aside0.mk H
              clear H
              go_wp2
              go_meet
              case rel => exact ⟨_, (true), (by first | rfl | (simp; done) | (simp [*]; done)), H', ⟨by first | omega | exact Nat.le_refl _⟩, ⟨by repeat (first | (with_reducible first | exact HB.out | apply below_alloc | apply pw_below_drewN | apply below_drew1) | exact HB.out)⟩⟩
            · rw [if_neg c10] at H
              have c10b0 : decide ((l0.length : Int) < t276) = false := decide_eq_false c10
              clear c10
              have H' := Aside0.mk H
              clear H
              go_wp2
              go_meet
              case rel => exact ⟨_, (decide ((wrap64 ((ji3) - (wrap64 (4 * t276)))) < 0)), (by first | rfl | (simp; done) | (simp only [← hji3] <;> (first | rfl | simp)) | (simp [*]; done)), H', ⟨by first | omega | exact Nat.le_refl _⟩, ⟨by repeat (first | (with_reducible first | exact HB.out | apply below_alloc | apply pw_below_drewN | apply below_drew1) | exact HB.out)⟩⟩
        case rest =>
          clear HC7
          try clear c1
          try clear c2
          try clear c2b0
          try clear c2b1
          try clear p2
          try clear c4
          try clear c4b0
          try clear c4b1
          try clear c5
          try clear c5b0
          try clear c5b1
          try clear p6
          try clear c9
          try clear c9b0
          try clear c10
          try clear c10b0
          obtain ⟨kq, x39_6, rfl, HA, HJ6, HB⟩ := hcut
          cases kq with
          | zero => exact absurd HA.out (by simp [screeref9_Open.j0])
          | succ kj6 =>
            have H := HA.out
            clear HA
            simp only [screeref9_Open.j0] at H
            by_cases c11 : x39_6 = true
            · subst c11
              have H1 : (some (([] : List (S30)), false)) = some (r1, r2) := by rw [if_pos rfl] at H; exact H
              clear H
              have H := H1
              clear H1
              simp only [Option.some.injEq, Prod.mk.injEq] at H
              obtain ⟨rfl, rfl⟩ := H
              go_wp2
              go_ret2
              exact ⟨_, by first | rfl | (simp [errW_none, errW_some] <;> rfl) | (simp only [← hji3]; first | rfl | (simp [errW_none, errW_some] <;> rfl)) | (simp [*, errW_none, errW_some] <;> rfl), by first | exact Kd.R_nil _ _ _ _ _ | exact Kd.N_nil _ _ _ _ _ | exact Kd.V_nil _ _ _ _ _ | exact Kd.Q_nil _ _ _ _ _ | exact Kd.S_nil _ _ _ _ _, by repeat (first | (with_reducible first | exact HB.out | apply below_alloc | apply pw_below_drewN | apply below_drew1) | exact HB.out)⟩
            · replace c11 := Bool.eq_false_iff.mpr c11
              subst c11
              have H1 : (screeref9_Open.l0 kj6 l0 t276 (wrap64 ((ji3) - (wrap64 (4 * t276)))) ([] : List (S30)) (⟨#[]⟩ : ByteArray) 0 0) = some (r1, r2) := by rw [if_neg (show ¬ (false = true) by decide)] at H; exact H
              clear H
              have H := H1
              clear H1
              have H' := Aside0.mk H
              clear H
              go_wp2
              go_loopg [6, 7, 8, 9] kj6 (fun kq v6 v7 v8 v9 w' => ∃ (x6_2 : List (S30)) (x7_2 : ByteArray) (x8_2 : Int) (x9_2 : Int), v7 = .string x7_2 ∧ v8 = .int .i64 x8_2 ∧ v9 = .int .i64 x9_2 ∧ Aside0 (screeref9_Open.l0 kq l0 t276 (wrap64 ((ji3) - (wrap64 (4 * t276)))) x6_2 x7_2 x8_2 x9_2 = some (r1, r2)) ∧ Aside0 (kq ≤ kj6) ∧ Aside0 (Kd.R k30 30 w' w.heap.size (fun _ => True) v6 x6_2) ∧ Aside0 (Below w.heap.size w w'))
              case atStart => exact ⟨(([] : List (S30))), ((⟨#[]⟩ : ByteArray)), (0), (0), (by first | rfl | (simp; done) | (simp [*]; done)), (by first | rfl | (simp; done) | (simp [*]; done)), (by first | rfl | (simp; done) | (simp [*]; done)), H', ⟨Nat.le_refl _⟩, ⟨by first | exact Kd.R_nil _ _ _ _ _ | exact Kd.N_nil _ _ _ _ _ | exact Kd.V_nil _ _ _ _ _ | exact Kd.Q_nil _ _ _ _ _ | exact Kd.S_nil _ _ _ _ _⟩, ⟨by repeat (first | (with_reducible first | exact HB.out | apply below_alloc | apply pw_below_drewN | apply below_drew1) | exact HB.out)⟩⟩
              case round =>
                clear H'
                try clear c1
                try clear c2
                try clear c2b0
                try clear c2b1
                try clear p2
                try clear c4
                try clear c4b0
                try clear c4b1
                try clear c5
                try clear c5b0
                try clear c5b1
                try clear p6
                try clear c9
                try clear c9b0
                try clear c10
                try clear c10b0
                try clear c11
                try clear p2
                try clear p6
                obtain ⟨x6_2, x7_2, x8_2, x9_2, rfl, rfl, rfl, HA, HK2, HO_6, HB⟩ := hrel
                cases gk with
                | zero => exact absurd HA.out (by simp [screeref9_Open.l0])
                | succ k2 =>
                  have H := HA.out
                  clear HA
                  simp only [screeref9_Open.l0] at H
                  by_cases c12 : x9_2 < (wrap64 ((ji3) - (wrap64 (4 * t276))))
                  · rw [if_pos c12] at H
                    have c12b0 : decide (x9_2 < (wrap64 ((ji3) - (wrap64 (4 * t276))))) = true := decide_eq_true c12
                    clear c12
                    have HC13 := Aside0.mk H
                    clear H
                    go_upto_region 12 with (fail)
                    (try (obtain ⟨tb2_, hTB2_⟩ : ∃ tb_ : Bool, (decide (2 ≤ t276)) = tb_ := ⟨_, rfl⟩; simp only [hTB2_]; have TB2_ := Aside0.mk hTB2_; clear hTB2_))
                    go_cut [57] (fun v57 wc => ∃ (kq : Nat) (x57_12 : Bool), v57 = .bool x57_12 ∧ Aside0 (screeref9_Open.j2 kq l0 t276 (wrap64 ((ji3) - (wrap64 (4 * t276)))) x6_2 x7_2 x8_2 x9_2 x57_12 = some (r1, r2)) ∧ Aside0 (kq ≤ k2) ∧ Aside0 (Kd.R k30 30 wc w.heap.size (fun _ => True) u6 x6_2) ∧ Aside0 (Below w.heap.size w wc))
                    case first =>
                      have H := HC13.out
                      clear HC13
                      by_cases c14 : t276 ≥ 2
                      · rw [if_pos c14] at H
                        have c14b0 : decide (2 ≤ t276) = true := decide_eq_true c14
                        (try (obtain rfl := TB2_.out.symm.trans c14b0))
                        clear c14
                        (first | rw [c14b0] | (simp only [i64_w, i32_w]; rw [c14b0]) | skip)
                        by_cases c15 : x9_2 > 0
                        · rw [if_pos c15] at H
                          have c15b0 : decide (0 < x9_2) = true := decide_eq_true c15
                          clear c15
                          obtain ⟨ji16, hji16⟩ : ∃ j_ : Int, (wrap64 ((wrap64 ((ji3) - (wrap64 (4 * t276)))) + 4)) = j_ := ⟨_, rfl⟩
                          replace H : (if 0 ≤ (ji16) then (if (ji16) ≤ (l0.length : Int) then ((screeref9_number.f (l0.drop ((ji16) : Int).toNat)).bind fun t278 => (screeref9_Open.j2 k2 l0 t276 (wrap64 ((ji3) - (wrap64 (4 * t276)))) x6_2 x7_2 x8_2 x9_2 (x9_2 == t278))) else (none)) else (none)) = some (r1, r2) := by first | (rw [hji16] at H; exact H) | (simp only [hji16] at H ⊢; exact H)
                          have hji16w : (IntKind.i64.wrap ((wrap64 ((ji3) - (wrap64 (4 * t276)))) + 4)) = ji16 := (i64_w _).trans hji16
                          by_cases c17 : 0 ≤ (ji16)
                          · rw [if_pos c17] at H
                            have c17b0 := eq_true c17
                            have c17b1 : decide (0 ≤ (ji16)) = true := decide_eq_true c17
                            clear c17
                            by_cases c18 : (ji16) ≤ (l0.length : Int)
                            · rw [if_pos c18] at H
                              have c18b0 := eq_true c18
                              have c18b1 : decide ((ji16) ≤ (l0.length : Int)) = true := decide_eq_true c18
                              clear c18
                              replace H := Option.bind_eq_some_iff.mp H
                              obtain ⟨t278, A190, H⟩ := H
                              replace H : (screeref9_Open.j2 k2 l0 t276 (wrap64 ((ji3) - (wrap64 (4 * t276)))) x6_2 x7_2 x8_2 x9_2 (x9_2 == t278)) = some (r1, r2) := H
                              have A19 := Aside0.mk A190
                              clear A190
                              have H' := Aside0.mk H
                              clear H
                              obtain ⟨i020, hi020, _, hsz20, _⟩ := info_parts info5
                              obtain ⟨A20, hcut20, hA20, hC20⟩ := print_drop_of (P := Tryd.prog) (Value.int .u8) 0 22 5 .i64 Tryd.underlying22 hi020 hsz20 A0 c0 l0 (ji16) (of_decide_eq_true (by first | (with_reducible assumption) | assumption)) (of_decide_eq_true (by first | (with_reducible assumption) | assumption)) HC0.out
                              have HR277 := Aside0.mk (Kd.C_of_reads (h1 := fun _ => rfl) (hA20 _ (Kd.reads_of_C HR0.out)))
                              have HC277 := Aside0.mk hC20
                              clear hA20 hC20 hi020 hsz20
                              go_wp2_with (first | (go_at_call 44; rw [show l0.length - (ji16).toNat = (l0.drop ((ji16) : Int).toNat).length from List.length_drop.symm]; (with_reducible refine (screeref9_number.calls _ _ (l0.drop ((ji16) : Int).toNat) t278 _ ?side1 ?side2 A19.out).mono ?_); (case side1 => repeat (first | exact (Kd.C_below HR277.out HB.out) | (with_reducible refine Kd.C_alloc ?_ _) | (with_reducible refine Kd.C_drewN ?_ _) | (with_reducible refine Kd.C_drew ?_))); (case side2 => exact HC277.out); rintro e w' ⟨rfl, ⟨nd, rfl⟩⟩))
                              go_meet
                              case rel => exact ⟨_, ((x9_2 == t278)), (by first | rfl | (simp; done) | (simp [*]; done)), H', ⟨by have := HJ6.out; have := HK2.out; first | omega | exact Nat.le_refl _⟩, ⟨by (with_reducible repeat (first | apply Kd.R_alloc | apply Kd.R_drewN | apply Kd.R_drew)); exact HO_6.out⟩, ⟨by repeat (first | (with_reducible first | exact HB.out | apply below_alloc | apply pw_below_drewN | apply below_drew1) | exact HB.out)⟩⟩
                            · rw [if_neg c18] at H
                              exact absurd H (by simp)
                          · rw [if_neg c17] at H
                            exact absurd H (by simp)
                        · rw [if_neg c15] at H
                          have c15b0 : decide (0 < x9_2) = false := decide_eq_false c15
                          clear c15
                          have H' := Aside0.mk H
                          clear H
                          go_wp2
                          go_meet
                          case rel => exact ⟨_, (false), (by first | rfl | (simp; done) | (simp [*]; done)), H', ⟨by have := HJ6.out; have := HK2.out; first | omega | exact Nat.le_refl _⟩, ⟨by (with_reducible repeat (first | apply Kd.R_alloc | apply Kd.R_drewN | apply Kd.R_drew)); exact HO_6.out⟩, ⟨by repeat (first | (with_reducible first | exact HB.out | apply below_alloc | apply pw_below_drewN | apply below_drew1) | exact HB.out)⟩⟩
                      · rw [if_neg c14] at H
                        have c14b0 : decide (2 ≤ t276) = false := decide_eq_false c14
                        (try (obtain rfl := TB2_.out.symm.trans c14b0))
                        clear c14
                        (first | rw [c14b0] | (simp only [i64_w, i32_w]; rw [c14b0]) | skip)
                        have H' := Aside0.mk H
                        clear H
                        go_wp2
                        go_meet
                        case rel => exact ⟨_, (false), (by first | rfl | (simp; done) | (simp [*]; done)), H', ⟨by have := HJ6.out; have := HK2.out; first | omega | exact Nat.le_refl _⟩, ⟨by (with_reducible repeat (first | apply Kd.R_alloc | apply Kd.R_drewN | apply Kd.R_drew)); exact HO_6.out⟩, ⟨by repeat (first | (with_reducible first | exact HB.out | apply below_alloc | apply pw_below_drewN | apply below_drew1) | exact HB.out)⟩⟩
                    case rest =>
                      clear HC13
                      try clear c1
                      try clear c2
                      try clear c2b0
                      try clear c2b1
                      try clear p2
                      try clear c4
                      try clear c4b0
                      try clear c4b1
                      try clear c5
                      try clear c5b0
                      try clear c5b1
                      try clear p6
                      try clear c9
                      try clear c9b0
                      try clear c10
                      try clear c10b0
                      try clear c11
                      try clear c12
                      try clear c12b0
                      try clear c14
                      try clear c14b0
                      try clear c15
                      try clear c15b0
                      try clear c17
                      try clear c17b0
                      try clear c17b1
                      try clear c18
                      try clear c18b0
                      try clear c18b1
                      try clear p2
                      try clear p6
                      obtain ⟨kq, x57_12, rfl, HA, HJ12, HO_6, HB⟩ := hcut
                      cases kq with
                      | zero => exact absurd HA.out (by simp [screeref9_Open.j2])
                      | succ kj12 =>
                        have H := HA.out
                        clear HA
                        simp only [screeref9_Open.j2] at H
                        have HC21 := Aside0.mk H
                        clear H
                        go_upto_if 57 with (fail)
                        go_cut [8] (fun v8 wc => ∃ (kq : Nat) (x8_20 : Int), v8 = .int .i64 x8_20 ∧ Aside0 (screeref9_Open.j3 kq l0 t276 (wrap64 ((ji3) - (wrap64 (4 * t276)))) x6_2 x7_2 x8_20 x9_2 = some (r1, r2)) ∧ Aside0 (kq ≤ kj12) ∧ Aside0 (Kd.R k30 30 wc w.heap.size (fun _ => True) u6 x6_2) ∧ Aside0 (Below w.heap.size w wc))
                        case first =>
                          have H := HC21.out
                          clear HC21
                          by_cases c22 : x57_12 = true
                          · subst c22
                            have H1 : (screeref9_Open.j3 kj12 l0 t276 (wrap64 ((ji3) - (wrap64 (4 * t276)))) x6_2 x7_2 (x6_2.length : Int) x9_2) = some (r1, r2) := by rw [if_pos rfl] at H; exact H
                            clear H
                            have H := H1
                            clear H1
                            have H' := Aside0.mk H
                            clear H
                            obtain ⟨Ao23, co23, eo23⟩ := Kd.R_slice HO_6.out
                            subst eo23
                            go_wp2
                            go_meet
                            case rel => exact ⟨_, ((x6_2.length : Int)), (by first | rfl | (simp; done) | (simp [*]; done)), H', ⟨by have := HJ6.out; have := HK2.out; have := HJ12.out; first | omega | exact Nat.le_refl _⟩, ⟨by (with_reducible repeat (first | apply Kd.R_alloc | apply Kd.R_drewN | apply Kd.R_drew)); exact HO_6.out⟩, ⟨by repeat (first | (with_reducible first | exact HB.out | apply below_alloc | apply pw_below_drewN | apply below_drew1) | exact HB.out)⟩⟩
                          · replace c22 := Bool.eq_false_iff.mpr c22
                            subst c22
                            have H1 : (screeref9_Open.j3 kj12 l0 t276 (wrap64 ((ji3) - (wrap64 (4 * t276)))) x6_2 x7_2 x8_2 x9_2) = some (r1, r2) := by rw [if_neg (show ¬ (false = true) by decide)] at H; exact H
                            clear H
                            have H := H1
                            clear H1
                            have H' := Aside0.mk H
                            clear H
                            go_wp2
                            go_meet
                            case rel => exact ⟨_, (x8_2), (by first | rfl | (simp; done) | (simp [*]; done)), H', ⟨by have := HJ6.out; have := HK2.out; have := HJ12.out; first | omega | exact Nat.le_refl _⟩, ⟨by (with_reducible repeat (first | apply Kd.R_alloc | apply Kd.R_drewN | apply Kd.R_drew)); exact HO_6.out⟩, ⟨by repeat (first | (with_reducible first | exact HB.out | apply below_alloc | apply pw_below_drewN | apply below_drew1) | exact HB.out)⟩⟩
                        case rest =>
                          clear HC21
                          try clear c1
                          try clear c2
                          try clear c2b0
                          try clear c2b1
                          try clear p2
                          try clear c4
                          try clear c4b0
                          try clear c4b1
                          try clear c5
                          try clear c5b0
                          try clear c5b1
                          try clear p6
                          try clear c9
                          try clear c9b0
                          try clear c10
                          try clear c10b0
                          try clear c11
                          try clear c12
                          try clear c12b0
                          try clear c14
                          try clear c14b0
                          try clear c15
                          try clear c15b0
                          try clear c17
                          try clear c17b0
                          try clear c17b1
                          try clear c18
                          try clear c18b0
                          try clear c18b1
                          try clear c22
                          try clear p2
                          try clear p6
                          obtain ⟨kq, x8_20, rfl, HA, HJ20, HO_6, HB⟩ := hcut
                          cases kq with
                          | zero => exact absurd HA.out (by simp [screeref9_Open.j3])
                          | succ kj20 =>
                            have H := HA.out
                            clear HA
                            simp only [screeref9_Open.j3] at H
                            by_cases c24 : 0 ≤ x9_2
                            · rw [if_pos c24] at H
                              have c24b0 := eq_true c24
                              have c24b1 : decide (0 ≤ x9_2) = true := decide_eq_true c24
                              clear c24
                              by_cases c25 : x9_2 ≤ (wrap64 ((ji3) - (wrap64 (4 * t276))))
                              · rw [if_pos c25] at H
                                have c25b0 := eq_true c25
                                have c25b1 : decide (x9_2 ≤ (wrap64 ((ji3) - (wrap64 (4 * t276))))) = true := decide_eq_true c25
                                clear c25
                                by_cases c26 : (wrap64 ((ji3) - (wrap64 (4 * t276)))) ≤ (l0.length : Int)
                                · rw [if_pos c26] at H
                                  have c26b0 := eq_true c26
                                  have c26b1 : decide ((wrap64 ((ji3) - (wrap64 (4 * t276)))) ≤ (l0.length : Int)) = true := decide_eq_true c26
                                  clear c26
                                  replace H := Option.bind_eq_some_iff.mp H
                                  obtain ⟨⟨t280, t281, t282, t283, t284⟩, A270, H⟩ := H
                                  replace H : (if t284 = 0 then (some (([] : List (S30)), false)) else ((screeref9_Adds.f kj20 x6_2 t280 t281 t282 t283).bind fun t286 => (if t286 = 0 then (if x6_2.length < 2932031007402 then (screeref9_Open.l0 kj20 l0 t276 (wrap64 ((ji3) - (wrap64 (4 * t276)))) (x6_2 ++ [(⟨t280, t281, t282, t283⟩ : S30)]) t280 x8_20 (wrap64 (x9_2 + t284))) else (none)) else (some (([] : List (S30)), false))))) = some (r1, r2) := H
                                  have A27 := Aside0.mk A270
                                  clear A270
                                  by_cases c28 : t284 = 0
                                  · rw [if_pos c28] at H
                                    have c28b0 : (t284 == 0) = true := beq_iff_eq.mpr c28
                                    have c28b1 : (t284 != 0) = false := bne_eq_false_iff_eq.mpr c28
                                    clear c28
                                    simp only [Option.some.injEq, Prod.mk.injEq] at H
                                    obtain ⟨rfl, rfl⟩ := H
                                    obtain ⟨i029, hi029, _, hsz29, _⟩ := info_parts info5
                                    obtain ⟨A29, hcut29, hA29, hC29⟩ := print_mid_of (P := Tryd.prog) (Value.int .u8) 0 22 5 .i64 .i64 Tryd.underlying22 hi029 hsz29 A0 c0 l0 x9_2 (wrap64 ((ji3) - (wrap64 (4 * t276)))) (of_decide_eq_true (by first | (with_reducible assumption) | assumption)) (by first | omega | exact of_decide_eq_true (by first | (with_reducible assumption) | assumption)) (of_decide_eq_true (by first | (with_reducible assumption) | assumption)) HC0.out
                                    have HR279 := Aside0.mk (Kd.C_of_reads (h1 := fun _ => rfl) (hA29 _ (Kd.reads_of_C HR0.out)))
                                    have HC279 := Aside0.mk hC29
                                    clear hA29 hC29 hi029 hsz29
                                    go_wp2_with (first | ((with_reducible refine gate_callee (f := 45) rfl ?_); refine goesL_ (some 66) rfl rfl Tryd.func45 (by kernel_rfl) rfl #[.slice A29 ((l0.take ((wrap64 ((ji3) - (wrap64 (4 * t276)))) : Int).toNat).drop (x9_2 : Int).toNat).length (c0 - x9_2.toNat), .string x7_2] rfl (by (try simp only [List.map_toArray, List.map_cons, List.map_nil]); first | done | (rw [show ((l0.take ((wrap64 ((ji3) - (wrap64 (4 * t276)))) : Int).toNat).drop (x9_2 : Int).toNat).length = ((wrap64 ((ji3) - (wrap64 (4 * t276)))).toNat - x9_2.toNat) from (by rw [List.length_drop, List.length_take]; have h_ : ((wrap64 ((ji3) - (wrap64 (4 * t276)))) : Int) ≤ (l0.length : Int) := of_decide_eq_true (by first | (with_reducible assumption) | assumption); omega)] <;> rfl) | (simp only [hji3]; rfl) | rfl | (simp only [List.length_drop, List.length_take]; rfl)) ?_; (with_reducible refine (screeref9_entry.calls kj20 _ _ ((l0.take ((wrap64 ((ji3) - (wrap64 (4 * t276)))) : Int).toNat).drop (x9_2 : Int).toNat) x7_2 t280 t281 t282 t283 t284 _ ?side1 ?side2 A27.out).mono ?_); (case side1 => repeat (first | exact (Kd.C_below HR279.out HB.out) | (with_reducible refine Kd.C_alloc ?_ _) | (with_reducible refine Kd.C_drewN ?_ _) | (with_reducible refine Kd.C_drew ?_))); (case side2 => exact HC279.out); rintro e w30 ⟨rfl, hb⟩; refine ⟨_, rfl, ?_⟩; have n0_ := Aside0.mk (Kd.R_below (by (with_reducible repeat (first | apply Kd.R_alloc | apply Kd.R_drewN | apply Kd.R_drew)); exact HO_6.out) hb); have n1_ := Aside0.mk (below_step (by repeat (first | (with_reducible first | exact HB.out | apply below_alloc | apply pw_below_drewN | apply below_drew1) | exact HB.out)) hb); clear HO_6; clear HB; have HO_6 := n0_; have HB := n1_; clear n0_ n1_; (try clear hb); (try clear hb2); (try clear hk); (try clear hi)) | ((with_reducible refine gate_dst (N := 10) rfl ?_); (try (refine gate_guard (by rfl) ?_; dsimp only)); refine box_event ?hg (N := 10) ?hd (cs := #[.string (⟨#[]⟩ : ByteArray), .int .u64 0, .bool false, .string (⟨#[]⟩ : ByteArray)]) (t := 30) ?hr ?_; (case hd => rfl); (case hg => rfl); (case hr => first | (go_simp; done) | (go_simp; rfl)); intro gb285 hg w31 hbox hb; have n0_ := Aside0.mk (Kd.R_below (Kd.R_elderB (by (with_reducible repeat (first | apply Kd.R_alloc | apply Kd.R_drewN | apply Kd.R_drew)); exact HO_6.out) gb285 (Nat.le_of_eq hg.symm)) hb); have n1_ := Aside0.mk (below_step (by repeat (first | (with_reducible first | exact HB.out | apply below_alloc | apply pw_below_drewN | apply below_drew1) | exact HB.out)) hb); have n2_ := Aside0.mk (hbox); have n3_ := Aside0.mk ((by rw [hg]; exact (below_size (by repeat (first | (with_reducible first | exact HB.out | apply below_alloc | apply pw_below_drewN | apply below_drew1) | exact HB.out))) : w.heap.size ≤ gb285)); have n4_ := Aside0.mk ((by rw [hg]; exact (below_size (by repeat (first | (with_reducible first | exact HB.out | apply below_alloc | apply pw_below_drewN | apply below_drew1) | exact HB.out))) : w.heap.size ≤ gb285)); clear HO_6; clear HB; have HO_6 := n0_; have HB := n1_; have BK285 := n2_; have GW285 := n3_; have GE285 := n4_; clear n0_ n1_ n2_ n3_ n4_; clear hb hbox hg; have hcz32_0 : w31.cell? ⟨gb285, 0, none⟩ = some (.string (⟨#[]⟩ : ByteArray)) := (blk_cell BK285.out 0).trans rfl; have hcz32_1 : w31.cell? ⟨gb285, 1, none⟩ = some (.int .u64 0) := (blk_cell BK285.out 1).trans rfl; have hcz32_2 : w31.cell? ⟨gb285, 2, none⟩ = some (.bool false) := (blk_cell BK285.out 2).trans rfl; have hcz32_3 : w31.cell? ⟨gb285, 3, none⟩ = some (.string (⟨#[]⟩ : ByteArray)) := (blk_cell BK285.out 3).trans rfl; have hfz32_0 := blk_frozen BK285.out 0; have hfz32_1 := blk_frozen BK285.out 1; have hfz32_2 := blk_frozen BK285.out 2; have hfz32_3 := blk_frozen BK285.out 3))
                                    go_ret2
                                    exact ⟨_, by first | rfl | (simp [errW_none, errW_some] <;> rfl) | (simp only [← hji3]; first | rfl | (simp [errW_none, errW_some] <;> rfl)) | (simp [*, errW_none, errW_some] <;> rfl), by first | exact Kd.R_nil _ _ _ _ _ | exact Kd.N_nil _ _ _ _ _ | exact Kd.V_nil _ _ _ _ _ | exact Kd.Q_nil _ _ _ _ _ | exact Kd.S_nil _ _ _ _ _, by repeat (first | (with_reducible first | exact HB.out | apply below_alloc | apply pw_below_drewN | apply below_drew1 | refine below_set ?_ GE285.out) | exact HB.out)⟩
                                  · rw [if_neg c28] at H
                                    have c28b0 : (t284 == 0) = false := beq_eq_false_iff_ne.mpr c28
                                    have c28b1 : (t284 != 0) = true := bne_iff_ne.mpr c28
                                    replace H := Option.bind_eq_some_iff.mp H
                                    obtain ⟨t286, A330, H⟩ := H
                                    replace H : (if t286 = 0 then (if x6_2.length < 2932031007402 then (screeref9_Open.l0 kj20 l0 t276 (wrap64 ((ji3) - (wrap64 (4 * t276)))) (x6_2 ++ [(⟨t280, t281, t282, t283⟩ : S30)]) t280 x8_20 (wrap64 (x9_2 + t284))) else (none)) else (some (([] : List (S30)), false))) = some (r1, r2) := H
                                    have A33 := Aside0.mk A330
                                    clear A330
                                    by_cases c34 : t286 = 0
                                    · rw [if_pos c34] at H
                                      have c34b0 : (t286 == 0) = true := beq_iff_eq.mpr c34
                                      have c34b1 : (t286 != 0) = false := bne_eq_false_iff_eq.mpr c34
                                      clear c34
                                      by_cases c35 : x6_2.length < 2932031007402
                                      · rw [if_pos c35] at H
                                        have LMc35 := Aside0.mk c35
                                        clear c35
                                        obtain ⟨y287, hy287⟩ : ∃ y_ : List (S30), y_ = (x6_2 ++ [(⟨t280, t281, t282, t283⟩ : S30)]) := ⟨_, rfl⟩
                                        replace H : (screeref9_Open.l0 kj20 l0 t276 (wrap64 ((ji3) - (wrap64 (4 * t276)))) y287 t280 x8_20 (wrap64 (x9_2 + t284))) = some (r1, r2) := by first | (rw [hy287]; with_reducible exact H) | (have H2_ := (Option.bind_some _ _).symm.trans H; rw [hy287]; with_reducible exact H2_) | (have H2_ := (Option.bind_some _ _).symm.trans H; with_reducible exact H2_) | with_reducible exact H | (rw [hy287]; exact H) | exact H
                                        have Ny287 := Aside0.mk hy287
                                        clear hy287
                                        have H' := Aside0.mk H
                                        clear H
                                        obtain ⟨i036, hi036, _, hsz36, _⟩ := info_parts info5
                                        obtain ⟨A36, hcut36, hA36, hC36⟩ := print_mid_of (P := Tryd.prog) (Value.int .u8) 0 22 5 .i64 .i64 Tryd.underlying22 hi036 hsz36 A0 c0 l0 x9_2 (wrap64 ((ji3) - (wrap64 (4 * t276)))) (of_decide_eq_true (by first | (with_reducible assumption) | assumption)) (by first | omega | exact of_decide_eq_true (by first | (with_reducible assumption) | assumption)) (of_decide_eq_true (by first | (with_reducible assumption) | assumption)) HC0.out
                                        have HR279 := Aside0.mk (Kd.C_of_reads (h1 := fun _ => rfl) (hA36 _ (Kd.reads_of_C HR0.out)))
                                        have HC279 := Aside0.mk hC36
                                        clear hA36 hC36 hi036 hsz36
                                        go_wp2_with (first | ((with_reducible refine gate_callee (f := 45) rfl ?_); refine goesL_ (some 66) rfl rfl Tryd.func45 (by kernel_rfl) rfl #[.slice A36 ((l0.take ((wrap64 ((ji3) - (wrap64 (4 * t276)))) : Int).toNat).drop (x9_2 : Int).toNat).length (c0 - x9_2.toNat), .string x7_2] rfl (by (try simp only [List.map_toArray, List.map_cons, List.map_nil]); first | done | (rw [show ((l0.take ((wrap64 ((ji3) - (wrap64 (4 * t276)))) : Int).toNat).drop (x9_2 : Int).toNat).length = ((wrap64 ((ji3) - (wrap64 (4 * t276)))).toNat - x9_2.toNat) from (by rw [List.length_drop, List.length_take]; have h_ : ((wrap64 ((ji3) - (wrap64 (4 * t276)))) : Int) ≤ (l0.length : Int) := of_decide_eq_true (by first | (with_reducible assumption) | assumption); omega)] <;> rfl) | (simp only [hji3]; rfl) | rfl | (simp only [List.length_drop, List.length_take]; rfl)) ?_; (with_reducible refine (screeref9_entry.calls kj20 _ _ ((l0.take ((wrap64 ((ji3) - (wrap64 (4 * t276)))) : Int).toNat).drop (x9_2 : Int).toNat) x7_2 t280 t281 t282 t283 t284 _ ?side1 ?side2 A27.out).mono ?_); (case side1 => repeat (first | exact (Kd.C_below HR279.out HB.out) | (with_reducible refine Kd.C_alloc ?_ _) | (with_reducible refine Kd.C_drewN ?_ _) | (with_reducible refine Kd.C_drew ?_))); (case side2 => exact HC279.out); rintro e w37 ⟨rfl, hb⟩; refine ⟨_, rfl, ?_⟩; have n0_ := Aside0.mk (Kd.R_below (by (with_reducible repeat (first | apply Kd.R_alloc | apply Kd.R_drewN | apply Kd.R_drew)); exact HO_6.out) hb); have n1_ := Aside0.mk (below_step (by repeat (first | (with_reducible first | exact HB.out | apply below_alloc | apply pw_below_drewN | apply below_drew1) | exact HB.out)) hb); clear HO_6; clear HB; have HO_6 := n0_; have HB := n1_; clear n0_ n1_; (try clear hb); (try clear hb2); (try clear hk); (try clear hi)) | ((with_reducible refine gate_dst (N := 10) rfl ?_); (try (refine gate_guard (by rfl) ?_; dsimp only)); refine box_event ?hg (N := 10) ?hd (cs := #[.string (⟨#[]⟩ : ByteArray), .int .u64 0, .bool false, .string (⟨#[]⟩ : ByteArray)]) (t := 30) ?hr ?_; (case hd => rfl); (case hg => rfl); (case hr => first | (go_simp; done) | (go_simp; rfl)); intro gb285 hg w38 hbox hb; have n0_ := Aside0.mk (Kd.R_below (Kd.R_elderB (by (with_reducible repeat (first | apply Kd.R_alloc | apply Kd.R_drewN | apply Kd.R_drew)); exact HO_6.out) gb285 (Nat.le_of_eq hg.symm)) hb); have n1_ := Aside0.mk (below_step (by repeat (first | (with_reducible first | exact HB.out | apply below_alloc | apply pw_below_drewN | apply below_drew1) | exact HB.out)) hb); have n2_ := Aside0.mk (hbox); have n3_ := Aside0.mk ((by rw [hg]; exact (below_size (by repeat (first | (with_reducible first | exact HB.out | apply below_alloc | apply pw_below_drewN | apply below_drew1) | exact HB.out))) : w.heap.size ≤ gb285)); have n4_ := Aside0.mk ((by rw [hg]; exact (below_size (by repeat (first | (with_reducible first | exact HB.out | apply below_alloc | apply pw_below_drewN | apply below_drew1) | exact HB.out))) : w.heap.size ≤ gb285)); clear HO_6; clear HB; have HO_6 := n0_; have HB := n1_; have BK285 := n2_; have GW285 := n3_; have GE285 := n4_; clear n0_ n1_ n2_ n3_ n4_; clear hb hbox hg; have hcz39_0 : w38.cell? ⟨gb285, 0, none⟩ = some (.string (⟨#[]⟩ : ByteArray)) := (blk_cell BK285.out 0).trans rfl; have hcz39_1 : w38.cell? ⟨gb285, 1, none⟩ = some (.int .u64 0) := (blk_cell BK285.out 1).trans rfl; have hcz39_2 : w38.cell? ⟨gb285, 2, none⟩ = some (.bool false) := (blk_cell BK285.out 2).trans rfl; have hcz39_3 : w38.cell? ⟨gb285, 3, none⟩ = some (.string (⟨#[]⟩ : ByteArray)) := (blk_cell BK285.out 3).trans rfl; have hfz39_0 := blk_frozen BK285.out 0; have hfz39_1 := blk_frozen BK285.out 1; have hfz39_2 := blk_frozen BK285.out 2; have hfz39_3 := blk_frozen BK285.out 3; obtain ⟨Ao40, co40, eo40⟩ := Kd.R_slice HO_6.out; subst eo40) | (go_at_call 11; (with_reducible refine (screeref9_Adds.calls kj20 _ _ x6_2 t280 t281 t282 t283 t286 _ ?side1 ?side2 A33.out).mono ?_); (case side1 => refine (Kd.R_reads' (e := 30) (base := w.heap.size) (ok := fun k_ => (True ∧ k_ ≠ gb285)) (n := x6_2.length) (c := co40) ?_).2.2; exact (by (with_reducible repeat (first | apply Kd.R_alloc | apply Kd.R_drewN | apply Kd.R_drew)); exact (Kd.R_mono (Kd.R_far (p := ⟨gb285, 3, none⟩) (Kd.R_far (p := ⟨gb285, 2, none⟩) (Kd.R_far (p := ⟨gb285, 1, none⟩) (Kd.R_far (p := ⟨gb285, 0, none⟩) (Kd.R_mono HO_6.out (fun k_ hk => (⟨hk, hk.2⟩ : _ ∧ k_ ≠ gb285))) (fun _ hk => hk.2) (.string t280)) (fun _ hk => hk.2) (.int .u64 t281)) (fun _ hk => hk.2) (.bool t282)) (fun _ hk => hk.2) (.string t283)) (fun _ h_ => h_.1)))); (case side2 => exact (Kd.R_reads' HO_6.out).2.1); rintro e w41 ⟨rfl, hb⟩; have n0_ := Aside0.mk (Kd.R_below (by (with_reducible repeat (first | apply Kd.R_alloc | apply Kd.R_drewN | apply Kd.R_drew)); exact (Kd.R_mono (Kd.R_far (p := ⟨gb285, 3, none⟩) (Kd.R_far (p := ⟨gb285, 2, none⟩) (Kd.R_far (p := ⟨gb285, 1, none⟩) (Kd.R_far (p := ⟨gb285, 0, none⟩) (Kd.R_mono HO_6.out (fun k_ hk => (⟨hk, hk.2⟩ : _ ∧ k_ ≠ gb285))) (fun _ hk => hk.2) (.string t280)) (fun _ hk => hk.2) (.int .u64 t281)) (fun _ hk => hk.2) (.bool t282)) (fun _ hk => hk.2) (.string t283)) (fun _ h_ => h_.1))) hb); have n1_ := Aside0.mk (blk_below (g := gb285) (o := .cells #[.string t280, .int .u64 t281, .bool t282, .string t283] 30 (0, 0)) (by (with_reducible repeat (first | refine blk_drewN ?_ _ | refine blk_drew ?_ | refine blk_alloc ?_ _)); refine blk_put (cs := #[.string t280, .int .u64 t281, .bool t282, .string (⟨#[]⟩ : ByteArray)]) ?_ 3 _ rfl; (with_reducible repeat (first | refine blk_drewN ?_ _ | refine blk_drew ?_ | refine blk_alloc ?_ _)); refine blk_put (cs := #[.string t280, .int .u64 t281, .bool false, .string (⟨#[]⟩ : ByteArray)]) ?_ 2 _ rfl; (with_reducible repeat (first | refine blk_drewN ?_ _ | refine blk_drew ?_ | refine blk_alloc ?_ _)); refine blk_put (cs := #[.string t280, .int .u64 0, .bool false, .string (⟨#[]⟩ : ByteArray)]) ?_ 1 _ rfl; (with_reducible repeat (first | refine blk_drewN ?_ _ | refine blk_drew ?_ | refine blk_alloc ?_ _)); refine blk_put (cs := #[.string (⟨#[]⟩ : ByteArray), .int .u64 0, .bool false, .string (⟨#[]⟩ : ByteArray)]) ?_ 0 _ rfl; (with_reducible repeat (first | refine blk_drewN ?_ _ | refine blk_drew ?_ | refine blk_alloc ?_ _)); exact BK285.out) hb); have n2_ := Aside0.mk (below_step (by repeat (first | (with_reducible first | exact HB.out | apply below_alloc | apply pw_below_drewN | apply below_drew1 | refine below_set ?_ GE285.out) | exact HB.out)) hb); clear HO_6; clear BK285; clear HB; have HO_6 := n0_; have BK285 := n1_; have HB := n2_; clear n0_ n1_ n2_; (try clear hb); (try clear hb2); (try clear hk); (try clear hi); have hcz42_0 : w41.cell? ⟨gb285, 0, none⟩ = some (.string t280) := (blk_cell BK285.out 0).trans rfl; have hcz42_1 : w41.cell? ⟨gb285, 1, none⟩ = some (.int .u64 t281) := (blk_cell BK285.out 1).trans rfl; have hcz42_2 : w41.cell? ⟨gb285, 2, none⟩ = some (.bool t282) := (blk_cell BK285.out 2).trans rfl; have hcz42_3 : w41.cell? ⟨gb285, 3, none⟩ = some (.string t283) := (blk_cell BK285.out 3).trans rfl; have hfz42_0 := blk_frozen BK285.out 0; have hfz42_1 := blk_frozen BK285.out 1; have hfz42_2 := blk_frozen BK285.out 2; have hfz42_3 := blk_frozen BK285.out 3) | ((with_reducible refine gate_builtin (b := .append) (xs := #[.tmp 77, .tmp 79]) rfl ?_); (try (refine gate_guard (by rfl) ?_; dsimp only)); at_builtin; refine Kd.R_append k30 (w0 := w) w.heap.size rfl (.tmp 77) (.tmp 79) 25 30 (.agg #[(.string ⟨#[]⟩), (.int .u64 0), (.bool false), (.string ⟨#[]⟩)]) 48 rfl Tryd.underlying25 info30 rfl (by decide) (by omega) (.slice Ao40 x6_2.length co40) x6_2 (⟨t280, t281, t282, t283⟩ : S30) [.string t280, .int .u64 t281, .bool t282, .string t283] (fun k_ => k_ ≠ gb285) (fun _ => False) rfl rfl ?aP (fun _ hk => hk.elim) ?aF ?aO ?aB ?aS ?aL ?_; (case aP => exact k30_mkM _ _ _ (⟨t280, t281, t282, t283⟩ : S30)); (case aB => exact (by repeat (first | (with_reducible first | exact HB.out | apply below_alloc | apply pw_below_drewN | apply below_drew1 | refine below_set ?_ GE285.out) | exact HB.out))); (case aF => exact (fun k_ hk => Kd.freshB (g := gb285) (o := .cells #[.string t280, .int .u64 t281, .bool t282, .string t283] 30 (0, 0)) (by (with_reducible repeat (first | refine blk_drewN ?_ _ | refine blk_drew ?_ | refine blk_alloc ?_ _)); exact BK285.out) k_ hk)); (case aO => exact (by (with_reducible repeat (first | apply Kd.R_alloc | apply Kd.R_drewN | apply Kd.R_drew)); exact Kd.R_mono HO_6.out (fun _ hk => hk.2))); (case aS => exact (below_size (by repeat (first | (with_reducible first | exact HB.out | apply below_alloc | apply pw_below_drewN | apply below_drew1 | refine below_set ?_ GE285.out) | exact HB.out)))); (case aL => have := LMc35.out; omega); intro v288 w43 ho hb hg hat; rw [← Ny287.out] at ho; have n0_ := Aside0.mk (blk_grown (g := gb285) (o := .cells #[.string t280, .int .u64 t281, .bool t282, .string t283] 30 (0, 0)) (by (with_reducible repeat (first | refine blk_drewN ?_ _ | refine blk_drew ?_ | refine blk_alloc ?_ _)); exact BK285.out) hg (Kd.R_away HO_6.out (fun _ hk => hk.2))); have n1_ := Aside0.mk (hb); have n2_ := Aside0.mk (ho); clear BK285; clear HB; clear HO_6; have BK285 := n0_; have HB := n1_; have HO289 := n2_; clear n0_ n1_ n2_; clear ho hb hg hat; have hcz44_0 : w43.cell? ⟨gb285, 0, none⟩ = some (.string t280) := (blk_cell BK285.out 0).trans rfl; have hcz44_1 : w43.cell? ⟨gb285, 1, none⟩ = some (.int .u64 t281) := (blk_cell BK285.out 1).trans rfl; have hcz44_2 : w43.cell? ⟨gb285, 2, none⟩ = some (.bool t282) := (blk_cell BK285.out 2).trans rfl; have hcz44_3 : w43.cell? ⟨gb285, 3, none⟩ = some (.string t283) := (blk_cell BK285.out 3).trans rfl; have hfz44_0 := blk_frozen BK285.out 0; have hfz44_1 := blk_frozen BK285.out 1; have hfz44_2 := blk_frozen BK285.out 2; have hfz44_3 := blk_frozen BK285.out 3))
                                        go_roundg kj20
                                        case measure => have := HJ6.out; have := HK2.out; have := HJ12.out; have := HJ20.out; omega
                                        case rel => exact ⟨(y287), (t280), (x8_20), (wrap64 (x9_2 + t284)), (by first | rfl | (simp; done) | (simp [*]; done)), (by first | rfl | (simp; done) | (simp [*]; done)), (by first | rfl | (simp; done) | (simp [*]; done)), H', ⟨by have := HJ6.out; have := HK2.out; have := HJ12.out; have := HJ20.out; omega⟩, ⟨by (with_reducible repeat (first | apply Kd.R_alloc | apply Kd.R_drewN | apply Kd.R_drew)); exact Kd.R_mono HO289.out (fun _ hk => trivial)⟩, ⟨by repeat (first | (with_reducible first | exact HB.out | apply below_alloc | apply pw_below_drewN | apply below_drew1 | refine below_set ?_ GE285.out) | exact HB.out)⟩⟩
                                      · rw [if_neg c35] at H
                                        exact absurd H (by simp)
                                    · rw [if_neg c34] at H
                                      have c34b0 : (t286 == 0) = false := beq_eq_false_iff_ne.mpr c34
                                      have c34b1 : (t286 != 0) = true := bne_iff_ne.mpr c34
                                      simp only [Option.some.injEq, Prod.mk.injEq] at H
                                      obtain ⟨rfl, rfl⟩ := H
                                      obtain ⟨i045, hi045, _, hsz45, _⟩ := info_parts info5
                                      obtain ⟨A45, hcut45, hA45, hC45⟩ := print_mid_of (P := Tryd.prog) (Value.int .u8) 0 22 5 .i64 .i64 Tryd.underlying22 hi045 hsz45 A0 c0 l0 x9_2 (wrap64 ((ji3) - (wrap64 (4 * t276)))) (of_decide_eq_true (by first | (with_reducible assumption) | assumption)) (by first | omega | exact of_decide_eq_true (by first | (with_reducible assumption) | assumption)) (of_decide_eq_true (by first | (with_reducible assumption) | assumption)) HC0.out
                                      have HR279 := Aside0.mk (Kd.C_of_reads (h1 := fun _ => rfl) (hA45 _ (Kd.reads_of_C HR0.out)))
                                      have HC279 := Aside0.mk hC45
                                      clear hA45 hC45 hi045 hsz45
                                      go_wp2_with (first | ((with_reducible refine gate_callee (f := 45) rfl ?_); refine goesL_ (some 66) rfl rfl Tryd.func45 (by kernel_rfl) rfl #[.slice A45 ((l0.take ((wrap64 ((ji3) - (wrap64 (4 * t276)))) : Int).toNat).drop (x9_2 : Int).toNat).length (c0 - x9_2.toNat), .string x7_2] rfl (by (try simp only [List.map_toArray, List.map_cons, List.map_nil]); first | done | (rw [show ((l0.take ((wrap64 ((ji3) - (wrap64 (4 * t276)))) : Int).toNat).drop (x9_2 : Int).toNat).length = ((wrap64 ((ji3) - (wrap64 (4 * t276)))).toNat - x9_2.toNat) from (by rw [List.length_drop, List.length_take]; have h_ : ((wrap64 ((ji3) - (wrap64 (4 * t276)))) : Int) ≤ (l0.length : Int) := of_decide_eq_true (by first | (with_reducible assumption) | assumption); omega)] <;> rfl) | (simp only [hji3]; rfl) | rfl | (simp only [List.length_drop, List.length_take]; rfl)) ?_; (with_reducible refine (screeref9_entry.calls kj20 _ _ ((l0.take ((wrap64 ((ji3) - (wrap64 (4 * t276)))) : Int).toNat).drop (x9_2 : Int).toNat) x7_2 t280 t281 t282 t283 t284 _ ?side1 ?side2 A27.out).mono ?_); (case side1 => repeat (first | exact (Kd.C_below HR279.out HB.out) | (with_reducible refine Kd.C_alloc ?_ _) | (with_reducible refine Kd.C_drewN ?_ _) | (with_reducible refine Kd.C_drew ?_))); (case side2 => exact HC279.out); rintro e w46 ⟨rfl, hb⟩; refine ⟨_, rfl, ?_⟩; have n0_ := Aside0.mk (Kd.R_below (by (with_reducible repeat (first | apply Kd.R_alloc | apply Kd.R_drewN | apply Kd.R_drew)); exact HO_6.out) hb); have n1_ := Aside0.mk (below_step (by repeat (first | (with_reducible first | exact HB.out | apply below_alloc | apply pw_below_drewN | apply below_drew1) | exact HB.out)) hb); clear HO_6; clear HB; have HO_6 := n0_; have HB := n1_; clear n0_ n1_; (try clear hb); (try clear hb2); (try clear hk); (try clear hi)) | ((with_reducible refine gate_dst (N := 10) rfl ?_); (try (refine gate_guard (by rfl) ?_; dsimp only)); refine box_event ?hg (N := 10) ?hd (cs := #[.string (⟨#[]⟩ : ByteArray), .int .u64 0, .bool false, .string (⟨#[]⟩ : ByteArray)]) (t := 30) ?hr ?_; (case hd => rfl); (case hg => rfl); (case hr => first | (go_simp; done) | (go_simp; rfl)); intro gb285 hg w47 hbox hb; have n0_ := Aside0.mk (Kd.R_below (Kd.R_elderB (by (with_reducible repeat (first | apply Kd.R_alloc | apply Kd.R_drewN | apply Kd.R_drew)); exact HO_6.out) gb285 (Nat.le_of_eq hg.symm)) hb); have n1_ := Aside0.mk (below_step (by repeat (first | (with_reducible first | exact HB.out | apply below_alloc | apply pw_below_drewN | apply below_drew1) | exact HB.out)) hb); have n2_ := Aside0.mk (hbox); have n3_ := Aside0.mk ((by rw [hg]; exact (below_size (by repeat (first | (with_reducible first | exact HB.out | apply below_alloc | apply pw_below_drewN | apply below_drew1) | exact HB.out))) : w.heap.size ≤ gb285)); have n4_ := Aside0.mk ((by rw [hg]; exact (below_size (by repeat (first | (with_reducible first | exact HB.out | apply below_alloc | apply pw_below_drewN | apply below_drew1) | exact HB.out))) : w.heap.size ≤ gb285)); clear HO_6; clear HB; have HO_6 := n0_; have HB := n1_; have BK285 := n2_; have GW285 := n3_; have GE285 := n4_; clear n0_ n1_ n2_ n3_ n4_; clear hb hbox hg; have hcz48_0 : w47.cell? ⟨gb285, 0, none⟩ = some (.string (⟨#[]⟩ : ByteArray)) := (blk_cell BK285.out 0).trans rfl; have hcz48_1 : w47.cell? ⟨gb285, 1, none⟩ = some (.int .u64 0) := (blk_cell BK285.out 1).trans rfl; have hcz48_2 : w47.cell? ⟨gb285, 2, none⟩ = some (.bool false) := (blk_cell BK285.out 2).trans rfl; have hcz48_3 : w47.cell? ⟨gb285, 3, none⟩ = some (.string (⟨#[]⟩ : ByteArray)) := (blk_cell BK285.out 3).trans rfl; have hfz48_0 := blk_frozen BK285.out 0; have hfz48_1 := blk_frozen BK285.out 1; have hfz48_2 := blk_frozen BK285.out 2; have hfz48_3 := blk_frozen BK285.out 3; obtain ⟨Ao49, co49, eo49⟩ := Kd.R_slice HO_6.out; subst eo49) | (go_at_call 11; (with_reducible refine (screeref9_Adds.calls kj20 _ _ x6_2 t280 t281 t282 t283 t286 _ ?side1 ?side2 A33.out).mono ?_); (case side1 => refine (Kd.R_reads' (e := 30) (base := w.heap.size) (ok := fun k_ => (True ∧ k_ ≠ gb285)) (n := x6_2.length) (c := co49) ?_).2.2; exact (by (with_reducible repeat (first | apply Kd.R_alloc | apply Kd.R_drewN | apply Kd.R_drew)); exact (Kd.R_mono (Kd.R_far (p := ⟨gb285, 3, none⟩) (Kd.R_far (p := ⟨gb285, 2, none⟩) (Kd.R_far (p := ⟨gb285, 1, none⟩) (Kd.R_far (p := ⟨gb285, 0, none⟩) (Kd.R_mono HO_6.out (fun k_ hk => (⟨hk, hk.2⟩ : _ ∧ k_ ≠ gb285))) (fun _ hk => hk.2) (.string t280)) (fun _ hk => hk.2) (.int .u64 t281)) (fun _ hk => hk.2) (.bool t282)) (fun _ hk => hk.2) (.string t283)) (fun _ h_ => h_.1)))); (case side2 => exact (Kd.R_reads' HO_6.out).2.1); rintro e w50 ⟨rfl, hb⟩; have n0_ := Aside0.mk (Kd.R_below (by (with_reducible repeat (first | apply Kd.R_alloc | apply Kd.R_drewN | apply Kd.R_drew)); exact (Kd.R_mono (Kd.R_far (p := ⟨gb285, 3, none⟩) (Kd.R_far (p := ⟨gb285, 2, none⟩) (Kd.R_far (p := ⟨gb285, 1, none⟩) (Kd.R_far (p := ⟨gb285, 0, none⟩) (Kd.R_mono HO_6.out (fun k_ hk => (⟨hk, hk.2⟩ : _ ∧ k_ ≠ gb285))) (fun _ hk => hk.2) (.string t280)) (fun _ hk => hk.2) (.int .u64 t281)) (fun _ hk => hk.2) (.bool t282)) (fun _ hk => hk.2) (.string t283)) (fun _ h_ => h_.1))) hb); have n1_ := Aside0.mk (blk_below (g := gb285) (o := .cells #[.string t280, .int .u64 t281, .bool t282, .string t283] 30 (0, 0)) (by (with_reducible repeat (first | refine blk_drewN ?_ _ | refine blk_drew ?_ | refine blk_alloc ?_ _)); refine blk_put (cs := #[.string t280, .int .u64 t281, .bool t282, .string (⟨#[]⟩ : ByteArray)]) ?_ 3 _ rfl; (with_reducible repeat (first | refine blk_drewN ?_ _ | refine blk_drew ?_ | refine blk_alloc ?_ _)); refine blk_put (cs := #[.string t280, .int .u64 t281, .bool false, .string (⟨#[]⟩ : ByteArray)]) ?_ 2 _ rfl; (with_reducible repeat (first | refine blk_drewN ?_ _ | refine blk_drew ?_ | refine blk_alloc ?_ _)); refine blk_put (cs := #[.string t280, .int .u64 0, .bool false, .string (⟨#[]⟩ : ByteArray)]) ?_ 1 _ rfl; (with_reducible repeat (first | refine blk_drewN ?_ _ | refine blk_drew ?_ | refine blk_alloc ?_ _)); refine blk_put (cs := #[.string (⟨#[]⟩ : ByteArray), .int .u64 0, .bool false, .string (⟨#[]⟩ : ByteArray)]) ?_ 0 _ rfl; (with_reducible repeat (first | refine blk_drewN ?_ _ | refine blk_drew ?_ | refine blk_alloc ?_ _)); exact BK285.out) hb); have n2_ := Aside0.mk (below_step (by repeat (first | (with_reducible first | exact HB.out | apply below_alloc | apply pw_below_drewN | apply below_drew1 | refine below_set ?_ GE285.out) | exact HB.out)) hb); clear HO_6; clear BK285; clear HB; have HO_6 := n0_; have BK285 := n1_; have HB := n2_; clear n0_ n1_ n2_; (try clear hb); (try clear hb2); (try clear hk); (try clear hi)))
                                      go_ret2
                                      exact ⟨_, by first | rfl | (simp [errW_none, errW_some] <;> rfl) | (simp only [← hji3]; first | rfl | (simp [errW_none, errW_some] <;> rfl)) | (simp [*, errW_none, errW_some] <;> rfl), by first | exact Kd.R_nil _ _ _ _ _ | exact Kd.N_nil _ _ _ _ _ | exact Kd.V_nil _ _ _ _ _ | exact Kd.Q_nil _ _ _ _ _ | exact Kd.S_nil _ _ _ _ _, by repeat (first | (with_reducible first | exact HB.out | apply below_alloc | apply pw_below_drewN | apply below_drew1 | refine below_set ?_ GE285.out) | exact HB.out)⟩
                                · rw [if_neg c26] at H
                                  exact absurd H (by simp)
                              · rw [if_neg c25] at H
                                exact absurd H (by simp)
                            · rw [if_neg c24] at H
                              exact absurd H (by simp)
                  · rw [if_neg c12] at H
                    have c12b0 : decide (x9_2 < (wrap64 ((ji3) - (wrap64 (4 * t276))))) = false := decide_eq_false c12
                    clear c12
                    have HC51 := Aside0.mk H
                    clear H
                    obtain ⟨Ao52, co52, eo52⟩ := Kd.R_slice HO_6.out
                    subst eo52
                    go_upto_if 89 with (fail)
                    (try (obtain ⟨tb3_, hTB3_⟩ : ∃ tb_ : Bool, (decide (2 ≤ t276)) = tb_ := ⟨_, rfl⟩; simp only [hTB3_]; have TB3_ := Aside0.mk hTB3_; clear hTB3_))
                    go_cut [12] (fun v12 wc => ∃ (kq : Nat) (x12_50 : Int), v12 = .int .i64 x12_50 ∧ Aside0 (screeref9_Open.j4 kq l0 x6_2 x12_50 = some (r1, r2)) ∧ Aside0 (kq ≤ k2) ∧ Aside0 (Kd.R k30 30 wc w.heap.size (fun _ => True) (.slice Ao52 x6_2.length co52) x6_2) ∧ Aside0 (Below w.heap.size w wc))
                    case first =>
                      have H := HC51.out
                      clear HC51
                      by_cases c53 : t276 ≥ 2
                      · rw [if_pos c53] at H
                        have c53b0 : decide (2 ≤ t276) = true := decide_eq_true c53
                        (try (obtain rfl := TB3_.out.symm.trans c53b0))
                        clear c53
                        (first | rw [c53b0] | (simp only [i64_w, i32_w]; rw [c53b0]) | skip)
                        have H' := Aside0.mk H
                        clear H
                        go_wp2
                        go_meet
                        case rel => exact ⟨_, (x8_2), (by first | rfl | (simp; done) | (simp [*]; done)), H', ⟨by have := HJ6.out; have := HK2.out; first | omega | exact Nat.le_refl _⟩, ⟨by (with_reducible repeat (first | apply Kd.R_alloc | apply Kd.R_drewN | apply Kd.R_drew)); exact HO_6.out⟩, ⟨by repeat (first | (with_reducible first | exact HB.out | apply below_alloc | apply pw_below_drewN | apply below_drew1) | exact HB.out)⟩⟩
                      · rw [if_neg c53] at H
                        have c53b0 : decide (2 ≤ t276) = false := decide_eq_false c53
                        (try (obtain rfl := TB3_.out.symm.trans c53b0))
                        clear c53
                        (first | rw [c53b0] | (simp only [i64_w, i32_w]; rw [c53b0]) | skip)
                        have H' := Aside0.mk H
                        clear H
                        go_wp2
                        go_meet
                        case rel => exact ⟨_, ((x6_2.length : Int)), (by first | rfl | (simp; done) | (simp [*]; done)), H', ⟨by have := HJ6.out; have := HK2.out; first | omega | exact Nat.le_refl _⟩, ⟨by (with_reducible repeat (first | apply Kd.R_alloc | apply Kd.R_drewN | apply Kd.R_drew)); exact HO_6.out⟩, ⟨by repeat (first | (with_reducible first | exact HB.out | apply below_alloc | apply pw_below_drewN | apply below_drew1) | exact HB.out)⟩⟩
                    case rest =>
                      clear HC51
                      try clear c1
                      try clear c2
                      try clear c2b0
                      try clear c2b1
                      try clear p2
                      try clear c3
                      try clear c4
                      try clear c4b0
                      try clear c4b1
                      try clear c5
                      try clear c5b0
                      try clear c5b1
                      try clear p6
                      try clear c9
                      try clear c9b0
                      try clear c10
                      try clear c10b0
                      try clear c11
                      try clear c12
                      try clear c12b0
                      try clear c14
                      try clear c14b0
                      try clear c15
                      try clear c15b0
                      try clear c17
                      try clear c17b0
                      try clear c17b1
                      try clear c18
                      try clear c18b0
                      try clear c18b1
                      try clear c22
                      try clear c24
                      try clear c24b0
                      try clear c24b1
                      try clear c25
                      try clear c25b0
                      try clear c25b1
                      try clear c26
                      try clear c26b0
                      try clear c26b1
                      try clear c28
                      try clear c28b0
                      try clear c28b1
                      try clear c34
                      try clear c34b0
                      try clear c34b1
                      try clear c35
                      try clear c44
                      try clear c45
                      try clear c53
                      try clear c53b0
                      try clear hcz32_0
                      try clear hcz32_1
                      try clear hcz32_2
                      try clear hcz32_3
                      try clear hcz39_0
                      try clear hcz39_1
                      try clear hcz39_2
                      try clear hcz39_3
                      try clear hcz42_0
                      try clear hcz42_1
                      try clear hcz42_2
                      try clear hcz42_3
                      try clear hcz44_0
                      try clear hcz44_1
                      try clear hcz44_2
                      try clear hcz44_3
                      try clear hcz48_0
                      try clear hcz48_1
                      try clear hcz48_2
                      try clear hcz48_3
                      try clear hfz32_0
                      try clear hfz32_1
                      try clear hfz32_2
                      try clear hfz32_3
                      try clear hfz39_0
                      try clear hfz39_1
                      try clear hfz39_2
                      try clear hfz39_3
                      try clear hfz42_0
                      try clear hfz42_1
                      try clear hfz42_2
                      try clear hfz42_3
                      try clear hfz44_0
                      try clear hfz44_1
                      try clear hfz44_2
                      try clear hfz44_3
                      try clear hfz48_0
                      try clear hfz48_1
                      try clear hfz48_2
                      try clear hfz48_3
                      try clear p2
                      try clear p6
                      obtain ⟨kq, x12_50, rfl, HA, HJ50, HO_6, HB⟩ := hcut
                      cases kq with
                      | zero => exact absurd HA.out (by simp [screeref9_Open.j4])
                      | succ kj50 =>
                        have H := HA.out
                        clear HA
                        simp only [screeref9_Open.j4] at H
                        have HC54 := Aside0.mk H
                        clear H
                        go_upto_region 23 with (fail)
                        (try (obtain ⟨tb4_, hTB4_⟩ : ∃ tb_ : Bool, (decide (0 < (x6_2.length : Int))) = tb_ := ⟨_, rfl⟩; simp only [hTB4_]; have TB4_ := Aside0.mk hTB4_; clear hTB4_))
                        go_cut [97] (fun v97 wc => ∃ (kq : Nat) (x97_53 : Bool), v97 = .bool x97_53 ∧ Aside0 (screeref9_Open.j5 kq l0 x6_2 x12_50 x97_53 = some (r1, r2)) ∧ Aside0 (kq ≤ kj50) ∧ Aside0 (Kd.R k30 30 wc w.heap.size (fun _ => True) (.slice Ao52 x6_2.length co52) x6_2) ∧ Aside0 (Below w.heap.size w wc))
                        case first =>
                          have H := HC54.out
                          clear HC54
                          by_cases c55 : (x6_2.length : Int) > 0
                          · rw [if_pos c55] at H
                            have c55b0 : decide (0 < (x6_2.length : Int)) = true := decide_eq_true c55
                            (try (obtain rfl := TB4_.out.symm.trans c55b0))
                            have c55b1 : decide (0 < x6_2.length) = true := decide_eq_true (by omega)
                            clear c55
                            (first | rw [c55b0] | (simp only [i64_w, i32_w]; rw [c55b0]) | skip)
                            have H' := Aside0.mk H
                            clear H
                            go_wp2
                            go_meet
                            case rel => exact ⟨_, (decide (x12_50 < 1)), (by first | rfl | (simp; done) | (simp [*]; done)), H', ⟨by have := HJ6.out; have := HK2.out; have := HJ50.out; first | omega | exact Nat.le_refl _⟩, ⟨by (with_reducible repeat (first | apply Kd.R_alloc | apply Kd.R_drewN | apply Kd.R_drew)); exact HO_6.out⟩, ⟨by repeat (first | (with_reducible first | exact HB.out | apply below_alloc | apply pw_below_drewN | apply below_drew1) | exact HB.out)⟩⟩
                          · rw [if_neg c55] at H
                            have c55b0 : decide (0 < (x6_2.length : Int)) = false := decide_eq_false c55
                            (try (obtain rfl := TB4_.out.symm.trans c55b0))
                            have c55b1 : decide (0 < x6_2.length) = false := decide_eq_false (by omega)
                            clear c55
                            (first | rw [c55b0] | (simp only [i64_w, i32_w]; rw [c55b0]) | skip)
                            have H' := Aside0.mk H
                            clear H
                            go_wp2
                            go_meet
                            case rel => exact ⟨_, (false), (by first | rfl | (simp; done) | (simp [*]; done)), H', ⟨by have := HJ6.out; have := HK2.out; have := HJ50.out; first | omega | exact Nat.le_refl _⟩, ⟨by (with_reducible repeat (first | apply Kd.R_alloc | apply Kd.R_drewN | apply Kd.R_drew)); exact HO_6.out⟩, ⟨by repeat (first | (with_reducible first | exact HB.out | apply below_alloc | apply pw_below_drewN | apply below_drew1) | exact HB.out)⟩⟩
                        case rest =>
                          clear HC54
                          try clear c1
                          try clear c2
                          try clear c2b0
                          try clear c2b1
                          try clear p2
                          try clear c3
                          try clear c4
                          try clear c4b0
                          try clear c4b1
                          try clear c5
                          try clear c5b0
                          try clear c5b1
                          try clear p6
                          try clear c9
                          try clear c9b0
                          try clear c10
                          try clear c10b0
                          try clear c11
                          try clear c12
                          try clear c12b0
                          try clear c14
                          try clear c14b0
                          try clear c15
                          try clear c15b0
                          try clear c17
                          try clear c17b0
                          try clear c17b1
                          try clear c18
                          try clear c18b0
                          try clear c18b1
                          try clear c22
                          try clear c24
                          try clear c24b0
                          try clear c24b1
                          try clear c25
                          try clear c25b0
                          try clear c25b1
                          try clear c26
                          try clear c26b0
                          try clear c26b1
                          try clear c28
                          try clear c28b0
                          try clear c28b1
                          try clear c34
                          try clear c34b0
                          try clear c34b1
                          try clear c35
                          try clear c44
                          try clear c45
                          try clear c53
                          try clear c53b0
                          try clear c55
                          try clear c55b0
                          try clear c55b1
                          try clear hcz32_0
                          try clear hcz32_1
                          try clear hcz32_2
                          try clear hcz32_3
                          try clear hcz39_0
                          try clear hcz39_1
                          try clear hcz39_2
                          try clear hcz39_3
                          try clear hcz42_0
                          try clear hcz42_1
                          try clear hcz42_2
                          try clear hcz42_3
                          try clear hcz44_0
                          try clear hcz44_1
                          try clear hcz44_2
                          try clear hcz44_3
                          try clear hcz48_0
                          try clear hcz48_1
                          try clear hcz48_2
                          try clear hcz48_3
                          try clear hfz32_0
                          try clear hfz32_1
                          try clear hfz32_2
                          try clear hfz32_3
                          try clear hfz39_0
                          try clear hfz39_1
                          try clear hfz39_2
                          try clear hfz39_3
                          try clear hfz42_0
                          try clear hfz42_1
                          try clear hfz42_2
                          try clear hfz42_3
                          try clear hfz44_0
                          try clear hfz44_1
                          try clear hfz44_2
                          try clear hfz44_3
                          try clear hfz48_0
                          try clear hfz48_1
                          try clear hfz48_2
                          try clear hfz48_3
                          try clear p2
                          try clear p6
                          obtain ⟨kq, x97_53, rfl, HA, HJ53, HO_6, HB⟩ := hcut
                          cases kq with
                          | zero => exact absurd HA.out (by simp [screeref9_Open.j5])
                          | succ kj53 =>
                            have H := HA.out
                            clear HA
                            simp only [screeref9_Open.j5] at H
                            by_cases c56 : x97_53 = true
                            · subst c56
                              have H1 : (some (([] : List (S30)), false)) = some (r1, r2) := by rw [if_pos rfl] at H; exact H
                              clear H
                              have H := H1
                              clear H1
                              simp only [Option.some.injEq, Prod.mk.injEq] at H
                              obtain ⟨rfl, rfl⟩ := H
                              go_wp2
                              go_ret2
                              exact ⟨_, by first | rfl | (simp [errW_none, errW_some] <;> rfl) | (simp only [← hji3]; first | rfl | (simp [errW_none, errW_some] <;> rfl)) | (simp [*, errW_none, errW_some] <;> rfl), by first | exact Kd.R_nil _ _ _ _ _ | exact Kd.N_nil _ _ _ _ _ | exact Kd.V_nil _ _ _ _ _ | exact Kd.Q_nil _ _ _ _ _ | exact Kd.S_nil _ _ _ _ _, by repeat (first | (with_reducible first | exact HB.out | apply below_alloc | apply pw_below_drewN | apply below_drew1) | exact HB.out)⟩
                            · replace c56 := Bool.eq_false_iff.mpr c56
                              subst c56
                              have H1 : ((screeref9_Bytes.f kj53 x6_2 x12_50).bind fun t290 => ((screeref9_same.f kj53 t290 l0).bind fun t293 => (some (x6_2, t293)))) = some (r1, r2) := by rw [if_neg (show ¬ (false = true) by decide)] at H; exact H
                              clear H
                              have H := H1
                              clear H1
                              replace H := Option.bind_eq_some_iff.mp H
                              obtain ⟨t290, A570, H⟩ := H
                              replace H : ((screeref9_same.f kj53 t290 l0).bind fun t293 => (some (x6_2, t293))) = some (r1, r2) := H
                              have A57 := Aside0.mk A570
                              clear A570
                              replace H := Option.bind_eq_some_iff.mp H
                              obtain ⟨t293, A580, H⟩ := H
                              replace H : (some (x6_2, t293)) = some (r1, r2) := H
                              have A58 := Aside0.mk A580
                              clear A580
                              simp only [Option.some.injEq, Prod.mk.injEq] at H
                              obtain ⟨rfl, rfl⟩ := H
                              go_wp2_with (first | ((with_reducible refine gate_callee (f := 12) rfl ?_); refine goesL_ (some 101) rfl rfl Tryd.func12 (by kernel_rfl) rfl #[.slice Ao52 x6_2.length co52, .int .i64 x12_50] rfl (by (try simp only [List.map_toArray, List.map_cons, List.map_nil]); first | done | rfl | (simp only [List.length_drop, List.length_take]; rfl)) ?_; (with_reducible refine (screeref9_Bytes.calls kj53 _ _ x6_2 x12_50 t290 _ ?side1 ?side2 A57.out).mono ?_); (case side1 => repeat (first | exact (Kd.R_reads' HO_6.out).2.2 | (with_reducible refine Kd.C_alloc ?_ _) | (with_reducible refine Kd.C_drewN ?_ _) | (with_reducible refine Kd.C_drew ?_))); (case side2 => exact (Kd.R_reads' HO_6.out).2.1); rintro e w59 ⟨v291, rfl, ho0, hb⟩; refine ⟨_, rfl, ?_⟩; have n0_ := Aside0.mk (Kd.R_below (by (with_reducible repeat (first | apply Kd.R_alloc | apply Kd.R_drewN | apply Kd.R_drew)); exact HO_6.out) hb); have n1_ := Aside0.mk (Kd.R_lower ho0 (below_size (by repeat (first | (with_reducible first | exact HB.out | apply below_alloc | apply pw_below_drewN | apply below_drew1) | exact HB.out)))); have n2_ := Aside0.mk (below_step (by repeat (first | (with_reducible first | exact HB.out | apply below_alloc | apply pw_below_drewN | apply below_drew1) | exact HB.out)) hb); clear HO_6; clear HB; have HO_6 := n0_; have HO292 := n1_; have HB := n2_; clear n0_ n1_ n2_; (try clear hb); (try clear hb2); (try clear hk); (try clear hi); (try clear ho0); obtain ⟨Ao60, co60, eo60⟩ := Kd.R_slice HO292.out; subst eo60) | ((with_reducible refine gate_callee (f := 46) rfl ?_); refine goesL_ (some 103) rfl rfl Tryd.func46 (by kernel_rfl) rfl #[.slice Ao60 t290.length co60, .slice A0 l0.length c0] rfl (by (try simp only [List.map_toArray, List.map_cons, List.map_nil]); first | done | rfl | (simp only [List.length_drop, List.length_take]; rfl)) ?_; (with_reducible refine (screeref9_same.calls kj53 _ _ t290 _ _ l0 t293 _ ?side1 ?side2 ?side3 ?side4 A58.out).mono ?_); (case side1 => repeat (first | exact (Kd.R_reads' HO292.out).2.2 | (with_reducible refine Kd.C_alloc ?_ _) | (with_reducible refine Kd.C_drewN ?_ _) | (with_reducible refine Kd.C_drew ?_))); (case side2 => exact (Kd.R_reads' HO292.out).2.1); (case side3 => repeat (first | exact (Kd.C_below HR0.out HB.out) | (with_reducible refine Kd.C_alloc ?_ _) | (with_reducible refine Kd.C_drewN ?_ _) | (with_reducible refine Kd.C_drew ?_))); (case side4 => exact HC0.out); rintro e w' ⟨rfl, ⟨nd, rfl⟩⟩; refine ⟨_, rfl, ?_⟩))
                              go_ret2
                              exact ⟨_, by first | rfl | (simp [errW_none, errW_some] <;> rfl) | (simp only [← hji3]; first | rfl | (simp [errW_none, errW_some] <;> rfl)) | (simp [*, errW_none, errW_some] <;> rfl), by (with_reducible repeat (first | apply Kd.R_alloc | apply Kd.R_drewN | apply Kd.R_drew)); exact HO_6.out, by repeat (first | (with_reducible first | exact HB.out | apply below_alloc | apply pw_below_drewN | apply below_drew1) | exact HB.out)⟩
      · rw [if_neg c5] at H
        exact absurd H (by simp)
    · rw [if_neg c4] at H
      exact absurd H (by simp)
end Go.Proofs.YtaonjmkfbfhanaaDoor.QBo
namespace Go.Proofs.YtaonjmkfbfhanaaDoor.QBo
open Go.Proofs.YtaonjmkfbfhanaaDoor.Own
open Go.RowKit Go.Proofs.YtaonjmkfbfhanaaDoorW.PrintWords Go.Proofs.YtaonjmkfbfhanaaDoorW.PrintLast Go.Proofs.YtaonjmkfbfhanaaDoorW.PrintMore
attribute [local go_sem] max2_int min2_int max_two min_two max_three min_three max_four min_four   -- for this text's walks alone
set_option linter.unusedVariables false
set_option linter.unusedSimpArgs false
theorem eqA30 (d : Nat) (w : World) (x0 y0 : ByteArray) (x1 y1 : Int) (x2 y2 : Bool) (x3 y3 : ByteArray) :
    (Op.equalIn (d + 2) 30 (.agg #[.string x0, .int .u64 x1, .bool x2, .string x3]) (.agg #[.string y0, .int .u64 y1, .bool y2, .string y3])).run Tryd.prog w = .ok (x0.toList == y0.toList && (x1 == y1 && (x2 == y2 && (x3.toList == y3.toList)))) w := by
  refine eqA_of Tryd.underlying30 (by kernel_rfl) ?_
  refine eqf_cons (by rfl) (by go_simp; rfl) (by go_simp; rfl) (by go_simp) ?_
  refine eqf_cons (by rfl) (by go_simp; rfl) (by go_simp; rfl) (by go_simp) ?_
  refine eqf_cons (by rfl) (by go_simp; rfl) (by go_simp; rfl) (by go_simp) ?_
  exact eqf_last (by rfl) (by go_simp; rfl) (by go_simp; rfl) (by go_simp)
end Go.Proofs.YtaonjmkfbfhanaaDoor.QBo
namespace Go.Proofs.YtaonjmkfbfhanaaDoor.QBo
open Go.Proofs.YtaonjmkfbfhanaaDoor.Own
open Go.RowKit Go.Proofs.YtaonjmkfbfhanaaDoorW.PrintWords Go.Proofs.YtaonjmkfbfhanaaDoorW.PrintLast Go.Proofs.YtaonjmkfbfhanaaDoorW.PrintMore
attribute [local go_sem] max2_int min2_int max_two min_two max_three min_three max_four min_four   -- for this text's walks alone
set_option linter.unusedVariables false
set_option linter.unusedSimpArgs false
attribute [local go_sem high] eqA30
def screelaw9_same_p.l0 : Nat → List Int → List Int → Int → Option (Bool)
  | 0, _, _, _ => none
  | k + 1, x0, x1, x5 => if x5 < (x0.length : Int) then (if 0 ≤ x5 then (if x5 < (x1.length : Int) then (if (rd x0 x5) = (rd x1 x5) then (screelaw9_same_p.l0 k x0 x1 (wrap64 (x5 + 1))) else (some false)) else (none)) else (none)) else (some true)
def screelaw9_same_p.f (k : Nat) (l0 : List Int) (l1 : List Int) : Option (Bool) := if (l0.length : Int) = (l1.length : Int) then (screelaw9_same_p.l0 k l0 l1 0) else (some false)
theorem screelaw9_same_p.mono_l : ∀ k, (∀ y0 y1 y2, LeO (screelaw9_same_p.l0 k y0 y1 y2) (screelaw9_same_p.l0 (k + 1) y0 y1 y2))
  | 0 => fun _ _ _ r h => by simp [screelaw9_same_p.l0] at h
  | k + 1 => by
    have ih0 := screelaw9_same_p.mono_l k
    · intro y0 y1 y2
      unfold screelaw9_same_p.l0
      repeat' first
      | (with_reducible exact ih0 _ _ _)
      | (with_reducible exact LeO.refl _)
      | (with_reducible exact LeO.none _)
      | (with_reducible refine LeO.ite ?_ ?_)
      | (with_reducible refine LeO.bind ?_ (fun _ => ?_))
      | exact ih0 _ _ _
      | exact LeO.none _
      | refine LeO.ite ?_ ?_
      | refine LeO.bind ?_ (fun _ => ?_)
theorem screelaw9_same_p.mono : ∀ a0 a1 k, LeO (screelaw9_same_p.f k a0 a1) (screelaw9_same_p.f (k + 1) a0 a1) := by
  intro a0 a1 k
  have ih0 := screelaw9_same_p.mono_l k
  unfold screelaw9_same_p.f
  repeat' first
      | (with_reducible exact ih0 _ _ _)
      | (with_reducible exact LeO.refl _)
      | (with_reducible exact LeO.none _)
      | (with_reducible refine LeO.ite ?_ ?_)
      | (with_reducible refine LeO.bind ?_ (fun _ => ?_))
      | exact ih0 _ _ _
      | exact LeO.none _
      | refine LeO.ite ?_ ?_
      | refine LeO.bind ?_ (fun _ => ?_)
set_option maxHeartbeats 8000000 in
set_option maxRecDepth 100000 in
theorem screelaw9_same_p.calls (k : Nat) (A0 : Option Addr) (c0 : Nat) (l0 : List Int) (A1 : Option Addr) (c1 : Nat) (l1 : List Int) (r : Bool) (w : World) (hr0 : Kd.C (Kd.int .u8) w A0 l0.length l0) (hc0 : l0.length ≤ c0) (hr1 : Kd.C (Kd.int .u8) w A1 l1.length l1) (hc1 : l1.length ≤ c1) (h : screelaw9_same_p.f k l0 l1 = some r) :
    Calls Tryd.prog 18 #[.slice A0 l0.length c0, .slice A1 l1.length c1] w fun e w' => e = .returned (.bool r) ∧ Drawn0 w w' := by
  have HR0 := Aside0.mk hr0
  have HC0 := Aside0.mk hc0
  clear hr0 hc0
  have HR1 := Aside0.mk hr1
  have HC1 := Aside0.mk hc1
  clear hr1 hc1
  have H : (if (l0.length : Int) = (l1.length : Int) then (screelaw9_same_p.l0 k l0 l1 0) else (some false)) = some r := h
  clear h
  by_cases c3 : (l0.length : Int) = (l1.length : Int)
  · rw [if_pos c3] at H
    have c3b0 : ((l0.length : Int) == (l1.length : Int)) = true := beq_iff_eq.mpr c3
    have c3b1 : ((l0.length : Int) != (l1.length : Int)) = false := bne_eq_false_iff_eq.mpr c3
    have c3b2 : (l0.length == l1.length) = true := by first | simpa using c3 | (simp at c3 ⊢; omega)
    clear c3
    have H' := Aside0.mk H
    clear H
    go_enter Tryd.func18, Tryd.ntmps18
    go_wp2
    repeat (go_quiet (fail); try go_wp2)
    go_loopg [5] k (fun kq v5 w' => ∃ (x5_1 : Int), v5 = .int .i64 x5_1 ∧ Aside0 (screelaw9_same_p.l0 kq l0 l1 x5_1 = some r) ∧ Aside0 (kq ≤ k) ∧ Drawn0 w w')
    case atStart => exact ⟨(0), (by first | rfl | (simp; done) | (simp [*]; done)), H', ⟨Nat.le_refl _⟩, by repeat (first | exact Drawn0.refl _ | apply Drawn0.step)⟩
    case round =>
      clear H'
      try clear c1
      try clear p2
      try clear c3
      try clear c3b0
      try clear c3b1
      try clear c3b2
      obtain ⟨x5_1, rfl, HA, HK1, ⟨m1, rfl⟩⟩ := hrel
      cases gk with
      | zero => exact absurd HA.out (by simp [screelaw9_same_p.l0])
      | succ k1 =>
        have H := HA.out
        clear HA
        simp only [screelaw9_same_p.l0] at H
        by_cases c4 : x5_1 < (l0.length : Int)
        · rw [if_pos c4] at H
          have c4b0 : decide (x5_1 < (l0.length : Int)) = true := decide_eq_true c4
          clear c4
          by_cases c5 : 0 ≤ x5_1
          · rw [if_pos c5] at H
            have c5b0 : decide (0 ≤ x5_1) = true := decide_eq_true c5
            clear c5
            by_cases c6 : x5_1 < (l1.length : Int)
            · rw [if_pos c6] at H
              have c6b0 : decide (x5_1 < (l1.length : Int)) = true := decide_eq_true c6
              clear c6
              by_cases c7 : (rd l0 x5_1) = (rd l1 x5_1)
              · rw [if_pos c7] at H
                have c7b0 : ((rd l0 x5_1) == (rd l1 x5_1)) = true := beq_iff_eq.mpr c7
                have c7b1 : ((rd l0 x5_1) != (rd l1 x5_1)) = false := bne_eq_false_iff_eq.mpr c7
                clear c7
                have H' := Aside0.mk H
                clear H
                have p294 : 0 ≤ (x5_1 : Int) := of_decide_eq_true (by first | (with_reducible assumption) | assumption)
                have q294 : x5_1 < (l0.length : Int) := of_decide_eq_true (by first | (with_reducible assumption) | assumption)
                obtain ⟨ad294, e294, hx294_0⟩ := Kd.at_int HR0.out x5_1 p294 q294
                cases e294
                replace p294 := eq_true p294
                replace q294 := eq_true q294
                have p295 : 0 ≤ (x5_1 : Int) := of_decide_eq_true (by first | (with_reducible assumption) | assumption)
                have q295 : x5_1 < (l1.length : Int) := of_decide_eq_true (by first | (with_reducible assumption) | assumption)
                obtain ⟨ad295, e295, hx295_0⟩ := Kd.at_int HR1.out x5_1 p295 q295
                cases e295
                replace p295 := eq_true p295
                replace q295 := eq_true q295
                go_wp2
                repeat (go_quiet (fail); try go_wp2)
                go_roundg k1
                case measure => have := HK1.out; omega
                case rel => exact ⟨(wrap64 (x5_1 + 1)), (by first | rfl | (simp; done) | (simp [*]; done)), H', ⟨by have := HK1.out; omega⟩, by repeat (first | exact Drawn0.refl _ | apply Drawn0.step)⟩
              · rw [if_neg c7] at H
                have c7b0 : ((rd l0 x5_1) == (rd l1 x5_1)) = false := beq_eq_false_iff_ne.mpr c7
                have c7b1 : ((rd l0 x5_1) != (rd l1 x5_1)) = true := bne_iff_ne.mpr c7
                obtain rfl := Option.some.inj H
                have p294 : 0 ≤ (x5_1 : Int) := of_decide_eq_true (by first | (with_reducible assumption) | assumption)
                have q294 : x5_1 < (l0.length : Int) := of_decide_eq_true (by first | (with_reducible assumption) | assumption)
                obtain ⟨ad294, e294, hx294_0⟩ := Kd.at_int HR0.out x5_1 p294 q294
                cases e294
                replace p294 := eq_true p294
                replace q294 := eq_true q294
                have p295 : 0 ≤ (x5_1 : Int) := of_decide_eq_true (by first | (with_reducible assumption) | assumption)
                have q295 : x5_1 < (l1.length : Int) := of_decide_eq_true (by first | (with_reducible assumption) | assumption)
                obtain ⟨ad295, e295, hx295_0⟩ := Kd.at_int HR1.out x5_1 p295 q295
                cases e295
                replace p295 := eq_true p295
                replace q295 := eq_true q295
                go_wp2
                repeat (go_quiet (fail); try go_wp2)
                go_ret
                exact ⟨by first | rfl | (simp; done) | (simp [*]; done), by repeat (first | exact Drawn0.refl _ | apply Drawn0.step)⟩
            · rw [if_neg c6] at H
              exact absurd H (by simp)
          · rw [if_neg c5] at H
            exact absurd H (by simp)
        · rw [if_neg c4] at H
          have c4b0 : decide (x5_1 < (l0.length : Int)) = false := decide_eq_false c4
          clear c4
          obtain rfl := Option.some.inj H
          go_wp2
          repeat (go_quiet (fail); try go_wp2)
          go_ret
          exact ⟨by first | rfl | (simp; done) | (simp [*]; done), by repeat (first | exact Drawn0.refl _ | apply Drawn0.step)⟩
  · rw [if_neg c3] at H
    have c3b0 : ((l0.length : Int) == (l1.length : Int)) = false := beq_eq_false_iff_ne.mpr c3
    have c3b1 : ((l0.length : Int) != (l1.length : Int)) = true := bne_iff_ne.mpr c3
    have c3b2 : (l0.length == l1.length) = false := by first | simpa using c3 | (simp at c3 ⊢; omega)
    obtain rfl := Option.some.inj H
    go_enter Tryd.func18, Tryd.ntmps18
    go_wp2
    repeat (go_quiet (fail); try go_wp2)
    go_ret
    exact ⟨by first | rfl | (simp; done) | (simp [*]; done), by repeat (first | exact Drawn0.refl _ | apply Drawn0.step)⟩
theorem screelaw9_same_ev (l1 l2 : List Int) (hlen : l1.length = l2.length) (hm : l1.length ≤ 9223372036854775807) (d : Nat) : ∀ i : Nat, i + d = l1.length → Ev (fun k => screelaw9_same_p.l0 k l1 l2 (i : Int)) (decide (l1.drop i = l2.drop i)) := by
  induction d with
  | zero =>
    intro i hi
    refine Ev.step (f := fun _ => some true) (fun k => ?_) (by rw [List.drop_of_length_le (by omega), List.drop_of_length_le (by omega)]; exact Ev.now _)
    simp only [screelaw9_same_p.l0]
    rw [if_neg (by omega)]
  | succ d ih =>
    intro i hi
    have h1 : i < l1.length := by omega
    have h2 : i < l2.length := by omega
    have e1 : rd l1 (i : Int) = l1[i] := by simp [rd, List.getD_eq_getElem?_getD, h1]
    have e2 : rd l2 (i : Int) = l2[i] := by simp [rd, List.getD_eq_getElem?_getD, h2]
    rw [List.drop_eq_getElem_cons h1, List.drop_eq_getElem_cons h2]
    by_cases h : l1[i] = l2[i]
    · have hd : decide (l1[i] :: l1.drop (i + 1) = l2[i] :: l2.drop (i + 1)) = decide (l1.drop (i + 1) = l2.drop (i + 1)) := decide_eq_decide.2 ⟨fun e => (List.cons.inj e).2, fun e => by rw [h, e]⟩
      rw [hd]
      refine Ev.step (fun k => ?_) (ih (i + 1) (by omega))
      simp only [screelaw9_same_p.l0]
      rw [if_pos (by omega), if_pos (by omega), if_pos (by omega), e1, e2, if_pos h, show wrap64 ((i : Int) + 1) = ((i + 1 : Nat) : Int) by unfold wrap64; omega]
    · have hd : decide (l1[i] :: l1.drop (i + 1) = l2[i] :: l2.drop (i + 1)) = false := decide_eq_false (fun e => h (List.cons.inj e).1)
      rw [hd]
      refine Ev.step (f := fun _ => some false) (fun k => ?_) (Ev.now _)
      simp only [screelaw9_same_p.l0]
      rw [if_pos (by omega), if_pos (by omega), if_pos (by omega), e1, e2, if_neg h]
def screelaw9_same.f (l0 : List Int) (l1 : List Int) : Option (Bool) := if l0.length ≤ 9223372036854775807 then some (decide (l0 = l1)) else none
theorem screelaw9_same.calls (A0 : Option Addr) (c0 : Nat) (l0 : List Int) (A1 : Option Addr) (c1 : Nat) (l1 : List Int) (r : Bool) (w : World) (hr0 : Kd.C (Kd.int .u8) w A0 l0.length l0) (hc0 : l0.length ≤ c0) (hr1 : Kd.C (Kd.int .u8) w A1 l1.length l1) (hc1 : l1.length ≤ c1) (h : screelaw9_same.f l0 l1 = some r) :
    Calls Tryd.prog 18 #[.slice A0 l0.length c0, .slice A1 l1.length c1] w fun e w' => e = .returned (.bool r) ∧ Drawn0 w w' := by
  unfold screelaw9_same.f at h
  split at h
  · rename_i hh
    by_cases hlen : l0.length = l1.length
    · obtain ⟨k, hk⟩ := (screelaw9_same_ev l0 l1 hlen hh l0.length 0 (by omega)).rounds
      refine screelaw9_same_p.calls k A0 c0 l0 A1 c1 l1 r w hr0 hc0 hr1 hc1 ?_
      unfold screelaw9_same_p.f
      rw [if_pos (by omega)]
      rw [← h]
      exact hk
    · refine screelaw9_same_p.calls 0 A0 c0 l0 A1 c1 l1 r w hr0 hc0 hr1 hc1 ?_
      unfold screelaw9_same_p.f
      rw [if_neg (by omega), ← h]
      have : ¬ l0 = l1 := fun e => hlen (by rw [e])
      simp [this]
  · cases h
def screelaw9_num.f (a0 : Int) : Option (Int) := some a0
def screelaw9_sameEntries.l0 : Nat → List (S30) → List (S30) → Int → Option (Bool)
  | 0, _, _, _ => none
  | k + 1, x0, x1, x5 => if x5 < (x0.length : Int) then (if 0 ≤ x5 then (if x5 < (x1.length : Int) then (if (!((((rd_T30 x0 x5).f0).toList) == (((rd_T30 x1 x5).f0).toList)) || (!(((rd_T30 x0 x5).f1) == ((rd_T30 x1 x5).f1)) || (!(((rd_T30 x0 x5).f2) == ((rd_T30 x1 x5).f2)) || (!((((rd_T30 x0 x5).f3).toList) == (((rd_T30 x1 x5).f3).toList)))))) = true then (some false) else (screelaw9_sameEntries.l0 k x0 x1 (wrap64 (x5 + 1)))) else (none)) else (none)) else (some true)
def screelaw9_sameEntries.f (k : Nat) (l0 : List (S30)) (l1 : List (S30)) : Option (Bool) := if (l0.length : Int) = (l1.length : Int) then (screelaw9_sameEntries.l0 k l0 l1 0) else (some false)
theorem screelaw9_sameEntries.mono_l : ∀ k, (∀ y0 y1 y2, LeO (screelaw9_sameEntries.l0 k y0 y1 y2) (screelaw9_sameEntries.l0 (k + 1) y0 y1 y2))
  | 0 => fun _ _ _ r h => by simp [screelaw9_sameEntries.l0] at h
  | k + 1 => by
    have ih0 := screelaw9_sameEntries.mono_l k
    · intro y0 y1 y2
      unfold screelaw9_sameEntries.l0
      repeat' first
      | (with_reducible exact ih0 _ _ _)
      | (with_reducible exact LeO.refl _)
      | (with_reducible exact LeO.none _)
      | (with_reducible refine LeO.ite ?_ ?_)
      | (with_reducible refine LeO.bind ?_ (fun _ => ?_))
      | exact ih0 _ _ _
      | exact LeO.none _
      | refine LeO.ite ?_ ?_
      | refine LeO.bind ?_ (fun _ => ?_)
theorem screelaw9_sameEntries.mono : ∀ a0 a1 k, LeO (screelaw9_sameEntries.f k a0 a1) (screelaw9_sameEntries.f (k + 1) a0 a1) := by
  intro a0 a1 k
  have ih0 := screelaw9_sameEntries.mono_l k
  unfold screelaw9_sameEntries.f
  repeat' first
      | (with_reducible exact ih0 _ _ _)
      | (with_reducible exact LeO.refl _)
      | (with_reducible exact LeO.none _)
      | (with_reducible refine LeO.ite ?_ ?_)
      | (with_reducible refine LeO.bind ?_ (fun _ => ?_))
      | exact ih0 _ _ _
      | exact LeO.none _
      | refine LeO.ite ?_ ?_
      | refine LeO.bind ?_ (fun _ => ?_)
set_option maxHeartbeats 8000000 in
set_option maxRecDepth 100000 in
theorem screelaw9_sameEntries.calls (k : Nat) (A0 : Option Addr) (c0 : Nat) (l0 : List (S30)) (A1 : Option Addr) (c1 : Nat) (l1 : List (S30)) (r : Bool) (w : World) (hr0 : Kd.C k30 w A0 l0.length l0) (hc0 : l0.length ≤ c0) (hr1 : Kd.C k30 w A1 l1.length l1) (hc1 : l1.length ≤ c1) (h : screelaw9_sameEntries.f k l0 l1 = some r) :
    Calls Tryd.prog 20 #[.slice A0 l0.length c0, .slice A1 l1.length c1] w fun e w' => e = .returned (.bool r) ∧ Drawn0 w w' := by
  have hu30 := Tryd.underlying30
  have HR0 := Aside0.mk hr0
  have HC0 := Aside0.mk hc0
  clear hr0 hc0
  have HR1 := Aside0.mk hr1
  have HC1 := Aside0.mk hc1
  clear hr1 hc1
  have H : (if (l0.length : Int) = (l1.length : Int) then (screelaw9_sameEntries.l0 k l0 l1 0) else (some false)) = some r := h
  clear h
  by_cases c3 : (l0.length : Int) = (l1.length : Int)
  · rw [if_pos c3] at H
    have c3b0 : ((l0.length : Int) == (l1.length : Int)) = true := beq_iff_eq.mpr c3
    have c3b1 : ((l0.length : Int) != (l1.length : Int)) = false := bne_eq_false_iff_eq.mpr c3
    have c3b2 : (l0.length == l1.length) = true := by first | simpa using c3 | (simp at c3 ⊢; omega)
    clear c3
    have H' := Aside0.mk H
    clear H
    go_enter Tryd.func20, Tryd.ntmps20
    go_wp2
    repeat (go_quiet (fail); try go_wp2)
    go_loopg [5] k (fun kq v5 w' => ∃ (x5_1 : Int), v5 = .int .i64 x5_1 ∧ Aside0 (screelaw9_sameEntries.l0 kq l0 l1 x5_1 = some r) ∧ Aside0 (kq ≤ k) ∧ Drawn0 w w')
    case atStart => exact ⟨(0), (by first | rfl | (simp; done) | (simp [*]; done)), H', ⟨Nat.le_refl _⟩, by repeat (first | exact Drawn0.refl _ | apply Drawn0.step)⟩
    case round =>
      clear H'
      try clear c1
      try clear c2
      try clear p2
      try clear c3
      try clear c3b0
      try clear c3b1
      try clear c3b2
      obtain ⟨x5_1, rfl, HA, HK1, ⟨m1, rfl⟩⟩ := hrel
      cases gk with
      | zero => exact absurd HA.out (by simp [screelaw9_sameEntries.l0])
      | succ k1 =>
        have H := HA.out
        clear HA
        simp only [screelaw9_sameEntries.l0] at H
        by_cases c4 : x5_1 < (l0.length : Int)
        · rw [if_pos c4] at H
          have c4b0 : decide (x5_1 < (l0.length : Int)) = true := decide_eq_true c4
          clear c4
          by_cases c5 : 0 ≤ x5_1
          · rw [if_pos c5] at H
            have c5b0 : decide (0 ≤ x5_1) = true := decide_eq_true c5
            clear c5
            by_cases c6 : x5_1 < (l1.length : Int)
            · rw [if_pos c6] at H
              have c6b0 : decide (x5_1 < (l1.length : Int)) = true := decide_eq_true c6
              clear c6
              by_cases c7 : (!((((rd_T30 l0 x5_1).f0).toList) == (((rd_T30 l1 x5_1).f0).toList)) || (!(((rd_T30 l0 x5_1).f1) == ((rd_T30 l1 x5_1).f1)) || (!(((rd_T30 l0 x5_1).f2) == ((rd_T30 l1 x5_1).f2)) || (!((((rd_T30 l0 x5_1).f3).toList) == (((rd_T30 l1 x5_1).f3).toList)))))) = true
              · rw [if_pos c7] at H
                have c7b0 : (!((((rd_T30 l0 x5_1).f0).toList) == (((rd_T30 l1 x5_1).f0).toList)) || (!(((rd_T30 l0 x5_1).f1) == ((rd_T30 l1 x5_1).f1)) || (!(((rd_T30 l0 x5_1).f2) == ((rd_T30 l1 x5_1).f2)) || (!((((rd_T30 l0 x5_1).f3).toList) == (((rd_T30 l1 x5_1).f3).toList)))))) = true := c7
                clear c7
                obtain rfl := Option.some.inj H
                have p296 : 0 ≤ (x5_1 : Int) := of_decide_eq_true (by first | (with_reducible assumption) | assumption)
                have q296 : x5_1 < (l0.length : Int) := of_decide_eq_true (by first | (with_reducible assumption) | assumption)
                obtain ⟨ad296, e296, hx296_0, hx296_1, hx296_2, hx296_3⟩ := at_T30 HR0.out x5_1 p296 q296
                cases e296
                replace p296 := eq_true p296
                replace q296 := eq_true q296
                have p297 : 0 ≤ (x5_1 : Int) := of_decide_eq_true (by first | (with_reducible assumption) | assumption)
                have q297 : x5_1 < (l1.length : Int) := of_decide_eq_true (by first | (with_reducible assumption) | assumption)
                obtain ⟨ad297, e297, hx297_0, hx297_1, hx297_2, hx297_3⟩ := at_T30 HR1.out x5_1 p297 q297
                cases e297
                replace p297 := eq_true p297
                replace q297 := eq_true q297
                go_wp2
                repeat (go_quiet (fail); try go_wp2)
                go_ret
                exact ⟨by first | rfl | (simp; done) | (simp [*]; done), by repeat (first | exact Drawn0.refl _ | apply Drawn0.step)⟩
              · rw [if_neg c7] at H
                have c7b0 : (!((((rd_T30 l0 x5_1).f0).toList) == (((rd_T30 l1 x5_1).f0).toList)) || (!(((rd_T30 l0 x5_1).f1) == ((rd_T30 l1 x5_1).f1)) || (!(((rd_T30 l0 x5_1).f2) == ((rd_T30 l1 x5_1).f2)) || (!((((rd_T30 l0 x5_1).f3).toList) == (((rd_T30 l1 x5_1).f3).toList)))))) = false := by simpa using c7
                clear c7
                have H' := Aside0.mk H
                clear H
                have p296 : 0 ≤ (x5_1 : Int) := of_decide_eq_true (by first | (with_reducible assumption) | assumption)
                have q296 : x5_1 < (l0.length : Int) := of_decide_eq_true (by first | (with_reducible assumption) | assumption)
                obtain ⟨ad296, e296, hx296_0, hx296_1, hx296_2, hx296_3⟩ := at_T30 HR0.out x5_1 p296 q296
                cases e296
                replace p296 := eq_true p296
                replace q296 := eq_true q296
                have p297 : 0 ≤ (x5_1 : Int) := of_decide_eq_true (by first | (with_reducible assumption) | assumption)
                have q297 : x5_1 < (l1.length : Int) := of_decide_eq_true (by first | (with_reducible assumption) | assumption)
                obtain ⟨ad297, e297, hx297_0, hx297_1, hx297_2, hx297_3⟩ := at_T30 HR1.out x5_1 p297 q297
                cases e297
                replace p297 := eq_true p297
                replace q297 := eq_true q297
                go_wp2
                repeat (go_quiet (fail); try go_wp2)
                go_roundg k1
                case measure => have := HK1.out; omega
                case rel => exact ⟨(wrap64 (x5_1 + 1)), (by first | rfl | (simp; done) | (simp [*]; done)), H', ⟨by have := HK1.out; omega⟩, by repeat (first | exact Drawn0.refl _ | apply Drawn0.step)⟩
            · rw [if_neg c6] at H
              exact absurd H (by simp)
          · rw [if_neg c5] at H
            exact absurd H (by simp)
        · rw [if_neg c4] at H
          have c4b0 : decide (x5_1 < (l0.length : Int)) = false := decide_eq_false c4
          clear c4
          obtain rfl := Option.some.inj H
          go_wp2
          repeat (go_quiet (fail); try go_wp2)
          go_ret
          exact ⟨by first | rfl | (simp; done) | (simp [*]; done), by repeat (first | exact Drawn0.refl _ | apply Drawn0.step)⟩
  · rw [if_neg c3] at H
    have c3b0 : ((l0.length : Int) == (l1.length : Int)) = false := beq_eq_false_iff_ne.mpr c3
    have c3b1 : ((l0.length : Int) != (l1.length : Int)) = true := bne_iff_ne.mpr c3
    have c3b2 : (l0.length == l1.length) = false := by first | simpa using c3 | (simp at c3 ⊢; omega)
    obtain rfl := Option.some.inj H
    go_enter Tryd.func20, Tryd.ntmps20
    go_wp2
    repeat (go_quiet (fail); try go_wp2)
    go_ret
    exact ⟨by first | rfl | (simp; done) | (simp [*]; done), by repeat (first | exact Drawn0.refl _ | apply Drawn0.step)⟩
def screeref9_Seek.l0 : Nat → List (S30) → ByteArray → Int → Option (ByteArray × Int × Bool × ByteArray × Bool)
  | 0, _, _, _ => none
  | k + 1, x0, x1, x6 => if x6 < (x0.length : Int) then (if 0 ≤ x6 then ((screeref9_Above.f k x1 ((rd_T30 x0 x6).f0)).bind fun t301 => (if t301 = true then (screeref9_Seek.l0 k x0 x1 (wrap64 (x6 + 1))) else (some ((rd_T30 x0 x6).f0, (rd_T30 x0 x6).f1, (rd_T30 x0 x6).f2, (rd_T30 x0 x6).f3, true)))) else (none)) else (some ((⟨#[]⟩ : ByteArray), 0, false, (⟨#[]⟩ : ByteArray), false))
def screeref9_Seek.f (k : Nat) (l0 : List (S30)) (a1 : ByteArray) : Option (ByteArray × Int × Bool × ByteArray × Bool) := screeref9_Seek.l0 k l0 a1 0
theorem screeref9_Seek.mono_l : ∀ k, (∀ y0 y1 y2, LeO (screeref9_Seek.l0 k y0 y1 y2) (screeref9_Seek.l0 (k + 1) y0 y1 y2))
  | 0 => fun _ _ _ r h => by simp [screeref9_Seek.l0] at h
  | k + 1 => by
    have ih0 := screeref9_Seek.mono_l k
    · intro y0 y1 y2
      unfold screeref9_Seek.l0
      repeat' first
      | (with_reducible exact ih0 _ _ _)
      | (with_reducible exact screeref9_Above.mono _ _ _)
      | (with_reducible exact LeO.refl _)
      | (with_reducible exact LeO.none _)
      | (with_reducible refine LeO.ite ?_ ?_)
      | (with_reducible refine LeO.bind ?_ (fun _ => ?_))
      | exact ih0 _ _ _
      | exact screeref9_Above.mono _ _ _
      | exact LeO.none _
      | refine LeO.ite ?_ ?_
      | refine LeO.bind ?_ (fun _ => ?_)
theorem screeref9_Seek.mono : ∀ a0 a1 k, LeO (screeref9_Seek.f k a0 a1) (screeref9_Seek.f (k + 1) a0 a1) := by
  intro a0 a1 k
  have ih0 := screeref9_Seek.mono_l k
  unfold screeref9_Seek.f
  repeat' first
      | (with_reducible exact ih0 _ _ _)
      | (with_reducible exact screeref9_Above.mono _ _ _)
      | (with_reducible exact LeO.refl _)
      | (with_reducible exact LeO.none _)
      | (with_reducible refine LeO.ite ?_ ?_)
      | (with_reducible refine LeO.bind ?_ (fun _ => ?_))
      | exact ih0 _ _ _
      | exact screeref9_Above.mono _ _ _
      | exact LeO.none _
      | refine LeO.ite ?_ ?_
      | refine LeO.bind ?_ (fun _ => ?_)
set_option maxHeartbeats 8000000 in
set_option maxRecDepth 100000 in
theorem screeref9_Seek.calls (k : Nat) (A0 : Option Addr) (c0 : Nat) (l0 : List (S30)) (a1 : ByteArray) (r1 : ByteArray) (r2 : Int) (r3 : Bool) (r4 : ByteArray) (r5 : Bool) (w : World) (hr0 : Kd.C k30 w A0 l0.length l0) (hc0 : l0.length ≤ c0) (h : screeref9_Seek.f k l0 a1 = some (r1, r2, r3, r4, r5)) :
    Calls Tryd.prog 23 #[.slice A0 l0.length c0, .string a1] w fun e w' => e = .returned (.tuple #[.agg #[.string r1, .int .u64 r2, .bool r3, .string r4], .bool r5]) ∧ Below w.heap.size w w' := by
  have hu30 := Tryd.underlying30
  have HR0 := Aside0.mk hr0
  have HC0 := Aside0.mk hc0
  clear hr0 hc0
  have HB := Aside0.mk (Below.refl w.heap.size w)
  have H : (screeref9_Seek.l0 k l0 a1 0) = some (r1, r2, r3, r4, r5) := h
  clear h
  have H' := Aside0.mk H
  clear H
  go_enter Tryd.func23, Tryd.ntmps23
  go_wp2_with (first | ((with_reducible refine gate_dst (N := 4) rfl ?_); refine box_event ?hg (N := 4) ?hd (cs := #[.string (⟨#[]⟩ : ByteArray), .int .u64 0, .bool false, .string (⟨#[]⟩ : ByteArray)]) (t := 30) ?hr ?_; (case hd => rfl); (case hg => rfl); (case hr => first | (go_simp; done) | (go_simp; rfl)); intro gb299 hg w3 hbox hb; have n0_ := Aside0.mk (below_step (by repeat (first | (with_reducible first | exact HB.out | apply below_alloc | apply pw_below_drewN | apply below_drew1) | exact HB.out)) hb); have n1_ := Aside0.mk (hbox); have n2_ := Aside0.mk ((by rw [hg]; exact (below_size (by repeat (first | (with_reducible first | exact HB.out | apply below_alloc | apply pw_below_drewN | apply below_drew1) | exact HB.out))) : w.heap.size ≤ gb299)); have n3_ := Aside0.mk ((by rw [hg]; exact (below_size (by repeat (first | (with_reducible first | exact HB.out | apply below_alloc | apply pw_below_drewN | apply below_drew1) | exact HB.out))) : w.heap.size ≤ gb299)); clear HB; have HB := n0_; have BK299 := n1_; have GW299 := n2_; have GE299 := n3_; clear n0_ n1_ n2_ n3_; clear hb hbox hg))
  go_loopg [6] k (fun kq v6 w' => ∃ (x6_1 : Int) (x300000_1 : ByteArray) (x300001_1 : Int) (x300002_1 : Bool) (x300003_1 : ByteArray), v6 = .int .i64 x6_1 ∧ Aside0 (screeref9_Seek.l0 kq l0 a1 x6_1 = some (r1, r2, r3, r4, r5)) ∧ Aside0 (kq ≤ k) ∧ Aside0 (w'.heap[gb299]? = some (.cells #[.string x300000_1, .int .u64 x300001_1, .bool x300002_1, .string x300003_1] 30 (0, 0))) ∧ Aside0 (Below w.heap.size w w'))
  case atStart => exact ⟨(0), ((⟨#[]⟩ : ByteArray)), (0), (false), ((⟨#[]⟩ : ByteArray)), (by first | rfl | (simp; done) | (simp [*]; done)), H', ⟨Nat.le_refl _⟩, ⟨by (with_reducible repeat (first | refine blk_drewN ?_ _ | refine blk_drew ?_ | refine blk_alloc ?_ _)); exact BK299.out⟩, ⟨by repeat (first | (with_reducible first | exact HB.out | apply below_alloc | apply pw_below_drewN | apply below_drew1 | refine below_set ?_ GE299.out) | exact HB.out)⟩⟩
  case round =>
    clear H'
    try clear c2
    try clear p2
    obtain ⟨x6_1, x300000_1, x300001_1, x300002_1, x300003_1, rfl, HA, HK1, BK299, HB⟩ := hrel
    cases gk with
    | zero => exact absurd HA.out (by simp [screeref9_Seek.l0])
    | succ k1 =>
      have H := HA.out
      clear HA
      simp only [screeref9_Seek.l0] at H
      by_cases c4 : x6_1 < (l0.length : Int)
      · rw [if_pos c4] at H
        have c4b0 : decide (x6_1 < (l0.length : Int)) = true := decide_eq_true c4
        clear c4
        by_cases c5 : 0 ≤ x6_1
        · rw [if_pos c5] at H
          have c5b0 : decide (0 ≤ x6_1) = true := decide_eq_true c5
          clear c5
          replace H := Option.bind_eq_some_iff.mp H
          obtain ⟨t301, A60, H⟩ := H
          replace H : (if t301 = true then (screeref9_Seek.l0 k1 l0 a1 (wrap64 (x6_1 + 1))) else (some ((rd_T30 l0 x6_1).f0, (rd_T30 l0 x6_1).f1, (rd_T30 l0 x6_1).f2, (rd_T30 l0 x6_1).f3, true))) = some (r1, r2, r3, r4, r5) := H
          have A6 := Aside0.mk A60
          clear A60
          by_cases c7 : t301 = true
          · subst c7
            have H1 : (screeref9_Seek.l0 k1 l0 a1 (wrap64 (x6_1 + 1))) = some (r1, r2, r3, r4, r5) := by rw [if_pos rfl] at H; exact H
            clear H
            have H := H1
            clear H1
            have H' := Aside0.mk H
            clear H
            have p300 : 0 ≤ (x6_1 : Int) := of_decide_eq_true (by first | (with_reducible assumption) | assumption)
            have q300 : x6_1 < (l0.length : Int) := of_decide_eq_true (by first | (with_reducible assumption) | assumption)
            obtain ⟨ad300, e300, hx300_0, hx300_1, hx300_2, hx300_3⟩ := at_T30 HR0.out x6_1 p300 q300
            cases e300
            replace hx300_0 := (HB.out.cell (World.block_lt_of_cell? w _ hx300_0)).trans hx300_0
            replace hx300_1 := (HB.out.cell (World.block_lt_of_cell? w _ hx300_1)).trans hx300_1
            replace hx300_2 := (HB.out.cell (World.block_lt_of_cell? w _ hx300_2)).trans hx300_2
            replace hx300_3 := (HB.out.cell (World.block_lt_of_cell? w _ hx300_3)).trans hx300_3
            replace p300 := eq_true p300
            replace q300 := eq_true q300
            go_wp2_with (first | ((with_reducible refine gate_callee (f := 33) rfl ?_); refine goesL_ (some 19) rfl rfl Tryd.func33 (by kernel_rfl) rfl #[.string a1, .string ((rd_T30 l0 x6_1).f0)] rfl (by (try simp only [List.map_toArray, List.map_cons, List.map_nil]); first | done | rfl | (simp only [List.length_drop, List.length_take]; rfl)) ?_; (with_reducible refine (screeref9_Above.calls k1 a1 ((rd_T30 l0 x6_1).f0) true _ A6.out).mono ?_); rintro e w8 ⟨rfl, hb⟩; refine ⟨_, rfl, ?_⟩; have n0_ := Aside0.mk (blk_below (g := gb299) (o := .cells #[.string x300000_1, .int .u64 x300001_1, .bool x300002_1, .string x300003_1] 30 (0, 0)) (by (with_reducible repeat (first | refine blk_drewN ?_ _ | refine blk_drew ?_ | refine blk_alloc ?_ _)); exact BK299.out) hb); have n1_ := Aside0.mk (below_step (by repeat (first | (with_reducible first | exact HB.out | apply below_alloc | apply pw_below_drewN | apply below_drew1 | refine below_set ?_ GE299.out) | exact HB.out)) hb); clear BK299; clear HB; have BK299 := n0_; have HB := n1_; clear n0_ n1_; (try clear hb); (try clear hb2); (try clear hk); (try clear hi)))
            go_roundg k1
            case measure => have := HK1.out; omega
            case rel => exact ⟨(wrap64 (x6_1 + 1)), (x300000_1), (x300001_1), (x300002_1), (x300003_1), (by first | rfl | (simp; done) | (simp [*]; done)), H', ⟨by have := HK1.out; omega⟩, ⟨by (with_reducible repeat (first | refine blk_drewN ?_ _ | refine blk_drew ?_ | refine blk_alloc ?_ _)); exact BK299.out⟩, ⟨by repeat (first | (with_reducible first | exact HB.out | apply below_alloc | apply pw_below_drewN | apply below_drew1 | refine below_set ?_ GE299.out) | exact HB.out)⟩⟩
          · replace c7 := Bool.eq_false_iff.mpr c7
            subst c7
            have H1 : (some ((rd_T30 l0 x6_1).f0, (rd_T30 l0 x6_1).f1, (rd_T30 l0 x6_1).f2, (rd_T30 l0 x6_1).f3, true)) = some (r1, r2, r3, r4, r5) := by rw [if_neg (show ¬ (false = true) by decide)] at H; exact H
            clear H
            have H := H1
            clear H1
            simp only [Option.some.injEq, Prod.mk.injEq] at H
            obtain ⟨rfl, rfl, rfl, rfl, rfl⟩ := H
            have p300 : 0 ≤ (x6_1 : Int) := of_decide_eq_true (by first | (with_reducible assumption) | assumption)
            have q300 : x6_1 < (l0.length : Int) := of_decide_eq_true (by first | (with_reducible assumption) | assumption)
            obtain ⟨ad300, e300, hx300_0, hx300_1, hx300_2, hx300_3⟩ := at_T30 HR0.out x6_1 p300 q300
            cases e300
            replace hx300_0 := (HB.out.cell (World.block_lt_of_cell? w _ hx300_0)).trans hx300_0
            replace hx300_1 := (HB.out.cell (World.block_lt_of_cell? w _ hx300_1)).trans hx300_1
            replace hx300_2 := (HB.out.cell (World.block_lt_of_cell? w _ hx300_2)).trans hx300_2
            replace hx300_3 := (HB.out.cell (World.block_lt_of_cell? w _ hx300_3)).trans hx300_3
            replace p300 := eq_true p300
            replace q300 := eq_true q300
            go_wp2_with (first | ((with_reducible refine gate_callee (f := 33) rfl ?_); refine goesL_ (some 19) rfl rfl Tryd.func33 (by kernel_rfl) rfl #[.string a1, .string ((rd_T30 l0 x6_1).f0)] rfl (by (try simp only [List.map_toArray, List.map_cons, List.map_nil]); first | done | rfl | (simp only [List.length_drop, List.length_take]; rfl)) ?_; (with_reducible refine (screeref9_Above.calls k1 a1 ((rd_T30 l0 x6_1).f0) false _ A6.out).mono ?_); rintro e w9 ⟨rfl, hb⟩; refine ⟨_, rfl, ?_⟩; have n0_ := Aside0.mk (blk_below (g := gb299) (o := .cells #[.string x300000_1, .int .u64 x300001_1, .bool x300002_1, .string x300003_1] 30 (0, 0)) (by (with_reducible repeat (first | refine blk_drewN ?_ _ | refine blk_drew ?_ | refine blk_alloc ?_ _)); exact BK299.out) hb); have n1_ := Aside0.mk (below_step (by repeat (first | (with_reducible first | exact HB.out | apply below_alloc | apply pw_below_drewN | apply below_drew1 | refine below_set ?_ GE299.out) | exact HB.out)) hb); clear BK299; clear HB; have BK299 := n0_; have HB := n1_; clear n0_ n1_; (try clear hb); (try clear hb2); (try clear hk); (try clear hi); have p302 : 0 ≤ (x6_1 : Int) := of_decide_eq_true (by first | (with_reducible assumption) | assumption); have q302 : x6_1 < (l0.length : Int) := of_decide_eq_true (by first | (with_reducible assumption) | assumption); obtain ⟨ad302, e302, hx302_0, hx302_1, hx302_2, hx302_3⟩ := at_T30 HR0.out x6_1 p302 q302; obtain rfl : ad300 = ad302 := (by injection e302); replace hx302_0 := (HB.out.cell (World.block_lt_of_cell? w _ hx302_0)).trans hx302_0; replace hx302_1 := (HB.out.cell (World.block_lt_of_cell? w _ hx302_1)).trans hx302_1; replace hx302_2 := (HB.out.cell (World.block_lt_of_cell? w _ hx302_2)).trans hx302_2; replace hx302_3 := (HB.out.cell (World.block_lt_of_cell? w _ hx302_3)).trans hx302_3; replace p302 := eq_true p302; replace q302 := eq_true q302; have hcz10_0 : w9.cell? ⟨gb299, 0, none⟩ = some (.string x300000_1) := (blk_cell BK299.out 0).trans rfl; have hcz10_1 : w9.cell? ⟨gb299, 1, none⟩ = some (.int .u64 x300001_1) := (blk_cell BK299.out 1).trans rfl; have hcz10_2 : w9.cell? ⟨gb299, 2, none⟩ = some (.bool x300002_1) := (blk_cell BK299.out 2).trans rfl; have hcz10_3 : w9.cell? ⟨gb299, 3, none⟩ = some (.string x300003_1) := (blk_cell BK299.out 3).trans rfl; have hfz10_0 := blk_frozen BK299.out 0; have hfz10_1 := blk_frozen BK299.out 1; have hfz10_2 := blk_frozen BK299.out 2; have hfz10_3 := blk_frozen BK299.out 3))
            refine bodyPost_ret (results_ct rfl _ _ gb299 30 #[.string ((rd_T30 l0 x6_1).f0), .int .u64 ((rd_T30 l0 x6_1).f1), .bool ((rd_T30 l0 x6_1).f2), .string ((rd_T30 l0 x6_1).f3)] (0, 0) _ rfl (by (with_reducible repeat (first | refine blk_drewN ?_ _ | refine blk_drew ?_ | refine blk_alloc ?_ _)); refine blk_put (cs := #[.string ((rd_T30 l0 x6_1).f0), .int .u64 ((rd_T30 l0 x6_1).f1), .bool ((rd_T30 l0 x6_1).f2), .string x300003_1]) ?_ 3 _ rfl; (with_reducible repeat (first | refine blk_drewN ?_ _ | refine blk_drew ?_ | refine blk_alloc ?_ _)); refine blk_put (cs := #[.string ((rd_T30 l0 x6_1).f0), .int .u64 ((rd_T30 l0 x6_1).f1), .bool x300002_1, .string x300003_1]) ?_ 2 _ rfl; (with_reducible repeat (first | refine blk_drewN ?_ _ | refine blk_drew ?_ | refine blk_alloc ?_ _)); refine blk_put (cs := #[.string ((rd_T30 l0 x6_1).f0), .int .u64 x300001_1, .bool x300002_1, .string x300003_1]) ?_ 1 _ rfl; (with_reducible repeat (first | refine blk_drewN ?_ _ | refine blk_drew ?_ | refine blk_alloc ?_ _)); refine blk_put (cs := #[.string x300000_1, .int .u64 x300001_1, .bool x300002_1, .string x300003_1]) ?_ 0 _ rfl; (with_reducible repeat (first | refine blk_drewN ?_ _ | refine blk_drew ?_ | refine blk_alloc ?_ _)); exact BK299.out) Tryd.underlying30 rfl (by kernel_rfl)) rfl ?_
            exact ⟨by first | rfl | (simp [errW_none, errW_some] <;> rfl) | (simp [*, errW_none, errW_some] <;> rfl), by repeat (first | (with_reducible first | exact HB.out | apply below_alloc | apply pw_below_drewN | apply below_drew1 | refine below_set ?_ GE299.out) | exact HB.out)⟩
        · rw [if_neg c5] at H
          exact absurd H (by simp)
      · rw [if_neg c4] at H
        have c4b0 : decide (x6_1 < (l0.length : Int)) = false := decide_eq_false c4
        clear c4
        simp only [Option.some.injEq, Prod.mk.injEq] at H
        obtain ⟨rfl, rfl, rfl, rfl, rfl⟩ := H
        have hcz11_0 : wr.cell? ⟨gb299, 0, none⟩ = some (.string x300000_1) := (blk_cell BK299.out 0).trans rfl
        have hcz11_1 : wr.cell? ⟨gb299, 1, none⟩ = some (.int .u64 x300001_1) := (blk_cell BK299.out 1).trans rfl
        have hcz11_2 : wr.cell? ⟨gb299, 2, none⟩ = some (.bool x300002_1) := (blk_cell BK299.out 2).trans rfl
        have hcz11_3 : wr.cell? ⟨gb299, 3, none⟩ = some (.string x300003_1) := (blk_cell BK299.out 3).trans rfl
        have hfz11_0 := blk_frozen BK299.out 0
        have hfz11_1 := blk_frozen BK299.out 1
        have hfz11_2 := blk_frozen BK299.out 2
        have hfz11_3 := blk_frozen BK299.out 3
        go_wp2
        refine bodyPost_ret (results_ct rfl _ _ gb299 30 #[.string (⟨#[]⟩ : ByteArray), .int .u64 0, .bool false, .string (⟨#[]⟩ : ByteArray)] (0, 0) _ rfl (by (with_reducible repeat (first | refine blk_drewN ?_ _ | refine blk_drew ?_ | refine blk_alloc ?_ _)); refine blk_put (cs := #[.string (⟨#[]⟩ : ByteArray), .int .u64 0, .bool false, .string x300003_1]) ?_ 3 _ rfl; (with_reducible repeat (first | refine blk_drewN ?_ _ | refine blk_drew ?_ | refine blk_alloc ?_ _)); refine blk_put (cs := #[.string (⟨#[]⟩ : ByteArray), .int .u64 0, .bool x300002_1, .string x300003_1]) ?_ 2 _ rfl; (with_reducible repeat (first | refine blk_drewN ?_ _ | refine blk_drew ?_ | refine blk_alloc ?_ _)); refine blk_put (cs := #[.string (⟨#[]⟩ : ByteArray), .int .u64 x300001_1, .bool x300002_1, .string x300003_1]) ?_ 1 _ rfl; (with_reducible repeat (first | refine blk_drewN ?_ _ | refine blk_drew ?_ | refine blk_alloc ?_ _)); refine blk_put (cs := #[.string x300000_1, .int .u64 x300001_1, .bool x300002_1, .string x300003_1]) ?_ 0 _ rfl; (with_reducible repeat (first | refine blk_drewN ?_ _ | refine blk_drew ?_ | refine blk_alloc ?_ _)); exact BK299.out) Tryd.underlying30 rfl (by kernel_rfl)) rfl ?_
        exact ⟨by first | rfl | (simp [errW_none, errW_some] <;> rfl) | (simp [*, errW_none, errW_some] <;> rfl), by repeat (first | (with_reducible first | exact HB.out | apply below_alloc | apply pw_below_drewN | apply below_drew1 | refine below_set ?_ GE299.out) | exact HB.out)⟩
def screeroom_lot.f (a0 : Int) : Option (Int) := if (Int.tmod a0 2) = 0 then (some (-7701)) else (some (-7702))
def screeroom_word.f (a0 : Int) : Option (ByteArray) := if (Int.tmod a0 2) = 0 then (some (⟨#[60, 111, 110, 101, 62]⟩ : ByteArray)) else (some (⟨#[60, 116, 119, 111, 62]⟩ : ByteArray))
/-- A state of type 91 at block g of W; what its slices lead to came in by w0. -/
def IsS91 (w0 W : World) (g : Nat) (f0 : Int) : Prop := W.heap[g]? = some (.cells #[.int .i64 f0] 91 (0, 0)) ∧ w0.heap.size ≤ g
theorem IsS91.grown {w0 W : World} {g : Nat} {f0 : Int} {W1 : World} {row : Option Nat} (h : IsS91 w0 W g f0) (hw : W.grownBy W1 row) (hne : some g ≠ row) : IsS91 w0 W1 g f0 := by
  obtain ⟨hb, hg⟩ := h
  exact ⟨blk_grown hb hw hne, hg⟩
theorem IsS91.kept {w0 W : World} {g : Nat} {f0 : Int} {W1 : World} {S : Nat → Prop} (h : IsS91 w0 W g f0) (hk : Kept W W1 S) (hne : ¬ S g) : IsS91 w0 W1 g f0 := by
  obtain ⟨hb, hg⟩ := h
  exact ⟨blk_kept hb hk hne, hg⟩
theorem IsS91.below {w0 W : World} {g : Nat} {f0 : Int} {W1 : World} (h : IsS91 w0 W g f0) (hw : Below W.heap.size W W1) : IsS91 w0 W1 g f0 := h.grown (grown_of_below hw none) (by simp)
theorem IsS91.alloc {w0 W : World} {g : Nat} {f0 : Int} (h : IsS91 w0 W g f0) (o : Obj) : IsS91 w0 (W.alloc o) g f0 := h.below (below_alloc (Below.refl _ _) o)
theorem IsS91.drewN {w0 W : World} {g : Nat} {f0 : Int} (h : IsS91 w0 W g f0) (m : Nat) : IsS91 w0 (W.drewN m) g f0 := h
theorem IsS91.drew {w0 W : World} {g : Nat} {f0 : Int} (h : IsS91 w0 W g f0) : IsS91 w0 W.drew g f0 := h
theorem IsS91.apart {w0 W : World} {g : Nat} {f0 : Int} {α : Type} {d : Kd α} {e : Nat} {base : Nat} {ok : Nat → Prop} {v : Value} {xs : List α} (h : IsS91 w0 W g f0) (ho : d.R e W base ok v xs) (ht : ∀ q, q ∈ e :: d.E → q ≠ 91) : d.R e W base (fun k => ok k ∧ k ≠ g) v xs := by
  obtain ⟨hb, hg⟩ := h
  exact Kd.R_types ho hb ht
theorem IsS91.own_ne {w0 W : World} {g : Nat} {f0 : Int} {α : Type} {d : Kd α} {e : Nat} {base : Nat} {ok : Nat → Prop} {v : Value} {xs : List α} (h : IsS91 w0 W g f0) (ho : d.R e W base ok v xs) (ht : e ≠ 91) : some g ≠ v.ownBlock := by
  obtain ⟨hb, hg⟩ := h
  exact Kd.R_ne ho hb ht
theorem IsS91.ge {w0 W : World} {g : Nat} {f0 : Int} (h : IsS91 w0 W g f0) : w0.heap.size ≤ g := by
  obtain ⟨hb, hg⟩ := h
  exact hg
theorem IsS91.far {w0 W : World} {g : Nat} {f0 : Int} {p : Addr} (h : IsS91 w0 W g f0) (hne : g ≠ p.block) (u : Value) : IsS91 w0 (W.setCell p u) g f0 := by
  obtain ⟨hb, hg⟩ := h
  exact ⟨blk_far hb hne u, hg⟩
theorem cellS91_0 {W : World} {g : Nat} {f0 : Int} (h : W.heap[g]? = some (.cells #[.int .i64 f0] 91 (0, 0))) : W.cell? ⟨g, 0, none⟩ = some (.int .i64 f0) := (blk_cell h 0).trans rfl
theorem IsS91.set_0 {w0 W : World} {g : Nat} {f0 : Int} (h : IsS91 w0 W g f0) (x : Int) : IsS91 w0 (W.setCell ⟨g, 0, none⟩ (.int .i64 x)) g x := by
  obtain ⟨hb, hg⟩ := h
  exact ⟨by simpa using blk_set hb 0 (.int .i64 x), hg⟩
theorem IsS91.new (w0 W : World) (f0 : Int) (hB : Below w0.heap.size w0 W) : IsS91 w0 (W.alloc (.cells #[.int .i64 f0] 91)) W.heap.size f0 := ⟨by simpa using heap_alloc_new W _, hB.size⟩
def screeroom_Many.f (a0 : Int) : Option (Int) := some a0
set_option maxHeartbeats 8000000 in
set_option maxRecDepth 100000 in
theorem screeroom_Many.calls (a0 : Int) (r : Int) (w0 w : World) (hB : Below w0.heap.size w0 w) (h : screeroom_Many.f a0 = some r) :
    Calls Tryd.prog 13 #[.int .i64 a0] w fun e w' => ∃ g_ : Nat, e = .returned (.pointer (some ⟨g_, 0, none⟩)) ∧ IsS91 w0 w' g_ r ∧ Below w0.heap.size w0 w' ∧ Below w.heap.size w w' := by
  have hu91 := Tryd.underlying91
  have HBW := Aside0.mk (Below.refl w.heap.size w)
  have HW0 := Aside0.mk hB.size
  have HB := Aside0.mk hB
  clear hB
  have H : (some a0) = some r := h
  clear h
  obtain rfl := Option.some.inj H
  go_enter Tryd.func13, Tryd.ntmps13
  go_wp2_with (first | ((with_reducible refine gate_dst (N := 5) rfl ?_); refine box_event ?hg (N := 5) ?hd (cs := #[.int .i64 a0]) (t := 91) ?hr ?_; (case hd => rfl); (case hg => rfl); (case hr => first | (go_simp; done) | (go_simp; rfl)); intro gb402 hg w2 hbox hb; have n0_ := Aside0.mk (below_step HBW.out hb); have n1_ := Aside0.mk (below_step (by repeat (first | (with_reducible first | exact HB.out | apply below_alloc | apply pw_below_drewN | apply below_drew1) | exact HB.out)) hb); have n2_ := Aside0.mk (hbox); have n3_ := Aside0.mk ((by rw [hg]; exact (below_size (by repeat (first | (with_reducible first | exact HBW.out | apply below_alloc | apply pw_below_drewN | apply below_drew1) | exact HBW.out))) : w.heap.size ≤ gb402)); have n4_ := Aside0.mk ((Nat.le_trans HW0.out (by rw [hg]; exact (below_size (by repeat (first | (with_reducible first | exact HBW.out | apply below_alloc | apply pw_below_drewN | apply below_drew1) | exact HBW.out))) : w.heap.size ≤ gb402) : w0.heap.size ≤ gb402)); clear HBW; clear HB; have HBW := n0_; have HB := n1_; have BK402 := n2_; have GW402 := n3_; have GE402 := n4_; clear n0_ n1_ n2_ n3_ n4_; clear hb hbox hg))
  go_ret
  exact ⟨_, rfl, (show IsS91 w0 _ gb402 a0 from ⟨by (with_reducible repeat (first | refine blk_drewN ?_ _ | refine blk_drew ?_ | refine blk_alloc ?_ _)); exact BK402.out, GE402.out⟩), by repeat (first | (with_reducible first | exact HB.out | apply below_alloc | apply pw_below_drewN | apply below_drew1 | refine below_set ?_ GE402.out) | exact HB.out), by repeat (first | (with_reducible first | exact HBW.out | apply below_alloc | apply pw_below_drewN | apply below_drew1 | refine below_set ?_ GW402.out) | exact HBW.out)⟩
def screeroom_Count_Ok.f (s0_0 : Int) : Option (Bool × Int) := some (decide (s0_0 ≥ 0), s0_0)
set_option maxHeartbeats 8000000 in
set_option maxRecDepth 100000 in
theorem screeroom_Count_Ok.calls (g : Nat) (s0_0 : Int) (r1 : Bool) (r2 : Int) (w0 w : World) (hI : IsS91 w0 w g s0_0) (hB : Below w0.heap.size w0 w) (h : screeroom_Count_Ok.f s0_0 = some (r1, r2)) :
    Calls Tryd.prog 15 #[.pointer (some ⟨g, 0, none⟩)] w fun e w' => e = .returned (.bool r1) ∧ IsS91 w0 w' g r2 ∧ Below w0.heap.size w0 w' ∧ KeepBut w w' g none := by
  have HI0 := Aside0.mk hI
  have HK := Aside0.mk (KeepBut.refl w g none)
  have HL := Aside0.mk hB.size
  clear hI
  have HW0 := Aside0.mk hB.size
  have HB := Aside0.mk hB
  clear hB
  have H : (some (decide (s0_0 ≥ 0), s0_0)) = some (r1, r2) := h
  clear h
  simp only [Option.some.injEq, Prod.mk.injEq] at H
  obtain ⟨rfl, rfl⟩ := H
  obtain ⟨HGz2, hgz2⟩ := HI0.out
  have hcz2_0 := cellS91_0 HGz2
  have hfz2_0 := blk_frozen HGz2 0
  clear HGz2 hgz2
  go_enter Tryd.func15, Tryd.ntmps15
  go_wp2
  go_ret
  exact ⟨by first | rfl | (simp [errW_none, errW_some] <;> rfl) | (simp [*, errW_none, errW_some] <;> rfl), by repeat (first | (with_reducible first | exact HI0.out | apply IsS91.alloc | apply IsS91.drewN | apply IsS91.drew | apply IsS91.set_0) | exact HI0.out), by repeat (first | (with_reducible first | exact HB.out | apply below_alloc | apply pw_below_drewN | apply below_drew1 | refine below_set ?_ (IsS91.ge HI0.out)) | exact HB.out), by repeat (first | (with_reducible first | exact HK.out | apply KeepBut.set_ | apply keep_drewN | apply keep_drew | apply keep_alloc) | exact HK.out)⟩
def screeroom_Count_Add.f (s0_0 : Int) (a1 : Int) : Option (Bool × Int) := if s0_0 ≥ 0 then (some (decide ((wrap64 (s0_0 - a1)) ≥ 0), wrap64 (s0_0 - a1))) else (some (decide (s0_0 ≥ 0), s0_0))
set_option maxHeartbeats 8000000 in
set_option maxRecDepth 100000 in
theorem screeroom_Count_Add.calls (g : Nat) (s0_0 : Int) (a1 : Int) (r1 : Bool) (r2 : Int) (w0 w : World) (hI : IsS91 w0 w g s0_0) (hB : Below w0.heap.size w0 w) (h : screeroom_Count_Add.f s0_0 a1 = some (r1, r2)) :
    Calls Tryd.prog 38 #[.pointer (some ⟨g, 0, none⟩), .int .i64 a1] w fun e w' => e = .returned (.bool r1) ∧ IsS91 w0 w' g r2 ∧ Below w0.heap.size w0 w' ∧ KeepBut w w' g none := by
  have HI0 := Aside0.mk hI
  have HK := Aside0.mk (KeepBut.refl w g none)
  have HL := Aside0.mk hB.size
  clear hI
  have HW0 := Aside0.mk hB.size
  have HB := Aside0.mk hB
  clear hB
  have H : (if s0_0 ≥ 0 then (some (decide ((wrap64 (s0_0 - a1)) ≥ 0), wrap64 (s0_0 - a1))) else (some (decide (s0_0 ≥ 0), s0_0))) = some (r1, r2) := h
  clear h
  by_cases c3 : s0_0 ≥ 0
  · rw [if_pos c3] at H
    have c3b0 : decide (0 ≤ s0_0) = true := decide_eq_true c3
    clear c3
    simp only [Option.some.injEq, Prod.mk.injEq] at H
    obtain ⟨rfl, rfl⟩ := H
    obtain ⟨HGz4, hgz4⟩ := HI0.out
    have hcz4_0 := cellS91_0 HGz4
    have hfz4_0 := blk_frozen HGz4 0
    clear HGz4 hgz4
    go_enter Tryd.func38, Tryd.ntmps38
    go_wp2
    go_ret
    exact ⟨by first | rfl | (simp [errW_none, errW_some] <;> rfl) | (simp [*, errW_none, errW_some] <;> rfl), by repeat (first | (with_reducible first | exact HI0.out | apply IsS91.alloc | apply IsS91.drewN | apply IsS91.drew | apply IsS91.set_0) | exact HI0.out), by repeat (first | (with_reducible first | exact HB.out | apply below_alloc | apply pw_below_drewN | apply below_drew1 | refine below_set ?_ (IsS91.ge HI0.out)) | exact HB.out), by repeat (first | (with_reducible first | exact HK.out | apply KeepBut.set_ | apply keep_drewN | apply keep_drew | apply keep_alloc) | exact HK.out)⟩
  · rw [if_neg c3] at H
    have c3b0 : decide (0 ≤ s0_0) = false := decide_eq_false c3
    clear c3
    simp only [Option.some.injEq, Prod.mk.injEq] at H
    obtain ⟨rfl, rfl⟩ := H
    obtain ⟨HGz5, hgz5⟩ := HI0.out
    have hcz5_0 := cellS91_0 HGz5
    have hfz5_0 := blk_frozen HGz5 0
    clear HGz5 hgz5
    go_enter Tryd.func38, Tryd.ntmps38
    go_wp2
    go_ret
    exact ⟨by first | rfl | (simp [errW_none, errW_some] <;> rfl) | (simp [*, errW_none, errW_some] <;> rfl), by repeat (first | (with_reducible first | exact HI0.out | apply IsS91.alloc | apply IsS91.drewN | apply IsS91.drew | apply IsS91.set_0) | exact HI0.out), by repeat (first | (with_reducible first | exact HB.out | apply below_alloc | apply pw_below_drewN | apply below_drew1 | refine below_set ?_ (IsS91.ge HI0.out)) | exact HB.out), by repeat (first | (with_reducible first | exact HK.out | apply KeepBut.set_ | apply keep_drewN | apply keep_drew | apply keep_alloc) | exact HK.out)⟩
def screeroom_Count_Text.f (s0_0 : Int) (a1 : ByteArray) : Option (Int) := (screeroom_Count_Add.f s0_0 (wrap64 (1 + (a1.size : Int)))).bind fun bt403 => (some bt403.2)
end Go.Proofs.YtaonjmkfbfhanaaDoor.QBo
namespace Go.Proofs.YtaonjmkfbfhanaaDoor.Rf
open Go.RowKit Go.Proofs.YtaonjmkfbfhanaaDoorW.PrintWords Go.Proofs.YtaonjmkfbfhanaaDoor.Own Go.Proofs.YtaonjmkfbfhanaaDoor.G Go.Proofs.YtaonjmkfbfhanaaDoor.Wk Go.Proofs.YtaonjmkfbfhanaaDoor.QBo Go.Proofs.YtaonjmkfbfhanaaDoor.Bk
set_option linter.unusedVariables false
theorem rd_drop (l : List Int) (i j : Nat) : rd (l.drop i) (j : Int) = rd l ((i + j : Nat) : Int) := by
  simp only [rd, Int.toNat_natCast, List.getD_eq_getElem?_getD, List.getElem?_drop]
theorem number_at {l : List Int} (hb : Bytes l) (i : Nat) (h : i + 4 ≤ l.length) : screeref9_number.f (l.drop i) = some (wordL l i : Int) := by
  have b0 := bytes_rd hb i (by omega)
  have b1 := bytes_rd hb (i + 1) (by omega)
  have b2 := bytes_rd hb (i + 2) (by omega)
  have b3 := bytes_rd hb (i + 3) (by omega)
  have e0 : rd (l.drop i) 0 = rd l (i : Int) := rd_drop l i 0
  have e1 : rd (l.drop i) 1 = rd l ((i + 1 : Nat) : Int) := rd_drop l i 1
  have e2 : rd (l.drop i) 2 = rd l ((i + 2 : Nat) : Int) := rd_drop l i 2
  have e3 : rd (l.drop i) 3 = rd l ((i + 3 : Nat) : Int) := rd_drop l i 3
  unfold screeref9_number.f wordL
  rw [List.length_drop, if_pos (by omega), if_pos (by omega), if_pos (by omega), if_pos (by omega), e0, e1, e2, e3]
  generalize rd l (i : Int) = q0 at *
  generalize rd l ((i + 1 : Nat) : Int) = q1 at *
  generalize rd l ((i + 2 : Nat) : Int) = q2 at *
  generalize rd l ((i + 3 : Nat) : Int) = q3 at *
  congr 1
  unfold wrap64
  omega
theorem same_ev (x y : List Int) (hl : x.length = y.length) (hx : x.length < 4611686018427387904) (d : Nat) : ∀ i : Nat, i + d = x.length → Ev (fun k => screeref9_same.l0 k x y (i : Int)) (decide (x.drop i = y.drop i)) := by
  induction d with
  | zero =>
    intro i hi
    rw [List.drop_of_length_le (by omega), List.drop_of_length_le (by omega)]
    refine Ev.step (f := fun _ => some true) (fun k => ?_) (Ev.now _)
    rw [screeref9_same.l0, if_neg (by omega)]
  | succ d ih =>
    intro i hi
    have h1 : i < x.length := by omega
    have h2 : i < y.length := by omega
    have e1 : rd x (i : Int) = x[i] := by simp [rd, List.getD_eq_getElem?_getD, h1]
    have e2 : rd y (i : Int) = y[i] := by simp [rd, List.getD_eq_getElem?_getD, h2]
    rw [List.drop_eq_getElem_cons h1, List.drop_eq_getElem_cons h2]
    by_cases he : x[i] = y[i]
    · have e : decide (x[i] :: x.drop (i + 1) = y[i] :: y.drop (i + 1)) = decide (x.drop (i + 1) = y.drop (i + 1)) := decide_eq_decide.2 ⟨fun h => (List.cons.inj h).2, fun h => by rw [he, h]⟩
      rw [e]
      refine Ev.step (fun k => ?_) (ih (i + 1) (by omega))
      rw [screeref9_same.l0, if_pos (by omega), if_pos (by omega), if_pos (by omega), e1, e2, if_pos he, ww i (by omega)]
    · have e : decide (x[i] :: x.drop (i + 1) = y[i] :: y.drop (i + 1)) = false := decide_eq_false (fun h => he (List.cons.inj h).1)
      rw [e]
      refine Ev.step (f := fun _ => some false) (fun k => ?_) (Ev.now _)
      rw [screeref9_same.l0, if_pos (by omega), if_pos (by omega), if_pos (by omega), e1, e2, if_neg he]
theorem same_f (x y : List Int) (hx : x.length < 4611686018427387904) : Ev (fun k => screeref9_same.f k x y) (decide (x = y)) := by
  by_cases hl : x.length = y.length
  · have h := same_ev x y hl hx x.length 0 (by omega)
    rw [List.drop_zero, List.drop_zero] at h
    refine Ev.congr (fun k => ?_) h
    unfold screeref9_same.f
    rw [if_pos (by omega)]
    rfl
  · rw [decide_eq_false (fun h => hl (by rw [h]))]
    refine Ev.congr (f := fun _ => some false) (fun k => ?_) (Ev.now _)
    unfold screeref9_same.f
    rw [if_neg (by omega)]
/-- The document's loop over the entries' bytes D; pw: the word of the second place. -/
def refR (D : List Int) (pw ct : Nat) : Nat → Nat → List En → Nat → Option (List En × Nat)
  | 0, _, _, _ => none
  | f + 1, a, es, sec =>
    if a < D.length then
      match entryL (D.drop a) (lastK es) with
      | none => none
      | some (x, k) => if (addM (pushAll (newM 1) es) x).1 = 0 then refR D pw ct f (a + k) (es ++ [x]) (if 2 ≤ ct ∧ 0 < a ∧ a = pw then es.length else sec) else none
    else some (es, if 2 ≤ ct then sec else es.length)
theorem refR_step (D : List Int) (pw ct f a : Nat) (es : List En) (sec : Nat) : refR D pw ct (f + 1) a es sec = if a < D.length then (match entryL (D.drop a) (lastK es) with
      | none => none
      | some (x, k) => if (addM (pushAll (newM 1) es) x).1 = 0 then refR D pw ct f (a + k) (es ++ [x]) (if 2 ≤ ct ∧ 0 < a ∧ a = pw then es.length else sec) else none) else some (es, if 2 ≤ ct then sec else es.length) := rfl
def refB (b : List Int) : Option (List En × Nat) :=
  if b.length < 8 then none
  else if b.length - 8 < 4 * wordL b (b.length - 8) then none
  else refR (b.take (b.length - 8 - 4 * wordL b (b.length - 8))) (wordL b (b.length - 8 - 4 * wordL b (b.length - 8) + 4)) (wordL b (b.length - 8)) (b.length + 1) 0 [] 0
def outO (b : List Int) : Option (List En × Nat) → List En × Bool
  | none => ([], false)
  | some (es, r) => if 0 < es.length ∧ r < 1 then ([], false) else (es, decide (bytesM (pushAll (newM (r : Int)) es) = b))
/-- Entries that were all taken. -/
def Taken (es : List En) : Prop := addsM (newM 1) es = some (pushAll (newM 1) es) ∧ ∀ e ∈ es, EnW e
theorem adds_snoc : ∀ (l : List En) (m : Mk) (x : En), addsM m l = some (pushAll m l) → (addM (pushAll m l) x).1 = 0 → addsM m (l ++ [x]) = some (pushAll m (l ++ [x])) := by
  intro l
  induction l with
  | nil =>
    intro m x h h0
    show (if (addM m x).1 = 0 then some (addM m x).2 else none) = _
    have h0' : (addM m x).1 = 0 := h0
    rw [if_pos h0', (addM_zero h0').1]
    rfl
  | cons e l ih =>
    intro m x h h0
    unfold addsM at h
    by_cases he : (addM m e).1 = 0
    · rw [if_pos he, (addM_zero he).1] at h
      have := ih (pushM m e) x h h0
      show (if (addM m e).1 = 0 then addsM (addM m e).2 (l ++ [x]) else none) = _
      rw [if_pos he, (addM_zero he).1, this]
      rfl
    · rw [if_neg he] at h
      cases h
theorem Taken.ok {es : List En} (h : Taken es) : ∀ e ∈ es, OkE e := fun e he => okE_of ((adds_push es h.1).2.1 e he) (h.2 e he)
theorem Taken.any {es : List En} (h : Taken es) (r : Int) : addsM (newM r) es = some (pushAll (newM r) es) := adds_any es (m := newM 1) (m' := newM r) rfl rfl h.1
theorem Taken.snoc {es : List En} {x : En} (h : Taken es) (h0 : (addM (pushAll (newM 1) es) x).1 = 0) (hx : EnW x) : Taken (es ++ [x]) :=
  ⟨adds_snoc es (newM 1) x h.1 h0, fun e he => by
    rcases List.mem_append.1 he with he | he
    · exact h.2 e he
    · rw [List.mem_singleton.1 he]; exact hx⟩
theorem Taken.bytes {es : List En} (h : Taken es) (r : Int) : Bytes (pushAll (newM r) es).data := by
  have key : ∀ l : List En, (∀ e ∈ l, OkE e) → Bytes (pushAll (newM r) l).data := by
    intro l
    refine snoc_rec (P := fun l => (∀ e ∈ l, OkE e) → Bytes (pushAll (newM r) l).data) (fun _ => (by intro x hx; exact absurd hx List.not_mem_nil)) ?_ l
    intro l x ih hok
    have h1 := ih (fun e he => hok e (by simp [he]))
    have h2 := (encE_bound (n := sharedM (pushAll (newM r) l) x) (hok x (by simp)) (shared_le _ x).1).2
    rw [pushAll_snoc]
    exact bytes_app h1 h2
  exact key es h.ok
theorem Taken.last {es : List En} (h : Taken es) : (pushAll (newM 1) es).last.size ≤ 64 ∧ (pushAll (newM 1) es).n = es.length ∧ (pushAll (newM 1) es).last = lastK es := by
  have h1 := pushAll_rs es (newM 1)
  have h2 := last_eq 1 es
  refine ⟨?_, by rw [h1.2]; simp [newM], h2⟩
  rw [h2]
  unfold lastK
  split
  · exact Nat.zero_le _
  · rename_i hl
    have hlt : es.length - 1 < es.length := by omega
    have : rd_T30 es ((es.length - 1 : Nat) : Int) = es[es.length - 1] := by simp [rd_T30, List.getD_eq_getElem?_getD, hlt]
    rw [this]
    exact (h.ok _ (List.getElem_mem hlt)).2.1
theorem taken_nil : Taken [] := ⟨rfl, fun e he => absurd he List.not_mem_nil⟩
theorem open_end (b : List Int) (hb : b.length ≤ 1000000) (es : List En) (ht : Taken es) (hl : es.length ≤ 1000000) (r : Nat) (hr : r ≤ 1000000) (n e : Int) (sec a : Int) : Ev (fun k => screeref9_Open.j4 k b es (r : Int)) (outO b (some (es, r))) := by
  have hbf := bytes_f (r : Int) (by omega) es ht.ok hl (ht.bytes _)
  obtain ⟨B, hB⟩ : ∃ B, bytesM (pushAll (newM (r : Int)) es) = B := ⟨_, rfl⟩
  rw [hB] at hbf
  have hBl : B.length ≤ 2000000000 := by
    rw [← hB, bytesM_len]
    have h1 := push_len (r : Int) es ht.ok
    have h2 := (places_inv (r : Int) es).2.2.2
    omega
  have hend : Ev (fun k => screeref9_Open.j5 k b es (r : Int) false) (es, decide (B = b)) := by
    refine Ev.step (fun k => ?_) (Ev.bind (f := fun k t => (screeref9_same.f k t b).bind fun t293 => some (es, t293)) hbf (Ev.bind (f := fun _ t => some (es, t)) (same_f B b (by omega)) (Ev.now _)))
    rw [screeref9_Open.j5, if_neg (by decide)]
  unfold outO
  simp only
  rw [hB]
  by_cases h0 : 0 < es.length
  · by_cases h1 : r < 1
    · rw [if_pos ⟨h0, h1⟩]
      refine Ev.step (f := fun k => screeref9_Open.j5 k b es (r : Int) true) (fun k => ?_) (Ev.step (f := fun _ => some ([], false)) (fun k => ?_) (Ev.now _))
      · rw [screeref9_Open.j4, if_pos (by omega), decide_eq_true (by omega)]
      · rw [screeref9_Open.j5, if_pos rfl]
    · rw [if_neg (fun h => h1 h.2)]
      refine Ev.step (fun k => ?_) hend
      rw [screeref9_Open.j4, if_pos (by omega), decide_eq_false (by omega)]
  · rw [if_neg (fun h => h0 h.1)]
    refine Ev.step (fun k => ?_) hend
    rw [screeref9_Open.j4, if_neg (by omega)]
theorem open_ev (b : List Int) (hB : Bytes b) (hb : b.length ≤ 1000000) (ct e : Nat) (hct : e + 4 * ct + 8 = b.length) : ∀ (f a : Nat) (es : List En) (sec : Nat), a ≤ e → e < a + f → es.length ≤ a → sec ≤ es.length → Taken es →
    Ev (fun k => screeref9_Open.l0 k b (ct : Int) (e : Int) es (lastK es) (sec : Int) (a : Int)) (outO b (refR (b.take e) (wordL b (e + 4)) ct f a es sec)) := by
  have hDl : (b.take e).length = e := by rw [List.length_take]; omega
  have hDB : Bytes (b.take e) := fun x hx => hB x (List.mem_of_mem_take hx)
  intro f
  induction f with
  | zero => intro a es sec h1 h2; omega
  | succ f ih =>
    intro a es sec h1 h2 h3 h4 ht
    rw [refR_step, hDl]
    by_cases hlt : a < e
    · rw [if_pos hlt]
      -- the entry and what follows
      have hj3 : ∀ s2 : Nat, s2 ≤ es.length → Ev (fun k => screeref9_Open.j3 k b (ct : Int) (e : Int) es (lastK es) (s2 : Int) (a : Int)) (outO b (match entryL ((b.take e).drop a) (lastK es) with
          | none => none
          | some (x, k) => if (addM (pushAll (newM 1) es) x).1 = 0 then refR (b.take e) (wordL b (e + 4)) ct f (a + k) (es ++ [x]) s2 else none)) := by
        intro s2 hs2
        have hkl := ht.last
        have hok : okB ((b.take e).drop a) = true := okB_iff.2 (fun x hx => hDB x (List.mem_of_mem_drop hx))
        have hef : ∀ k, screeref9_entry.f k ((b.take e).drop a) (lastK es) = some (entG ((b.take e).drop a) (lastK es)) := fun k => by
          unfold screeref9_entry.f
          rw [if_pos ⟨hok, by rw [List.length_drop, hDl]; omega, by rw [← hkl.2.2]; omega⟩]
        cases hen : entryL ((b.take e).drop a) (lastK es) with
        | none =>
          have hg : entG ((b.take e).drop a) (lastK es) = ((⟨#[]⟩ : ByteArray), 0, false, (⟨#[]⟩ : ByteArray), 0) := by unfold entG; rw [hen]
          refine Ev.step (f := fun _ => some (([] : List En), false)) (fun k => ?_) (Ev.now _)
          rw [screeref9_Open.j3, if_pos (by omega), if_pos (by omega), if_pos (by omega), Int.toNat_natCast, Int.toNat_natCast, hef, hg, Option.bind_some, if_pos rfl]
        | some xk =>
          obtain ⟨x, k1⟩ := xk
          have hp := entryL_pos hen
          rw [List.length_drop, hDl] at hp
          have hxw : EnW x := entryL_enW (fun y hy => hDB y (List.mem_of_mem_drop hy)) hen
          have hg : entG ((b.take e).drop a) (lastK es) = (x.f0, x.f1, x.f2, x.f3, (k1 : Int)) := by unfold entG; rw [hen]
          have hls : (lastK es).size ≤ 64 := by rw [← hkl.2.2]; exact hkl.1
          have ha := adds_f es x (pushAll (newM 1) es) hkl.2.1 hkl.2.2 (by omega) (by omega) (by omega)
          simp only
          by_cases h0 : (addM (pushAll (newM 1) es) x).1 = 0
          · rw [if_pos h0]
            rw [h0] at ha
            have hI := ih (a + k1) (es ++ [x]) s2 (by omega) (by omega) (by rw [List.length_append, List.length_singleton]; omega) (by rw [List.length_append]; omega) (ht.snoc h0 hxw)
            rw [lastK_snoc] at hI
            refine Ev.step (fun k => ?_) (Ev.bind (f := fun k (t : Int) => if t = 0 then (if es.length < 2932031007402 then (screeref9_Open.l0 k b (ct : Int) (e : Int) (es ++ [(⟨x.f0, x.f1, x.f2, x.f3⟩ : S30)]) x.f0 (s2 : Int) (wrap64 ((a : Int) + (k1 : Int)))) else none) else some (([] : List En), false)) ha (Ev.congr (fun k => ?_) hI))
            · rw [screeref9_Open.j3, if_pos (by omega), if_pos (by omega), if_pos (by omega), Int.toNat_natCast, Int.toNat_natCast, hef, hg, Option.bind_some, if_neg (by simp only; omega)]
            · rw [if_pos rfl, if_pos (by omega), show wrap64 ((a : Int) + (k1 : Int)) = ((a + k1 : Nat) : Int) by unfold wrap64; omega]
          · rw [if_neg h0]
            refine Ev.step (fun k => ?_) (Ev.bind (f := fun k (t : Int) => if t = 0 then (if es.length < 2932031007402 then (screeref9_Open.l0 k b (ct : Int) (e : Int) (es ++ [(⟨x.f0, x.f1, x.f2, x.f3⟩ : S30)]) x.f0 (s2 : Int) (wrap64 ((a : Int) + (k1 : Int)))) else none) else some (([] : List En), false)) ha (Ev.congr (f := fun _ => some (([] : List En), false)) (fun k => ?_) (Ev.now _)))
            · rw [screeref9_Open.j3, if_pos (by omega), if_pos (by omega), if_pos (by omega), Int.toNat_natCast, Int.toNat_natCast, hef, hg, Option.bind_some, if_neg (by simp only; omega)]
            · rw [if_neg h0]
      by_cases hc : 2 ≤ ct
      · by_cases ha : 0 < a
        · have hw : wrap64 ((e : Int) + 4) = ((e + 4 : Nat) : Int) := by unfold wrap64; omega
          have hn := number_at hB (e + 4) (by omega)
          by_cases hp : a = wordL b (e + 4)
          · have hq : (2 ≤ ct ∧ 0 < a ∧ a = wordL b (e + 4)) := ⟨hc, ha, hp⟩
            simp only [if_pos hq]
            refine Ev.step (f := fun k => screeref9_Open.j2 k b (ct : Int) (e : Int) es (lastK es) (sec : Int) (a : Int) true) (fun k => ?_) (Ev.step (fun k => ?_) (hj3 es.length (Nat.le_refl _)))
            · rw [screeref9_Open.l0, if_pos (by omega), if_pos (by omega), if_pos (by omega), hw, if_pos (by omega), if_pos (by omega), Int.toNat_natCast, hn, Option.bind_some, beq_iff_eq.2 (by omega)]
            · rw [screeref9_Open.j2, if_pos rfl]
          · have hq : ¬ (2 ≤ ct ∧ 0 < a ∧ a = wordL b (e + 4)) := fun h => hp h.2.2
            simp only [if_neg hq]
            refine Ev.step (f := fun k => screeref9_Open.j2 k b (ct : Int) (e : Int) es (lastK es) (sec : Int) (a : Int) false) (fun k => ?_) (Ev.step (fun k => ?_) (hj3 sec h4))
            · rw [screeref9_Open.l0, if_pos (by omega), if_pos (by omega), if_pos (by omega), hw, if_pos (by omega), if_pos (by omega), Int.toNat_natCast, hn, Option.bind_some, beq_eq_false_iff_ne.2 (by omega)]
            · rw [screeref9_Open.j2, if_neg (by decide)]
        · have hq : ¬ (2 ≤ ct ∧ 0 < a ∧ a = wordL b (e + 4)) := fun h => ha h.2.1
          simp only [if_neg hq]
          refine Ev.step (f := fun k => screeref9_Open.j2 k b (ct : Int) (e : Int) es (lastK es) (sec : Int) (a : Int) false) (fun k => ?_) (Ev.step (fun k => ?_) (hj3 sec h4))
          · rw [screeref9_Open.l0, if_pos (by omega), if_pos (by omega), if_neg (by omega)]
          · rw [screeref9_Open.j2, if_neg (by decide)]
      · have hq : ¬ (2 ≤ ct ∧ 0 < a ∧ a = wordL b (e + 4)) := fun h => hc h.1
        simp only [if_neg hq]
        refine Ev.step (f := fun k => screeref9_Open.j2 k b (ct : Int) (e : Int) es (lastK es) (sec : Int) (a : Int) false) (fun k => ?_) (Ev.step (fun k => ?_) (hj3 sec h4))
        · rw [screeref9_Open.l0, if_pos (by omega), if_neg (by omega)]
        · rw [screeref9_Open.j2, if_neg (by decide)]
    · rw [if_neg hlt]
      by_cases hc : 2 ≤ ct
      · rw [if_pos hc]
        refine Ev.step (fun k => ?_) (open_end b hb es ht (by omega) sec (by omega) 0 0 0 0)
        rw [screeref9_Open.l0, if_neg (by omega), if_pos (by omega)]
      · rw [if_neg hc]
        refine Ev.step (fun k => ?_) (open_end b hb es ht (by omega) es.length (by omega) 0 0 0 0)
        rw [screeref9_Open.l0, if_neg (by omega), if_neg (by omega)]
theorem open_f (b : List Int) (hB : Bytes b) (hb : b.length ≤ 1000000) : Ev (fun k => screeref9_Open.f k b) (outO b (refB b)) := by
  unfold refB
  by_cases h8 : b.length < 8
  · rw [if_pos h8]
    refine Ev.congr (f := fun _ => some (([] : List En), false)) (fun k => ?_) (Ev.now _)
    unfold screeref9_Open.f
    rw [if_pos (by omega)]
  · rw [if_neg h8]
    obtain ⟨ct, hct⟩ : ∃ ct, wordL b (b.length - 8) = ct := ⟨_, rfl⟩
    have hn := number_at hB (b.length - 8) (by omega)
    rw [hct] at hn ⊢
    have hcb : ct < 4294967296 := by
      rw [← hct]
      have b0 := bytes_rd hB (b.length - 8) (by omega)
      have b1 := bytes_rd hB (b.length - 8 + 1) (by omega)
      have b2 := bytes_rd hB (b.length - 8 + 2) (by omega)
      have b3 := bytes_rd hB (b.length - 8 + 3) (by omega)
      unfold wordL
      omega
    have hw : wrap64 ((b.length : Int) - 8) = ((b.length - 8 : Nat) : Int) := by unfold wrap64; omega
    have hw4 : wrap64 (4 * (ct : Int)) = ((4 * ct : Nat) : Int) := by unfold wrap64; omega
    by_cases h4 : b.length - 8 < 4 * ct
    · rw [if_pos h4]
      have hj : Ev (fun k => screeref9_Open.j0 k b (ct : Int) (wrap64 (((b.length - 8 : Nat) : Int) - ((4 * ct : Nat) : Int))) true) (([] : List En), false) := by
        refine Ev.step (f := fun _ => some (([] : List En), false)) (fun k => ?_) (Ev.now _)
        rw [screeref9_Open.j0, if_pos rfl]
      refine Ev.congr (fun k => ?_) hj
      unfold screeref9_Open.f
      rw [if_neg (by omega), hw, if_pos (by omega), if_pos (by omega), Int.toNat_natCast, hn, Option.bind_some, if_neg (by omega), hw4]
      split
      · rfl
      · rw [decide_eq_true (by unfold wrap64; omega)]
    · rw [if_neg h4]
      have hwe : wrap64 (((b.length - 8 : Nat) : Int) - ((4 * ct : Nat) : Int)) = ((b.length - 8 - 4 * ct : Nat) : Int) := by unfold wrap64; omega
      have hI := open_ev b hB hb ct (b.length - 8 - 4 * ct) (by omega) (b.length + 1) 0 [] 0 (by omega) (by omega) (Nat.le_refl _) (Nat.le_refl _) taken_nil
      have hj : Ev (fun k => screeref9_Open.j0 k b (ct : Int) ((b.length - 8 - 4 * ct : Nat) : Int) false) (outO b (refR (b.take (b.length - 8 - 4 * ct)) (wordL b (b.length - 8 - 4 * ct + 4)) ct (b.length + 1) 0 [] 0)) := by
        refine Ev.step (fun k => ?_) hI
        rw [screeref9_Open.j0, if_neg (by decide)]
        rfl
      refine Ev.congr (fun k => ?_) hj
      unfold screeref9_Open.f
      rw [if_neg (by omega), hw, if_pos (by omega), if_pos (by omega), Int.toNat_natCast, hn, Option.bind_some, if_neg (by omega), if_neg (by omega), hw4, hwe, decide_eq_false (by omega)]
end Go.Proofs.YtaonjmkfbfhanaaDoor.Rf
namespace Go.Proofs.YtaonjmkfbfhanaaDoor.Rf
open Go.RowKit Go.Proofs.YtaonjmkfbfhanaaDoorW.PrintWords Go.Proofs.YtaonjmkfbfhanaaDoor.Own Go.Proofs.YtaonjmkfbfhanaaDoor.G Go.Proofs.YtaonjmkfbfhanaaDoor.Wk Go.Proofs.YtaonjmkfbfhanaaDoor.QBo Go.Proofs.YtaonjmkfbfhanaaDoor.Bk
set_option linter.unusedVariables false
theorem refR_taken (D : List Int) (hD : Bytes D) (pw ct : Nat) : ∀ (f a : Nat) (es : List En) (sec : Nat) (L : List En) (r : Nat), refR D pw ct f a es sec = some (L, r) → Taken es → Taken L := by
  intro f
  induction f with
  | zero => intro a es sec L r h; simp [refR] at h
  | succ f ih =>
    intro a es sec L r h ht
    rw [refR_step] at h
    split at h
    · split at h
      · cases h
      · rename_i x k hen
        by_cases h0 : (addM (pushAll (newM 1) es) x).1 = 0
        · rw [if_pos h0] at h
          exact ih _ _ _ _ _ h (ht.snoc h0 (entryL_enW (fun y hy => hD y (List.mem_of_mem_drop hy)) hen))
        · rw [if_neg h0] at h
          cases h
    · simp only [Option.some.injEq, Prod.mk.injEq] at h
      rw [← h.1]
      exact ht
theorem refB_taken {b : List Int} (hB : Bytes b) {L : List En} {r : Nat} (h : refB b = some (L, r)) : Taken L := by
  unfold refB at h
  split at h
  · cases h
  · split at h
    · cases h
    · exact refR_taken _ (fun x hx => hB x (List.mem_of_mem_take hx)) _ _ _ _ _ _ _ _ h taken_nil
theorem ref_none {b : List Int} (hB : Bytes b) (hb : b.length ≤ 1000000) (h : openB b = none) : (outO b (refB b)).2 = false := by
  cases hr : refB b with
  | none => rfl
  | some q =>
    obtain ⟨es, r⟩ := q
    have ht := refB_taken hB hr
    unfold outO
    simp only
    split
    · rfl
    · simp only
      rw [decide_eq_false_iff_not]
      intro he
      have hm := open_made (r : Int) es (ht.any (r : Int)) ht.2 (by
        have z := bytesM_len (pushAll (newM (r : Int)) es)
        rw [he] at z
        omega)
      rw [he, h] at hm
      cases hm
theorem adds_at : ∀ (l1 : List En) (m m' : Mk) (x : En) (l2 : List En), addsM m (l1 ++ x :: l2) = some m' → (addM (pushAll m l1) x).1 = 0 := by
  intro l1
  induction l1 with
  | nil =>
    intro m m' x l2 h
    have h' : (if (addM m x).1 = 0 then addsM (addM m x).2 l2 else none) = some m' := h
    by_cases h0 : (addM m x).1 = 0
    · exact h0
    · rw [if_neg h0] at h'
      cases h'
  | cons e l ih =>
    intro m m' x l2 h
    have h' : (if (addM m e).1 = 0 then addsM (addM m e).2 (l ++ x :: l2) else none) = some m' := h
    by_cases h0 : (addM m e).1 = 0
    · rw [if_pos h0, (addM_zero h0).1] at h'
      exact ih (pushM m e) m' x l2 h'
    · rw [if_neg h0] at h'
      cases h'
theorem refR_again (r : Int) (L : List En) (hok : ∀ e ∈ L, OkE e) (hT : addsM (newM 1) L = some (pushAll (newM 1) L)) (D : List Int) (pw ct : Nat) (hD : D = (pushAll (newM r) L).data)
    (hP : 2 ≤ ct → ∀ l1 l2, L = l1 ++ l2 → ((pushAll (newM r) l1).data.length = pw ↔ l1.length = rsOf r)) :
    ∀ (l2 l1 : List En) (f : Nat), L = l1 ++ l2 → l2.length < f → refR D pw ct f (pushAll (newM r) l1).data.length l1 (if 2 ≤ ct ∧ rsOf r < l1.length then rsOf r else 0) = some (L, if 2 ≤ ct then (if rsOf r < L.length then rsOf r else 0) else L.length) := by
  intro l2
  have hr1 := rsOf_pos r
  induction l2 with
  | nil =>
    intro l1 f hL hf
    obtain ⟨f, rfl⟩ : ∃ k, f = k + 1 := ⟨f - 1, by simp at hf; omega⟩
    rw [List.append_nil] at hL
    subst hL
    rw [refR_step, hD, if_neg (by omega)]
    by_cases h : 2 ≤ ct
    · simp only [if_pos h]
      by_cases h2 : rsOf r < L.length
      · rw [if_pos ⟨h, h2⟩, if_pos h2]
      · rw [if_neg (fun h => h2 h.2), if_neg h2]
    · simp only [if_neg h]
  | cons e l2 ih =>
    intro l1 f hL hf
    obtain ⟨f, rfl⟩ : ∃ k, f = k + 1 := ⟨f - 1, by simp at hf; omega⟩
    have hL2 : L = (l1 ++ [e]) ++ l2 := by rw [hL]; simp
    have hd : D = (pushAll (newM r) l1).data ++ (encE (sharedM (pushAll (newM r) l1) e) e ++ encT (pushM (pushAll (newM r) l1) e) l2) := by
      rw [hD, hL, pushAll_append, pushAll_data]
      rfl
    have hp := encE_pos (sharedM (pushAll (newM r) l1) e) e
    have hs := shared_le (pushAll (newM r) l1) e
    rw [last_eq] at hs
    have hE := entry_again (sharedM (pushAll (newM r) l1) e) e (lastK l1) (encT (pushM (pushAll (newM r) l1) e) l2) (hok e (by rw [hL]; simp)) hs.1 hs.2.1 hs.2.2
    have hdr : D.drop (pushAll (newM r) l1).data.length = encE (sharedM (pushAll (newM r) l1) e) e ++ encT (pushM (pushAll (newM r) l1) e) l2 := by rw [hd, List.drop_left]
    have hlt : (pushAll (newM r) l1).data.length < D.length := by rw [hd]; simp only [List.length_append]; omega
    have h0 : (addM (pushAll (newM 1) l1) e).1 = 0 := adds_at l1 (newM 1) _ e l2 (by rw [← hL]; exact hT)
    rw [refR_step, if_pos hlt, hdr, hE]
    simp only
    rw [if_pos h0]
    have hn : (pushAll (newM r) (l1 ++ [e])).data.length = (pushAll (newM r) l1).data.length + (encE (sharedM (pushAll (newM r) l1) e) e).length := by
      rw [pushAll_append]
      show List.length ((pushAll (newM r) l1).data ++ _) = _
      rw [List.length_append]
    have hi := ih (l1 ++ [e]) f hL2 (by simp only [List.length_cons] at hf; omega)
    rw [hn] at hi
    rw [← hi]
    congr 1
    rw [List.length_append, List.length_singleton]
    by_cases h1 : 2 ≤ ct
    · have hq := hP h1 l1 (e :: l2) hL
      by_cases h2 : l1.length = rsOf r
      · have hz : 0 < (pushAll (newM r) l1).data.length := by
          have := len_data l1 (newM r)
          have z : (newM r).data.length = 0 := rfl
          omega
        rw [if_pos (c := 2 ≤ ct ∧ 0 < _ ∧ _) ⟨h1, hz, hq.2 h2⟩, if_pos ⟨h1, by omega⟩]
        exact h2
      · rw [if_neg (c := 2 ≤ ct ∧ 0 < _ ∧ _) (fun h => h2 (hq.1 h.2.2))]
        by_cases h3 : rsOf r < l1.length
        · rw [if_pos ⟨h1, h3⟩, if_pos ⟨h1, by omega⟩]
        · rw [if_neg (fun h => h3 h.2), if_neg (fun h => by omega)]
    · rw [if_neg (c := 2 ≤ ct ∧ 0 < _ ∧ _) (fun h => h1 h.1), if_neg (fun h => h1 h.1), if_neg (fun h => h1 h.1)]
theorem ref_some {b : List Int} (hB : Bytes b) (hb : b.length ≤ 1000000) {L : List En} {R : Nat} (h : openB b = some (L, R)) : outO b (refB b) = (L, true) := by
  obtain ⟨hR1, hR2, m, hm, hbm⟩ := open_form h
  have hw := (readB_all hB (open_read h)).2
  obtain ⟨em, w1, _⟩ := adds_push L hm
  have hok : ∀ e ∈ L, OkE e := fun e he => okE_of (w1 e he) (hw e he)
  have hT : addsM (newM 1) L = some (pushAll (newM 1) L) := adds_any L (m := newM (R : Int)) (m' := newM 1) rfl rfl hm
  have hrs : rsOf (R : Int) = R := rsOf_nat hR1
  have hld := len_data L (newM (R : Int))
  obtain ⟨p1, p2, p3, p4⟩ := places_inv (R : Int) L
  obtain ⟨_, f2⟩ := places_facts (R : Int) L
  rw [← em] at hld p1 p2 p3 p4 f2
  have hl := bytesM_len m
  have hL3 : 3 * L.length ≤ m.data.length := by simpa [newM] using hld
  obtain ⟨P, hP⟩ : ∃ P, (m.places.flatMap fun (p : Nat) => fourL (p : Int)) = P := ⟨_, rfl⟩
  have hPl : P.length = 4 * m.places.length := by rw [← hP, flat_len]
  have hbt : bytesM m = m.data ++ (P ++ (fourL (m.places.length : Int) ++ fourL (sumF (bodyM m)))) := by
    rw [bytesM_tail]
    unfold tailM
    rw [hP]
  have hbl : b.length = m.data.length + 4 * m.places.length + 8 := by rw [← hbm, hl]
  have hw : wordL b (b.length - 8) = m.places.length := by
    have := wordL_four m.places.length (by omega) (m.data ++ P) (fourL (sumF (bodyM m)))
    rw [List.append_assoc, ← hbt, hbm] at this
    rw [← this]
    congr 1
    rw [hbl, List.length_append, hPl]
    omega
  have hD : b.take m.data.length = m.data := by rw [← hbm, hbt, List.take_left' rfl]
  have hrow := refR_again (R : Int) L hok hT m.data (wordL b (m.data.length + 4)) m.places.length (by rw [em]) (fun h1 l1 l2 hL => by
    have hlt := p2.1 h1
    have hw1 : wordL b (m.data.length + 4) = lenAt (R : Int) L (rsOf (R : Int)) := by
      rw [← p3 hlt]
      match hpl : m.places, (show 2 ≤ m.places.length by omega) with
      | p0 :: q :: t, _ =>
        have hq : q < 4294967296 := by
          have := (f2 1 q (by rw [hpl]; rfl)).2
          omega
        have hPq : P = fourL (p0 : Int) ++ (fourL (q : Int) ++ t.flatMap fun (p : Nat) => fourL (p : Int)) := by rw [← hP, hpl, List.flatMap_cons, List.flatMap_cons]
        have := wordL_four q hq (m.data ++ fourL (p0 : Int)) ((t.flatMap fun (p : Nat) => fourL (p : Int)) ++ (fourL (m.places.length : Int) ++ fourL (sumF (bodyM m))))
        rw [List.length_append, four_len] at this
        rw [show m.data ++ fourL (p0 : Int) ++ (fourL (q : Int) ++ ((t.flatMap fun (p : Nat) => fourL (p : Int)) ++ (fourL (m.places.length : Int) ++ fourL (sumF (bodyM m))))) = b by rw [← hbm, hbt, hPq]; simp only [List.append_assoc]] at this
        simpa using this
    have hl1 : (pushAll (newM (R : Int)) l1).data.length = lenAt (R : Int) L l1.length := by unfold lenAt; rw [hL, List.take_left' rfl]
    have hl1l : l1.length ≤ L.length := by rw [hL, List.length_append]; omega
    rw [hw1, hl1]
    constructor
    · intro h
      rcases Nat.lt_trichotomy l1.length (rsOf (R : Int)) with h2 | h2 | h2
      · have := lenAt_mono (R : Int) L h2 (by omega); omega
      · exact h2
      · have := lenAt_mono (R : Int) L h2 hl1l; omega
    · intro h; rw [h]) L [] (b.length + 1) rfl (by omega)
  have e4 : (pushAll (newM (R : Int)) []).data.length = 0 := rfl
  rw [e4, if_neg (fun h => by simp at h)] at hrow
  have hrb : refB b = some (L, if 2 ≤ m.places.length then (if rsOf (R : Int) < L.length then rsOf (R : Int) else 0) else L.length) := by
    unfold refB
    rw [if_neg (by omega), hw, if_neg (by omega), show b.length - 8 - 4 * m.places.length = m.data.length by omega, hD]
    exact hrow
  rw [hrb]
  unfold outO
  simp only
  by_cases h2 : 2 ≤ m.places.length
  · have hlt := p2.1 h2
    rw [if_pos h2, if_pos hlt, hrs, if_neg (by omega), ← em, hbm]
    simp
  · have hnl : ¬ rsOf (R : Int) < L.length := fun h => h2 (p2.2 h)
    rw [if_neg h2, if_neg (by omega)]
    obtain ⟨q1, q2⟩ := enc_same (R : Int) (L.length : Int) L (by omega) (by unfold rsOf; split <;> omega)
    have e3 : bytesM (pushAll (newM (L.length : Int)) L) = bytesM (pushAll (newM (R : Int)) L) := by unfold bytesM bodyM; rw [← q1, ← q2]
    rw [e3, ← em, hbm]
    simp
/-- The keys rise. -/
def Rise (es : List En) : Prop := ∀ i j : Nat, i < j → j < es.length → ltK (rd_T30 es (i : Int)).f0 (rd_T30 es (j : Int)).f0 = true
theorem rdE_at (es : List En) (i : Nat) (h : i < es.length) : rd_T30 es (i : Int) = es[i] := by simp [rd_T30, List.getD_eq_getElem?_getD, h]
theorem rdE_left (l : List En) (x : En) (i : Nat) (h : i < l.length) : rd_T30 (l ++ [x]) (i : Int) = rd_T30 l (i : Int) := by
  rw [rdE_at _ i (by simp; omega), rdE_at l i h, List.getElem_append_left h]
theorem rise_of (es : List En) : addsM (newM 1) es = some (pushAll (newM 1) es) → Rise es := by
  refine snoc_rec (P := fun es => addsM (newM 1) es = some (pushAll (newM 1) es) → Rise es) (fun _ i j _ hj => by simp at hj) ?_ es
  intro l x ih h
  have h0 := adds_at l (newM 1) _ x [] h
  have hl : addsM (newM 1) l = some (pushAll (newM 1) l) := by
    have key : ∀ (l : List En) (m m' : Mk) (x : En), addsM m (l ++ [x]) = some m' → addsM m l = some (pushAll m l) := by
      intro l
      induction l with
      | nil => intro m m' x _; rfl
      | cons e l ih =>
        intro m m' x h
        have h' : (if (addM m e).1 = 0 then addsM (addM m e).2 (l ++ [x]) else none) = some m' := h
        show (if (addM m e).1 = 0 then addsM (addM m e).2 l else none) = _
        by_cases h0 : (addM m e).1 = 0
        · rw [if_pos h0, (addM_zero h0).1] at h' ⊢
          exact ih (pushM m e) m' x h'
        · rw [if_neg h0] at h'
          cases h'
    exact key l (newM 1) _ x h
  have hR := ih hl
  intro i j hij hj
  rw [List.length_append, List.length_singleton] at hj
  by_cases hjl : j < l.length
  · rw [rdE_left l x i (by omega), rdE_left l x j hjl]
    exact hR i j hij hjl
  · obtain rfl : j = l.length := by omega
    rw [rdE_left l x i hij]
    have hx : rd_T30 (l ++ [x]) (l.length : Int) = x := by rw [rdE_at _ _ (by simp), List.getElem_append_right (Nat.le_refl _)]; simp
    rw [hx]
    have hlast : ltK (rd_T30 l ((l.length - 1 : Nat) : Int)).f0 x.f0 = true := by
      have z := h0
      unfold addM at z
      have hw : wrongE x = 0 := (addM_zero h0).2
      rw [if_neg (fun h => h hw)] at z
      have hn : (pushAll (newM 1) l).n = l.length := by rw [(pushAll_rs l (newM 1)).2]; simp [newM]
      have hk : (pushAll (newM 1) l).last = (rd_T30 l ((l.length - 1 : Nat) : Int)).f0 := by rw [last_eq]; unfold lastK; rw [if_neg (by omega)]
      rw [hn, hk] at z
      by_cases hq : leK x.f0 (rd_T30 l ((l.length - 1 : Nat) : Int)).f0 = true
      · rw [if_pos ⟨by omega, hq⟩] at z
        simp at z
      · rw [leK_not] at hq
        unfold ltK
        simpa using hq
    by_cases hi : i = l.length - 1
    · rw [hi]; exact hlast
    · exact bl_trans _ _ _ (hR i (l.length - 1) (by omega) (by omega)) hlast
def SeekIs (es : List En) (s : ByteArray) (q : Option Nat) : Prop := match q with
  | none => ∀ i : Nat, i < es.length → ltK (rd_T30 es (i : Int)).f0 s = true
  | some a => a < es.length ∧ ltK (rd_T30 es (a : Int)).f0 s = false ∧ ∀ i : Nat, i < a → ltK (rd_T30 es (i : Int)).f0 s = true
theorem seekF_is (es : List En) (hR : Rise es) (rs : Nat) (hrs : 1 ≤ rs) (s : ByteArray) : ∀ (f a : Nat), es.length < a + f → a ≤ es.length → (∀ i : Nat, i < a → ltK (rd_T30 es (i : Int)).f0 s = true) → SeekIs es s (seekF es rs s f a) := by
  intro f
  induction f with
  | zero => intro a h1 h2; omega
  | succ f ih =>
    intro a h1 h2 h3
    unfold seekF
    by_cases c0 : es.length ≤ a
    · rw [if_pos c0]
      intro i hi
      exact h3 i (by omega)
    · rw [if_neg c0]
      by_cases c1 : ltK (rd_T30 es (a : Int)).f0 s = false
      · rw [if_pos c1]
        exact ⟨by omega, c1, h3⟩
      · rw [if_neg c1]
        by_cases c2 : a + rs < es.length ∧ ltK (rd_T30 es ((a + rs : Nat) : Int)).f0 s = true
        · rw [if_pos c2]
          refine ih (a + rs) (by omega) (by omega) (fun i hi => ?_)
          exact bl_trans _ _ _ (hR i (a + rs) hi c2.1) c2.2
        · rw [if_neg c2]
          refine ih (a + 1) (by omega) (by omega) (fun i hi => ?_)
          by_cases hia : i = a
          · rw [hia]; simpa using c1
          · exact h3 i (by omega)
theorem seekIs_one {es : List En} {s : ByteArray} {p q : Option Nat} (hp : SeekIs es s p) (hq : SeekIs es s q) : p = q := by
  cases p with
  | none =>
    cases q with
    | none => rfl
    | some b =>
      have := hp b hq.1
      rw [hq.2.1] at this
      cases this
  | some a =>
    cases q with
    | none =>
      have := hq a hp.1
      rw [hp.2.1] at this
      cases this
    | some b =>
      rcases Nat.lt_trichotomy a b with h | h | h
      · have := hq.2.2 a h
        rw [hp.2.1] at this
        cases this
      · rw [h]
      · have := hp.2.2 b h
        rw [hq.2.1] at this
        cases this
theorem seek_any {es : List En} (hR : Rise es) (rs : Nat) (hrs : 1 ≤ rs) (s : ByteArray) : seekF es rs s (es.length + 1) 0 = seekF es (es.length + 1) s (es.length + 1) 0 :=
  seekIs_one (seekF_is es hR rs hrs s _ 0 (by omega) (Nat.zero_le _) (fun i hi => by omega)) (seekF_is es hR (es.length + 1) (by omega) s _ 0 (by omega) (Nat.zero_le _) (fun i hi => by omega))
def seekO (es : List En) : Option Nat → ByteArray × Int × Bool × ByteArray × Bool
  | none => ((⟨#[]⟩ : ByteArray), 0, false, (⟨#[]⟩ : ByteArray), false)
  | some a => ((rd_T30 es (a : Int)).f0, (rd_T30 es (a : Int)).f1, (rd_T30 es (a : Int)).f2, (rd_T30 es (a : Int)).f3, true)
theorem seekR_ev (es : List En) (hl : es.length ≤ 4611686018427387) (hs : ∀ e ∈ es, e.f0.size ≤ 64) (s : ByteArray) (hk : s.size ≤ 4611686018427387) : ∀ (f a : Nat), es.length < a + f → a ≤ es.length → Ev (fun k => screeref9_Seek.l0 k es s (a : Int)) (seekO es (seekF es (es.length + 1) s f a)) := by
  intro f
  induction f with
  | zero => intro a h1 h2; omega
  | succ f ih =>
    intro a h1 h2
    unfold seekF
    by_cases c0 : es.length ≤ a
    · rw [if_pos c0]
      refine Ev.step (f := fun _ => some ((⟨#[]⟩ : ByteArray), 0, false, (⟨#[]⟩ : ByteArray), false)) (fun k => ?_) (Ev.now _)
      rw [screeref9_Seek.l0, if_neg (by omega)]
    · rw [if_neg c0]
      have ha := above_f s (rd_T30 es (a : Int)).f0 (by omega) (by
        rw [rdE_at es a (by omega)]
        have := hs _ (List.getElem_mem (l := es) (by omega : a < es.length))
        omega)
      have hq : Op.bytesLess (rd_T30 es (a : Int)).f0.toList s.toList = ltK (rd_T30 es (a : Int)).f0 s := rfl
      rw [hq] at ha
      cases hc : ltK (rd_T30 es (a : Int)).f0 s with
      | false =>
        rw [hc] at ha
        rw [if_pos rfl]
        refine Ev.step (fun k => ?_) (Ev.bind (f := fun k t => if t = true then (screeref9_Seek.l0 k es s (wrap64 ((a : Int) + 1))) else (some ((rd_T30 es (a : Int)).f0, (rd_T30 es (a : Int)).f1, (rd_T30 es (a : Int)).f2, (rd_T30 es (a : Int)).f3, true))) ha (Ev.now _))
        rw [screeref9_Seek.l0, if_pos (by omega), if_pos (by omega)]
      | true =>
        rw [hc] at ha
        rw [if_neg (by decide), if_neg (fun h => by omega)]
        refine Ev.step (fun k => ?_) (Ev.bind (f := fun k t => if t = true then (screeref9_Seek.l0 k es s (wrap64 ((a : Int) + 1))) else (some ((rd_T30 es (a : Int)).f0, (rd_T30 es (a : Int)).f1, (rd_T30 es (a : Int)).f2, (rd_T30 es (a : Int)).f3, true))) ha (Ev.congr (fun k => ?_) (ih (a + 1) (by omega) (by omega))))
        · rw [screeref9_Seek.l0, if_pos (by omega), if_pos (by omega)]
        · rw [if_pos rfl, ww a (by omega)]
def RefOpenPost (w : World) (q : Option (List En × Nat)) (e : Ending) (w' : World) : Prop := match q with
  | none => (∃ v, e = .returned (.tuple #[v, .bool false])) ∧ Below w.heap.size w w'
  | some (L, _) => (∃ v, e = .returned (.tuple #[v, .bool true]) ∧ kE.R 30 w' w.heap.size (fun _ => True) v L) ∧ Below w.heap.size w w'
theorem refOpen_calls {w : World} {A : Option Addr} {n c : Nat} {b : List Int} (h : Rd (Kd.int .u8) w A n c b) (hB : Bytes b) (hb : b.length ≤ 1000000) : Calls Tryd.prog 17 #[.slice A n c] w (RefOpenPost w (openB b)) := by
  obtain ⟨e1, h2, h3⟩ := h
  subst e1
  obtain ⟨k, hk⟩ := (open_f b hB hb).rounds
  cases ho : openB b with
  | none =>
    have hz := ref_none hB hb ho
    refine (screeref9_Open.calls k A c b (outO b (refB b)).1 (outO b (refB b)).2 w h3 h2 hk).mono ?_
    rintro e w' ⟨v, rfl, hr, hbl⟩
    rw [hz]
    exact ⟨⟨v, rfl⟩, hbl⟩
  | some q =>
    obtain ⟨L, R⟩ := q
    have hz := ref_some hB hb ho
    rw [hz] at hk
    refine (screeref9_Open.calls k A c b L true w h3 h2 hk).mono ?_
    rintro e w' ⟨v, rfl, hr, hbl⟩
    exact ⟨⟨v, rfl, hr⟩, hbl⟩
theorem refSeek_calls {w : World} {A : Option Addr} {n c : Nat} {es : List En} (rs : Nat) (hrs : 1 ≤ rs) (s : ByteArray) (h : Rd kE w A n c es) (hl : es.length ≤ 4611686018427387) (ht : Taken es) (hk : s.size ≤ 4611686018427387) :
    Calls Tryd.prog 23 #[.slice A n c, .string s] w (SeekPost w es (seekF es rs s (es.length + 1) 0)) := by
  obtain ⟨e1, h2, h3⟩ := h
  subst e1
  have hR := rise_of es ht.1
  rw [seek_any hR rs hrs s]
  obtain ⟨k, hkk⟩ := (seekR_ev es hl (fun e he => (ht.ok e he).2.1) s hk (es.length + 1) 0 (by omega) (Nat.zero_le _)).rounds
  have his := seekF_is es hR (es.length + 1) (by omega) s (es.length + 1) 0 (by omega) (Nat.zero_le _) (fun i hi => by omega)
  cases hq : seekF es (es.length + 1) s (es.length + 1) 0 with
  | none =>
    rw [hq] at hkk
    refine (screeref9_Seek.calls k A c es s _ _ _ _ _ w h3 h2 hkk).mono ?_
    rintro e w' ⟨rfl, hb⟩
    exact ⟨rfl, hb⟩
  | some a =>
    rw [hq] at hkk his
    refine (screeref9_Seek.calls k A c es s _ _ _ _ _ w h3 h2 hkk).mono ?_
    rintro e w' ⟨rfl, hb⟩
    exact ⟨⟨his.1, rfl⟩, hb⟩
end Go.Proofs.YtaonjmkfbfhanaaDoor.Rf
