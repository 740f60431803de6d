-- Printed by a program of this claim's own out of the translation.
import Derived.Test.YtnamanalacjhnaaDoorQApx0
import Derived.Test.YtnamanalacjhnaaDoorQApx1
namespace Go.Proofs.YtnamanalacjhnaaDoor.QAp
open Go.Proofs.YtnamanalacjhnaaDoor.Own
open Go.RowKit Go.Proofs.YtnamanalacjhnaaDoorW.PrintWords Go.Proofs.YtnamanalacjhnaaDoorW.PrintLast Go.Proofs.YtnamanalacjhnaaDoorW.PrintMore
attribute [local go_sem] max2_int min2_int max_two min_two max_three min_three max_four min_four   -- for this text's walks alone
set_option linter.unusedVariables false
set_option linter.unusedSimpArgs false

/-! ### screeref7_Append_p: function 12 -/
mutual
def screeref7_Append_p.j0 : Nat → Int → List Int → Option (List Int)
  | 0, _, _ => none
  | k + 1, x0, x1 => if (wrap64 (512 - (Int.tmod x0 512))) < 8 then (screeref7_Append_p.l0 k x1 (Int.tmod x0 512) ([] : List Int)) else (screeref7_Append_p.j2 k x1 (Int.tmod x0 512) ([] : List Int))
def screeref7_Append_p.j2 : Nat → List Int → Int → List Int → Option (List Int)
  | 0, _, _, _ => none
  | k + 1, x1, x5, x6 => screeref7_Append_p.l1 k x1 x5 x6 0 true
def screeref7_Append_p.l1 : Nat → List Int → Int → List Int → Int → Bool → Option (List Int)
  | 0, _, _, _, _, _ => none
  | k + 1, x1, x5, x6, x7, x8 => if x8 = true then (screeref7_Append_p.j4 k x1 x5 x6 x7 x8 true) else (screeref7_Append_p.j4 k x1 x5 x6 x7 x8 (decide (x7 < (x1.length : Int))))
def screeref7_Append_p.j4 : Nat → List Int → Int → List Int → Int → Bool → Bool → Option (List Int)
  | 0, _, _, _, _, _, _ => none
  | k + 1, x1, x5, x6, x7, x8, x33 => if x33 = true then (if (wrap64 ((x1.length : Int) - x7)) < (wrap64 ((wrap64 (512 - x5)) - 7)) then (screeref7_Append_p.j5 k x1 x6 x7 x8 (wrap64 ((x1.length : Int) - x7))) else (screeref7_Append_p.j5 k x1 x6 x7 x8 (wrap64 ((wrap64 (512 - x5)) - 7)))) else (some x6)
def screeref7_Append_p.j5 : Nat → List Int → List Int → Int → Bool → Int → Option (List Int)
  | 0, _, _, _, _, _ => none
  | k + 1, x1, x6, x7, x8, x9 => if x8 = true then (screeref7_Append_p.j6 k x1 x6 x7 x8 x9 ((wrap64 (x7 + x9)) == (x1.length : Int)) 3 ((wrap64 (x7 + x9)) == (x1.length : Int))) else (screeref7_Append_p.j6 k x1 x6 x7 x8 x9 ((wrap64 (x7 + x9)) == (x1.length : Int)) 3 false)
def screeref7_Append_p.j6 : Nat → List Int → List Int → Int → Bool → Int → Bool → Int → Bool → Option (List Int)
  | 0, _, _, _, _, _, _, _, _ => none
  | k + 1, x1, x6, x7, x8, x9, x10, x11, x56 => if x56 = true then ((some (([(x9) % 256, (x9 / 256) % 256, 1] : List Int) : List Int)).bind fun y136 => (if 0 ≤ x7 then (if x7 ≤ (wrap64 (x7 + x9)) then (if (wrap64 (x7 + x9)) ≤ (x1.length : Int) then (if y136.length + ((x1.take ((wrap64 (x7 + x9)) : Int).toNat).drop (x7 : Int).toNat).length < 140737488355328 then ((some (y136 ++ ((x1.take ((wrap64 (x7 + x9)) : Int).toNat).drop (x7 : Int).toNat) : List Int)).bind fun y140 => ((screeref2_Sum.f y140).bind fun t143 => ((screeref2_Four.f t143).bind fun t144 => (if x6.length + t144.length < 140737488355328 then ((some (x6 ++ t144 : List Int)).bind fun y147 => (if y147.length + y140.length < 140737488355328 then (screeref7_Append_p.l1 k x1 0 (y147 ++ y140) (wrap64 (x7 + x9)) false) else (none))) else (none))))) else (none)) else (none)) else (none)) else (none))) else (if x8 = true then ((some (([(x9) % 256, (x9 / 256) % 256, 2] : List Int) : List Int)).bind fun y153 => (if 0 ≤ x7 then (if x7 ≤ (wrap64 (x7 + x9)) then (if (wrap64 (x7 + x9)) ≤ (x1.length : Int) then (if y153.length + ((x1.take ((wrap64 (x7 + x9)) : Int).toNat).drop (x7 : Int).toNat).length < 140737488355328 then ((some (y153 ++ ((x1.take ((wrap64 (x7 + x9)) : Int).toNat).drop (x7 : Int).toNat) : List Int)).bind fun y157 => ((screeref2_Sum.f y157).bind fun t160 => ((screeref2_Four.f t160).bind fun t161 => (if x6.length + t161.length < 140737488355328 then ((some (x6 ++ t161 : List Int)).bind fun y164 => (if y164.length + y157.length < 140737488355328 then (screeref7_Append_p.l1 k x1 0 (y164 ++ y157) (wrap64 (x7 + x9)) false) else (none))) else (none))))) else (none)) else (none)) else (none)) else (none))) else (if x10 = true then ((some (([(x9) % 256, (x9 / 256) % 256, 4] : List Int) : List Int)).bind fun y170 => (if 0 ≤ x7 then (if x7 ≤ (wrap64 (x7 + x9)) then (if (wrap64 (x7 + x9)) ≤ (x1.length : Int) then (if y170.length + ((x1.take ((wrap64 (x7 + x9)) : Int).toNat).drop (x7 : Int).toNat).length < 140737488355328 then ((some (y170 ++ ((x1.take ((wrap64 (x7 + x9)) : Int).toNat).drop (x7 : Int).toNat) : List Int)).bind fun y174 => ((screeref2_Sum.f y174).bind fun t177 => ((screeref2_Four.f t177).bind fun t178 => (if x6.length + t178.length < 140737488355328 then ((some (x6 ++ t178 : List Int)).bind fun y181 => (if y181.length + y174.length < 140737488355328 then (screeref7_Append_p.l1 k x1 0 (y181 ++ y174) (wrap64 (x7 + x9)) false) else (none))) else (none))))) else (none)) else (none)) else (none)) else (none))) else ((some (([(x9) % 256, (x9 / 256) % 256, (x11) % 256] : List Int) : List Int)).bind fun y187 => (if 0 ≤ x7 then (if x7 ≤ (wrap64 (x7 + x9)) then (if (wrap64 (x7 + x9)) ≤ (x1.length : Int) then (if y187.length + ((x1.take ((wrap64 (x7 + x9)) : Int).toNat).drop (x7 : Int).toNat).length < 140737488355328 then ((some (y187 ++ ((x1.take ((wrap64 (x7 + x9)) : Int).toNat).drop (x7 : Int).toNat) : List Int)).bind fun y191 => ((screeref2_Sum.f y191).bind fun t194 => ((screeref2_Four.f t194).bind fun t195 => (if x6.length + t195.length < 140737488355328 then ((some (x6 ++ t195 : List Int)).bind fun y198 => (if y198.length + y191.length < 140737488355328 then (screeref7_Append_p.l1 k x1 0 (y198 ++ y191) (wrap64 (x7 + x9)) false) else (none))) else (none))))) else (none)) else (none)) else (none)) else (none)))))
def screeref7_Append_p.l0 : Nat → List Int → Int → List Int → Option (List Int)
  | 0, _, _, _ => none
  | k + 1, x1, x5, x6 => if x5 < 512 then (if x6.length < 140737488355328 then (screeref7_Append_p.l0 k x1 (wrap64 (x5 + 1)) (x6 ++ [0])) else (none)) else (screeref7_Append_p.j2 k x1 0 x6)
end
def screeref7_Append_p.f (k : Nat) (a0 : Int) (l1 : List Int) : Option (List Int) := if a0 < 0 then (screeref7_Append_p.j0 k 0 l1) else (screeref7_Append_p.j0 k a0 l1)
theorem screeref7_Append_p.mono_l : ∀ k, (∀ y0 y1, LeO (screeref7_Append_p.j0 k y0 y1) (screeref7_Append_p.j0 (k + 1) y0 y1)) ∧ (∀ y0 y1 y2, LeO (screeref7_Append_p.j2 k y0 y1 y2) (screeref7_Append_p.j2 (k + 1) y0 y1 y2)) ∧ (∀ y0 y1 y2 y3 y4, LeO (screeref7_Append_p.l1 k y0 y1 y2 y3 y4) (screeref7_Append_p.l1 (k + 1) y0 y1 y2 y3 y4)) ∧ (∀ y0 y1 y2 y3 y4 y5, LeO (screeref7_Append_p.j4 k y0 y1 y2 y3 y4 y5) (screeref7_Append_p.j4 (k + 1) y0 y1 y2 y3 y4 y5)) ∧ (∀ y0 y1 y2 y3 y4, LeO (screeref7_Append_p.j5 k y0 y1 y2 y3 y4) (screeref7_Append_p.j5 (k + 1) y0 y1 y2 y3 y4)) ∧ (∀ y0 y1 y2 y3 y4 y5 y6 y7, LeO (screeref7_Append_p.j6 k y0 y1 y2 y3 y4 y5 y6 y7) (screeref7_Append_p.j6 (k + 1) y0 y1 y2 y3 y4 y5 y6 y7)) ∧ (∀ y0 y1 y2, LeO (screeref7_Append_p.l0 k y0 y1 y2) (screeref7_Append_p.l0 (k + 1) y0 y1 y2))
  | 0 => ⟨fun _ _ r h => by simp [screeref7_Append_p.j0] at h, fun _ _ _ r h => by simp [screeref7_Append_p.j2] at h, fun _ _ _ _ _ r h => by simp [screeref7_Append_p.l1] at h, fun _ _ _ _ _ _ r h => by simp [screeref7_Append_p.j4] at h, fun _ _ _ _ _ r h => by simp [screeref7_Append_p.j5] at h, fun _ _ _ _ _ _ _ _ r h => by simp [screeref7_Append_p.j6] at h, fun _ _ _ r h => by simp [screeref7_Append_p.l0] at h⟩
  | k + 1 => by
    obtain ⟨ih0, ih1, ih2, ih3, ih4, ih5, ih6⟩ := screeref7_Append_p.mono_l k
    refine ⟨?_, ?_, ?_, ?_, ?_, ?_, ?_⟩
    · intro y0 y1
      unfold screeref7_Append_p.j0
      repeat' first
      | (with_reducible exact ih0 _ _)
      | (with_reducible exact ih1 _ _ _)
      | (with_reducible exact ih2 _ _ _ _ _)
      | (with_reducible exact ih3 _ _ _ _ _ _)
      | (with_reducible exact ih4 _ _ _ _ _)
      | (with_reducible exact ih5 _ _ _ _ _ _ _ _)
      | (with_reducible exact ih6 _ _ _)
      | (with_reducible exact LeO.refl _)
      | (with_reducible exact LeO.none _)
      | (with_reducible refine LeO.ite ?_ ?_)
      | (with_reducible refine LeO.bind ?_ (fun _ => ?_))
      | exact ih0 _ _
      | exact ih1 _ _ _
      | exact ih2 _ _ _ _ _
      | exact ih3 _ _ _ _ _ _
      | exact ih4 _ _ _ _ _
      | exact ih5 _ _ _ _ _ _ _ _
      | exact ih6 _ _ _
      | exact LeO.none _
      | refine LeO.ite ?_ ?_
      | refine LeO.bind ?_ (fun _ => ?_)
    · intro y0 y1 y2
      unfold screeref7_Append_p.j2
      repeat' first
      | (with_reducible exact ih0 _ _)
      | (with_reducible exact ih1 _ _ _)
      | (with_reducible exact ih2 _ _ _ _ _)
      | (with_reducible exact ih3 _ _ _ _ _ _)
      | (with_reducible exact ih4 _ _ _ _ _)
      | (with_reducible exact ih5 _ _ _ _ _ _ _ _)
      | (with_reducible exact ih6 _ _ _)
      | (with_reducible exact LeO.refl _)
      | (with_reducible exact LeO.none _)
      | (with_reducible refine LeO.ite ?_ ?_)
      | (with_reducible refine LeO.bind ?_ (fun _ => ?_))
      | exact ih0 _ _
      | exact ih1 _ _ _
      | exact ih2 _ _ _ _ _
      | exact ih3 _ _ _ _ _ _
      | exact ih4 _ _ _ _ _
      | exact ih5 _ _ _ _ _ _ _ _
      | exact ih6 _ _ _
      | exact LeO.none _
      | refine LeO.ite ?_ ?_
      | refine LeO.bind ?_ (fun _ => ?_)
    · intro y0 y1 y2 y3 y4
      unfold screeref7_Append_p.l1
      repeat' first
      | (with_reducible exact ih0 _ _)
      | (with_reducible exact ih1 _ _ _)
      | (with_reducible exact ih2 _ _ _ _ _)
      | (with_reducible exact ih3 _ _ _ _ _ _)
      | (with_reducible exact ih4 _ _ _ _ _)
      | (with_reducible exact ih5 _ _ _ _ _ _ _ _)
      | (with_reducible exact ih6 _ _ _)
      | (with_reducible exact LeO.refl _)
      | (with_reducible exact LeO.none _)
      | (with_reducible refine LeO.ite ?_ ?_)
      | (with_reducible refine LeO.bind ?_ (fun _ => ?_))
      | exact ih0 _ _
      | exact ih1 _ _ _
      | exact ih2 _ _ _ _ _
      | exact ih3 _ _ _ _ _ _
      | exact ih4 _ _ _ _ _
      | exact ih5 _ _ _ _ _ _ _ _
      | exact ih6 _ _ _
      | exact LeO.none _
      | refine LeO.ite ?_ ?_
      | refine LeO.bind ?_ (fun _ => ?_)
    · intro y0 y1 y2 y3 y4 y5
      unfold screeref7_Append_p.j4
      repeat' first
      | (with_reducible exact ih0 _ _)
      | (with_reducible exact ih1 _ _ _)
      | (with_reducible exact ih2 _ _ _ _ _)
      | (with_reducible exact ih3 _ _ _ _ _ _)
      | (with_reducible exact ih4 _ _ _ _ _)
      | (with_reducible exact ih5 _ _ _ _ _ _ _ _)
      | (with_reducible exact ih6 _ _ _)
      | (with_reducible exact LeO.refl _)
      | (with_reducible exact LeO.none _)
      | (with_reducible refine LeO.ite ?_ ?_)
      | (with_reducible refine LeO.bind ?_ (fun _ => ?_))
      | exact ih0 _ _
      | exact ih1 _ _ _
      | exact ih2 _ _ _ _ _
      | exact ih3 _ _ _ _ _ _
      | exact ih4 _ _ _ _ _
      | exact ih5 _ _ _ _ _ _ _ _
      | exact ih6 _ _ _
      | exact LeO.none _
      | refine LeO.ite ?_ ?_
      | refine LeO.bind ?_ (fun _ => ?_)
    · intro y0 y1 y2 y3 y4
      unfold screeref7_Append_p.j5
      repeat' first
      | (with_reducible exact ih0 _ _)
      | (with_reducible exact ih1 _ _ _)
      | (with_reducible exact ih2 _ _ _ _ _)
      | (with_reducible exact ih3 _ _ _ _ _ _)
      | (with_reducible exact ih4 _ _ _ _ _)
      | (with_reducible exact ih5 _ _ _ _ _ _ _ _)
      | (with_reducible exact ih6 _ _ _)
      | (with_reducible exact LeO.refl _)
      | (with_reducible exact LeO.none _)
      | (with_reducible refine LeO.ite ?_ ?_)
      | (with_reducible refine LeO.bind ?_ (fun _ => ?_))
      | exact ih0 _ _
      | exact ih1 _ _ _
      | exact ih2 _ _ _ _ _
      | exact ih3 _ _ _ _ _ _
      | exact ih4 _ _ _ _ _
      | exact ih5 _ _ _ _ _ _ _ _
      | exact ih6 _ _ _
      | exact LeO.none _
      | refine LeO.ite ?_ ?_
      | refine LeO.bind ?_ (fun _ => ?_)
    · intro y0 y1 y2 y3 y4 y5 y6 y7
      unfold screeref7_Append_p.j6
      repeat' first
      | (with_reducible exact ih0 _ _)
      | (with_reducible exact ih1 _ _ _)
      | (with_reducible exact ih2 _ _ _ _ _)
      | (with_reducible exact ih3 _ _ _ _ _ _)
      | (with_reducible exact ih4 _ _ _ _ _)
      | (with_reducible exact ih5 _ _ _ _ _ _ _ _)
      | (with_reducible exact ih6 _ _ _)
      | (with_reducible exact LeO.refl _)
      | (with_reducible exact LeO.none _)
      | (with_reducible refine LeO.ite ?_ ?_)
      | (with_reducible refine LeO.bind ?_ (fun _ => ?_))
      | exact ih0 _ _
      | exact ih1 _ _ _
      | exact ih2 _ _ _ _ _
      | exact ih3 _ _ _ _ _ _
      | exact ih4 _ _ _ _ _
      | exact ih5 _ _ _ _ _ _ _ _
      | exact ih6 _ _ _
      | exact LeO.none _
      | refine LeO.ite ?_ ?_
      | refine LeO.bind ?_ (fun _ => ?_)
    · intro y0 y1 y2
      unfold screeref7_Append_p.l0
      repeat' first
      | (with_reducible exact ih0 _ _)
      | (with_reducible exact ih1 _ _ _)
      | (with_reducible exact ih2 _ _ _ _ _)
      | (with_reducible exact ih3 _ _ _ _ _ _)
      | (with_reducible exact ih4 _ _ _ _ _)
      | (with_reducible exact ih5 _ _ _ _ _ _ _ _)
      | (with_reducible exact ih6 _ _ _)
      | (with_reducible exact LeO.refl _)
      | (with_reducible exact LeO.none _)
      | (with_reducible refine LeO.ite ?_ ?_)
      | (with_reducible refine LeO.bind ?_ (fun _ => ?_))
      | exact ih0 _ _
      | exact ih1 _ _ _
      | exact ih2 _ _ _ _ _
      | exact ih3 _ _ _ _ _ _
      | exact ih4 _ _ _ _ _
      | exact ih5 _ _ _ _ _ _ _ _
      | exact ih6 _ _ _
      | exact LeO.none _
      | refine LeO.ite ?_ ?_
      | refine LeO.bind ?_ (fun _ => ?_)
theorem screeref7_Append_p.mono : ∀ a0 a1 k, LeO (screeref7_Append_p.f k a0 a1) (screeref7_Append_p.f (k + 1) a0 a1) := by
  intro a0 a1 k
  obtain ⟨ih0, ih1, ih2, ih3, ih4, ih5, ih6⟩ := screeref7_Append_p.mono_l k
  unfold screeref7_Append_p.f
  repeat' first
      | (with_reducible exact ih0 _ _)
      | (with_reducible exact ih1 _ _ _)
      | (with_reducible exact ih2 _ _ _ _ _)
      | (with_reducible exact ih3 _ _ _ _ _ _)
      | (with_reducible exact ih4 _ _ _ _ _)
      | (with_reducible exact ih5 _ _ _ _ _ _ _ _)
      | (with_reducible exact ih6 _ _ _)
      | (with_reducible exact LeO.refl _)
      | (with_reducible exact LeO.none _)
      | (with_reducible refine LeO.ite ?_ ?_)
      | (with_reducible refine LeO.bind ?_ (fun _ => ?_))
      | exact ih0 _ _
      | exact ih1 _ _ _
      | exact ih2 _ _ _ _ _
      | exact ih3 _ _ _ _ _ _
      | exact ih4 _ _ _ _ _
      | exact ih5 _ _ _ _ _ _ _ _
      | exact ih6 _ _ _
      | exact LeO.none _
      | refine LeO.ite ?_ ?_
      | refine LeO.bind ?_ (fun _ => ?_)
set_option maxHeartbeats 8000000 in
set_option maxRecDepth 100000 in
theorem screeref7_Append_p.calls (k : Nat) (a0 : Int) (A1 : Option Addr) (c1 : Nat) (l1 : List Int) (r : List Int) (w : World) (hr1 : Kd.C (Kd.int .u8) w A1 l1.length l1) (hc1 : l1.length ≤ c1) (h : screeref7_Append_p.f k a0 l1 = some r) :
    Calls Tryd.prog 12 #[.int .i64 a0, .slice A1 l1.length c1] w fun e w' => ∃ v0_ : Value, e = .returned (v0_) ∧ Kd.R (Kd.int .u8) 5 w' w.heap.size (fun _ => True) v0_ r ∧ Below w.heap.size w w' := by
  have HR1 := Aside0.mk hr1
  have HC1 := Aside0.mk hc1
  clear hr1 hc1
  have HB := Aside0.mk (Below.refl w.heap.size w)
  have H : (if a0 < 0 then (screeref7_Append_p.j0 k 0 l1) else (screeref7_Append_p.j0 k a0 l1)) = some r := h
  clear h
  have HC3 := Aside0.mk H
  clear H
  go_enter Tryd.func12, Tryd.ntmps12
  go_upto_if 14 with (fail)
  (try (obtain ⟨tb1_, hTB1_⟩ : ∃ tb_ : Bool, (decide (a0 < 0)) = tb_ := ⟨_, rfl⟩; simp only [hTB1_]; have TB1_ := Aside0.mk hTB1_; clear hTB1_))
  go_cut [0] (fun v0 wc => ∃ (kq : Nat) (x0_2 : Int), v0 = .int .i64 x0_2 ∧ Aside0 (screeref7_Append_p.j0 kq x0_2 l1 = some r) ∧ Aside0 (kq ≤ k) ∧ Aside0 (Below w.heap.size w wc))
  case first =>
    have H := HC3.out
    clear HC3
    by_cases c4 : a0 < 0
    · rw [if_pos c4] at H
      have c4b0 : decide (a0 < 0) = true := decide_eq_true c4
      (try (obtain rfl := TB1_.out.symm.trans c4b0))
      clear c4
      (first | rw [c4b0] | (simp only [i64_w, i32_w]; rw [c4b0]) | skip)
      have H' := Aside0.mk H
      clear H
      go_wp2
      go_meet
      case rel => exact ⟨_, (0), (by first | rfl | (simp; done) | (simp [*]; done)), H', ⟨by first | omega | exact Nat.le_refl _⟩, ⟨by repeat (first | (with_reducible first | exact HB.out | apply below_alloc | apply pw_below_drewN | apply below_drew1) | exact HB.out)⟩⟩
    · rw [if_neg c4] at H
      have c4b0 : decide (a0 < 0) = false := decide_eq_false c4
      (try (obtain rfl := TB1_.out.symm.trans c4b0))
      clear c4
      (first | rw [c4b0] | (simp only [i64_w, i32_w]; rw [c4b0]) | skip)
      have H' := Aside0.mk H
      clear H
      go_wp2
      go_meet
      case rel => exact ⟨_, (a0), (by first | rfl | (simp; done) | (simp [*]; done)), H', ⟨by first | omega | exact Nat.le_refl _⟩, ⟨by repeat (first | (with_reducible first | exact HB.out | apply below_alloc | apply pw_below_drewN | apply below_drew1) | exact HB.out)⟩⟩
  case rest =>
    clear HC3
    try clear c1
    try clear p2
    try clear c4
    try clear c4b0
    obtain ⟨kq, x0_2, rfl, HA, HJ2, HB⟩ := hcut
    cases kq with
    | zero => exact absurd HA.out (by simp [screeref7_Append_p.j0])
    | succ kj2 =>
      have H := HA.out
      clear HA
      simp only [screeref7_Append_p.j0] at H
      have HC5 := Aside0.mk H
      clear H
      go_upto_if 19 with (fail)
      (try (obtain ⟨tb2_, hTB2_⟩ : ∃ tb_ : Bool, (decide ((wrap64 (512 - (Int.tmod x0_2 512))) < 8)) = tb_ := ⟨_, rfl⟩; simp only [hTB2_]; have TB2_ := Aside0.mk hTB2_; clear hTB2_))
      go_cut [5, 6] (fun v5 v6 wc => ∃ (kq : Nat) (x5_4 : Int) (x6_4 : List Int), v5 = .int .i64 x5_4 ∧ Aside0 (screeref7_Append_p.j2 kq l1 x5_4 x6_4 = some r) ∧ Aside0 (kq ≤ kj2) ∧ Aside0 (Kd.R (Kd.int .u8) 5 wc w.heap.size (fun _ => True) v6 x6_4) ∧ Aside0 (Below w.heap.size w wc))
      case first =>
        have H := HC5.out
        clear HC5
        by_cases c6 : (wrap64 (512 - (Int.tmod x0_2 512))) < 8
        · rw [if_pos c6] at H
          have c6b0 : decide ((wrap64 (512 - (Int.tmod x0_2 512))) < 8) = true := decide_eq_true c6
          (try (obtain rfl := TB2_.out.symm.trans c6b0))
          clear c6
          (first | rw [c6b0] | (simp only [i64_w, i32_w]; rw [c6b0]) | skip)
          have H' := Aside0.mk H
          clear H
          go_wp2
          go_loopg [5, 6] kj2 (fun kq v5 v6 w' => ∃ (x5_2 : Int) (x6_2 : List Int), v5 = .int .i64 x5_2 ∧ Aside0 (screeref7_Append_p.l0 kq l1 x5_2 x6_2 = some r) ∧ Aside0 (kq ≤ kj2) ∧ Aside0 (Kd.R (Kd.int .u8) 5 w' w.heap.size (fun _ => True) v6 x6_2) ∧ Aside0 (Below w.heap.size w w'))
          case atStart => exact ⟨(Int.tmod x0_2 512), (([] : List Int)), (by first | rfl | (simp; done) | (simp [*]; done)), H', ⟨Nat.le_refl _⟩, ⟨by first | exact Kd.R_nil _ _ _ _ _ | exact Kd.N_nil _ _ _ _ _ | exact Kd.V_nil _ _ _ _ _ | exact Kd.Q_nil _ _ _ _ _ | exact Kd.S_nil _ _ _ _ _⟩, ⟨by repeat (first | (with_reducible first | exact HB.out | apply below_alloc | apply pw_below_drewN | apply below_drew1) | exact HB.out)⟩⟩
          case round =>
            clear H'
            try clear c1
            try clear p2
            try clear c4
            try clear c4b0
            try clear c6
            try clear c6b0
            try clear p6
            try clear p2
            obtain ⟨x5_2, x6_2, rfl, HA, HK2, HO_6, HB⟩ := hrel
            cases gk with
            | zero => exact absurd HA.out (by simp [screeref7_Append_p.l0])
            | succ k2 =>
              have H := HA.out
              clear HA
              simp only [screeref7_Append_p.l0] at H
              by_cases c7 : x5_2 < 512
              · rw [if_pos c7] at H
                have c7b0 : decide (x5_2 < 512) = true := decide_eq_true c7
                clear c7
                by_cases c8 : x6_2.length < 140737488355328
                · rw [if_pos c8] at H
                  have LMc8 := Aside0.mk c8
                  clear c8
                  obtain ⟨y133, hy133⟩ : ∃ y_ : List Int, y_ = (x6_2 ++ [0]) := ⟨_, rfl⟩
                  replace H : (screeref7_Append_p.l0 k2 l1 (wrap64 (x5_2 + 1)) y133) = some r := by first | (rw [hy133]; with_reducible exact H) | (have H2_ := (Option.bind_some _ _).symm.trans H; rw [hy133]; with_reducible exact H2_) | (have H2_ := (Option.bind_some _ _).symm.trans H; with_reducible exact H2_) | with_reducible exact H | (rw [hy133]; exact H) | exact H
                  have Ny133 := Aside0.mk hy133
                  clear hy133
                  have H' := Aside0.mk H
                  clear H
                  go_wp2_with (first | ((with_reducible refine gate_builtin (b := .append) (xs := #[.tmp 22, .tmp 23]) rfl ?_); (try (refine gate_guard (by rfl) ?_; dsimp only)); at_builtin; refine Kd.R_append (Kd.int .u8) (w0 := w) w.heap.size rfl (.tmp 22) (.tmp 23) 22 5 (.int .u8 0) 1 rfl Tryd.underlying22 info5 rfl (by decide) (by omega) u6 x6_2 0 [.int .u8 0] (fun _ => True) (fun _ => False) rfl rfl ?aP (fun _ hk => hk.elim) ?aF ?aO ?aB ?aS ?aL ?_; (case aP => exact rfl); (case aB => exact (by repeat (first | (with_reducible first | exact HB.out | apply below_alloc | apply pw_below_drewN | apply below_drew1) | exact HB.out))); (case aF => exact (fun _ _ => trivial)); (case aO => exact (by (with_reducible repeat (first | apply Kd.R_alloc | apply Kd.R_drewN | apply Kd.R_drew)); exact HO_6.out)); (case aS => exact (below_size (by repeat (first | (with_reducible first | exact HB.out | apply below_alloc | apply pw_below_drewN | apply below_drew1) | exact HB.out)))); (case aL => have := LMc8.out; omega); intro v134 w9 ho hb hg hat; rw [← Ny133.out] at ho; have n0_ := Aside0.mk (hb); have n1_ := Aside0.mk (ho); clear HB; clear HO_6; have HB := n0_; have HO135 := n1_; clear n0_ n1_; clear ho hb hg hat))
                  go_roundg k2
                  case measure => have := HJ2.out; have := HK2.out; omega
                  case rel => exact ⟨(wrap64 (x5_2 + 1)), (y133), (by first | rfl | (simp; done) | (simp [*]; done)), H', ⟨by have := HJ2.out; have := HK2.out; omega⟩, ⟨by (with_reducible repeat (first | apply Kd.R_alloc | apply Kd.R_drewN | apply Kd.R_drew)); exact HO135.out⟩, ⟨by repeat (first | (with_reducible first | exact HB.out | apply below_alloc | apply pw_below_drewN | apply below_drew1) | exact HB.out)⟩⟩
                · rw [if_neg c8] at H
                  exact absurd H (by simp)
              · rw [if_neg c7] at H
                have c7b0 : decide (x5_2 < 512) = false := decide_eq_false c7
                clear c7
                have H' := Aside0.mk H
                clear H
                go_wp2
                go_meet
                case rel => exact ⟨_, (0), (x6_2), (by first | rfl | (simp; done) | (simp [*]; done)), H', ⟨by have := HJ2.out; have := HK2.out; first | omega | exact Nat.le_refl _⟩, ⟨by (with_reducible repeat (first | apply Kd.R_alloc | apply Kd.R_drewN | apply Kd.R_drew)); exact HO_6.out⟩, ⟨by repeat (first | (with_reducible first | exact HB.out | apply below_alloc | apply pw_below_drewN | apply below_drew1) | exact HB.out)⟩⟩
        · rw [if_neg c6] at H
          have c6b0 : decide ((wrap64 (512 - (Int.tmod x0_2 512))) < 8) = false := decide_eq_false c6
          (try (obtain rfl := TB2_.out.symm.trans c6b0))
          clear c6
          (first | rw [c6b0] | (simp only [i64_w, i32_w]; rw [c6b0]) | skip)
          have H' := Aside0.mk H
          clear H
          go_wp2
          go_meet
          case rel => exact ⟨_, (Int.tmod x0_2 512), (([] : List Int)), (by first | rfl | (simp; done) | (simp [*]; done)), H', ⟨by have := HJ2.out; first | omega | exact Nat.le_refl _⟩, ⟨by first | exact Kd.R_nil _ _ _ _ _ | exact Kd.N_nil _ _ _ _ _ | exact Kd.V_nil _ _ _ _ _ | exact Kd.Q_nil _ _ _ _ _ | exact Kd.S_nil _ _ _ _ _⟩, ⟨by repeat (first | (with_reducible first | exact HB.out | apply below_alloc | apply pw_below_drewN | apply below_drew1) | exact HB.out)⟩⟩
      case rest =>
        clear HC5
        try clear c1
        try clear p2
        try clear c4
        try clear c4b0
        try clear c6
        try clear c6b0
        try clear p6
        try clear c7
        try clear c7b0
        try clear c8
        try clear p2
        try clear p6
        obtain ⟨kq, x5_4, x6_4, rfl, HA, HJ4, HO_6, HB⟩ := hcut
        cases kq with
        | zero => exact absurd HA.out (by simp [screeref7_Append_p.j2])
        | succ kj4 =>
          have H := HA.out
          clear HA
          simp only [screeref7_Append_p.j2] at H
          have H' := Aside0.mk H
          clear H
          go_wp2
          go_loopg [5, 6, 7, 8] kj4 (fun kq v5 v6 v7 v8 w' => ∃ (x5_3 : Int) (x6_3 : List Int) (x7_3 : Int) (x8_3 : Bool), v5 = .int .i64 x5_3 ∧ v7 = .int .i64 x7_3 ∧ v8 = .bool x8_3 ∧ Aside0 (screeref7_Append_p.l1 kq l1 x5_3 x6_3 x7_3 x8_3 = some r) ∧ Aside0 (kq ≤ kj4) ∧ Aside0 (Kd.R (Kd.int .u8) 5 w' w.heap.size (fun _ => True) v6 x6_3) ∧ Aside0 (Below w.heap.size w w'))
          case atStart => exact ⟨(x5_4), (x6_4), (0), (true), (by first | rfl | (simp; done) | (simp [*]; done)), (by first | rfl | (simp; done) | (simp [*]; done)), (by first | rfl | (simp; done) | (simp [*]; done)), H', ⟨Nat.le_refl _⟩, ⟨by (with_reducible repeat (first | apply Kd.R_alloc | apply Kd.R_drewN | apply Kd.R_drew)); exact HO_6.out⟩, ⟨by repeat (first | (with_reducible first | exact HB.out | apply below_alloc | apply pw_below_drewN | apply below_drew1) | exact HB.out)⟩⟩
          case round =>
            clear H'
            try clear c1
            try clear p2
            try clear c4
            try clear c4b0
            try clear c6
            try clear c6b0
            try clear p6
            try clear c7
            try clear c7b0
            try clear c8
            try clear p2
            try clear p6
            obtain ⟨x5_3, x6_3, x7_3, x8_3, rfl, rfl, rfl, HA, HK3, HO_6, HB⟩ := hrel
            cases gk with
            | zero => exact absurd HA.out (by simp [screeref7_Append_p.l1])
            | succ k3 =>
              have H := HA.out
              clear HA
              simp only [screeref7_Append_p.l1] at H
              have HC10 := Aside0.mk H
              clear H
              go_upto_region 12 with (fail)
              go_cut [33] (fun v33 wc => ∃ (kq : Nat) (x33_9 : Bool), v33 = .bool x33_9 ∧ Aside0 (screeref7_Append_p.j4 kq l1 x5_3 x6_3 x7_3 x8_3 x33_9 = some r) ∧ Aside0 (kq ≤ k3) ∧ Aside0 (Kd.R (Kd.int .u8) 5 wc w.heap.size (fun _ => True) u6 x6_3) ∧ Aside0 (Below w.heap.size w wc))
              case first =>
                have H := HC10.out
                clear HC10
                by_cases c11 : x8_3 = true
                · subst c11
                  have H1 : (screeref7_Append_p.j4 k3 l1 x5_3 x6_3 x7_3 true true) = some r := by rw [if_pos rfl] at H; exact H
                  clear H
                  have H := H1
                  clear H1
                  have H' := Aside0.mk H
                  clear H
                  go_wp2
                  go_meet
                  case rel => exact ⟨_, (true), (by first | rfl | (simp; done) | (simp [*]; done)), H', ⟨by have := HJ2.out; have := HJ4.out; have := HK3.out; first | omega | exact Nat.le_refl _⟩, ⟨by (with_reducible repeat (first | apply Kd.R_alloc | apply Kd.R_drewN | apply Kd.R_drew)); exact HO_6.out⟩, ⟨by repeat (first | (with_reducible first | exact HB.out | apply below_alloc | apply pw_below_drewN | apply below_drew1) | exact HB.out)⟩⟩
                · replace c11 := Bool.eq_false_iff.mpr c11
                  subst c11
                  have H1 : (screeref7_Append_p.j4 k3 l1 x5_3 x6_3 x7_3 false (decide (x7_3 < (l1.length : Int)))) = some r := by rw [if_neg (show ¬ (false = true) by decide)] at H; exact H
                  clear H
                  have H := H1
                  clear H1
                  have H' := Aside0.mk H
                  clear H
                  go_wp2
                  go_meet
                  case rel => exact ⟨_, (decide (x7_3 < (l1.length : Int))), (by first | rfl | (simp; done) | (simp [*]; done)), H', ⟨by have := HJ2.out; have := HJ4.out; have := HK3.out; first | omega | exact Nat.le_refl _⟩, ⟨by (with_reducible repeat (first | apply Kd.R_alloc | apply Kd.R_drewN | apply Kd.R_drew)); exact HO_6.out⟩, ⟨by repeat (first | (with_reducible first | exact HB.out | apply below_alloc | apply pw_below_drewN | apply below_drew1) | exact HB.out)⟩⟩
              case rest =>
                clear HC10
                try clear c1
                try clear p2
                try clear c4
                try clear c4b0
                try clear c6
                try clear c6b0
                try clear p6
                try clear c7
                try clear c7b0
                try clear c8
                try clear c11
                try clear p2
                try clear p6
                obtain ⟨kq, x33_9, rfl, HA, HJ9, HO_6, HB⟩ := hcut
                cases kq with
                | zero => exact absurd HA.out (by simp [screeref7_Append_p.j4])
                | succ kj9 =>
                  have H := HA.out
                  clear HA
                  simp only [screeref7_Append_p.j4] at H
                  by_cases c12 : x33_9 = true
                  · subst c12
                    have H1 : (if (wrap64 ((l1.length : Int) - x7_3)) < (wrap64 ((wrap64 (512 - x5_3)) - 7)) then (screeref7_Append_p.j5 kj9 l1 x6_3 x7_3 x8_3 (wrap64 ((l1.length : Int) - x7_3))) else (screeref7_Append_p.j5 kj9 l1 x6_3 x7_3 x8_3 (wrap64 ((wrap64 (512 - x5_3)) - 7)))) = some r := by rw [if_pos rfl] at H; exact H
                    clear H
                    have H := H1
                    clear H1
                    have HC13 := Aside0.mk H
                    clear H
                    go_upto_if 42 with (fail)
                    (try (obtain ⟨tb3_, hTB3_⟩ : ∃ tb_ : Bool, (decide ((wrap64 ((l1.length : Int) - x7_3)) < (wrap64 ((wrap64 (512 - x5_3)) - 7)))) = tb_ := ⟨_, rfl⟩; simp only [hTB3_]; have TB3_ := Aside0.mk hTB3_; clear hTB3_))
                    go_cut [9] (fun v9 wc => ∃ (kq : Nat) (x9_12 : Int), v9 = .int .i64 x9_12 ∧ Aside0 (screeref7_Append_p.j5 kq l1 x6_3 x7_3 x8_3 x9_12 = some r) ∧ Aside0 (kq ≤ kj9) ∧ Aside0 (Kd.R (Kd.int .u8) 5 wc w.heap.size (fun _ => True) u6 x6_3) ∧ Aside0 (Below w.heap.size w wc))
                    case first =>
                      have H := HC13.out
                      clear HC13
                      by_cases c14 : (wrap64 ((l1.length : Int) - x7_3)) < (wrap64 ((wrap64 (512 - x5_3)) - 7))
                      · rw [if_pos c14] at H
                        have c14b0 : decide ((wrap64 ((l1.length : Int) - x7_3)) < (wrap64 ((wrap64 (512 - x5_3)) - 7))) = true := decide_eq_true c14
                        (try (obtain rfl := TB3_.out.symm.trans c14b0))
                        clear c14
                        (first | rw [c14b0] | (simp only [i64_w, i32_w]; rw [c14b0]) | skip)
                        have H' := Aside0.mk H
                        clear H
                        go_wp2
                        go_meet
                        case rel => exact ⟨_, (wrap64 ((l1.length : Int) - x7_3)), (by first | rfl | (simp; done) | (simp [*]; done)), H', ⟨by have := HJ2.out; have := HJ4.out; have := HK3.out; have := HJ9.out; first | omega | exact Nat.le_refl _⟩, ⟨by (with_reducible repeat (first | apply Kd.R_alloc | apply Kd.R_drewN | apply Kd.R_drew)); exact HO_6.out⟩, ⟨by repeat (first | (with_reducible first | exact HB.out | apply below_alloc | apply pw_below_drewN | apply below_drew1) | exact HB.out)⟩⟩
                      · rw [if_neg c14] at H
                        have c14b0 : decide ((wrap64 ((l1.length : Int) - x7_3)) < (wrap64 ((wrap64 (512 - x5_3)) - 7))) = false := decide_eq_false c14
                        (try (obtain rfl := TB3_.out.symm.trans c14b0))
                        clear c14
                        (first | rw [c14b0] | (simp only [i64_w, i32_w]; rw [c14b0]) | skip)
                        have H' := Aside0.mk H
                        clear H
                        go_wp2
                        go_meet
                        case rel => exact ⟨_, (wrap64 ((wrap64 (512 - x5_3)) - 7)), (by first | rfl | (simp; done) | (simp [*]; done)), H', ⟨by have := HJ2.out; have := HJ4.out; have := HK3.out; have := HJ9.out; first | omega | exact Nat.le_refl _⟩, ⟨by (with_reducible repeat (first | apply Kd.R_alloc | apply Kd.R_drewN | apply Kd.R_drew)); exact HO_6.out⟩, ⟨by repeat (first | (with_reducible first | exact HB.out | apply below_alloc | apply pw_below_drewN | apply below_drew1) | exact HB.out)⟩⟩
                    case rest =>
                      clear HC13
                      try clear c1
                      try clear p2
                      try clear c4
                      try clear c4b0
                      try clear c6
                      try clear c6b0
                      try clear p6
                      try clear c7
                      try clear c7b0
                      try clear c8
                      try clear c11
                      try clear c12
                      try clear c14
                      try clear c14b0
                      try clear p2
                      try clear p6
                      obtain ⟨kq, x9_12, rfl, HA, HJ12, HO_6, HB⟩ := hcut
                      cases kq with
                      | zero => exact absurd HA.out (by simp [screeref7_Append_p.j5])
                      | succ kj12 =>
                        have H := HA.out
                        clear HA
                        simp only [screeref7_Append_p.j5] at H
                        have HC15 := Aside0.mk H
                        clear H
                        go_upto_region 19 with (fail)
                        go_cut [56] (fun v56 wc => ∃ (kq : Nat) (x56_14 : Bool), v56 = .bool x56_14 ∧ Aside0 (screeref7_Append_p.j6 kq l1 x6_3 x7_3 x8_3 x9_12 ((wrap64 (x7_3 + x9_12)) == (l1.length : Int)) 3 x56_14 = some r) ∧ Aside0 (kq ≤ kj12) ∧ Aside0 (Kd.R (Kd.int .u8) 5 wc w.heap.size (fun _ => True) u6 x6_3) ∧ Aside0 (Below w.heap.size w wc))
                        case first =>
                          have H := HC15.out
                          clear HC15
                          by_cases c16 : x8_3 = true
                          · subst c16
                            have H1 : (screeref7_Append_p.j6 kj12 l1 x6_3 x7_3 true x9_12 ((wrap64 (x7_3 + x9_12)) == (l1.length : Int)) 3 ((wrap64 (x7_3 + x9_12)) == (l1.length : Int))) = some r := by rw [if_pos rfl] at H; exact H
                            clear H
                            have H := H1
                            clear H1
                            have H' := Aside0.mk H
                            clear H
                            go_wp2
                            go_meet
                            case rel => exact ⟨_, (((wrap64 (x7_3 + x9_12)) == (l1.length : Int))), (by first | rfl | (simp; done) | (simp [*]; done)), H', ⟨by have := HJ2.out; have := HJ4.out; have := HK3.out; have := HJ9.out; have := HJ12.out; first | omega | exact Nat.le_refl _⟩, ⟨by (with_reducible repeat (first | apply Kd.R_alloc | apply Kd.R_drewN | apply Kd.R_drew)); exact HO_6.out⟩, ⟨by repeat (first | (with_reducible first | exact HB.out | apply below_alloc | apply pw_below_drewN | apply below_drew1) | exact HB.out)⟩⟩
                          · replace c16 := Bool.eq_false_iff.mpr c16
                            subst c16
                            have H1 : (screeref7_Append_p.j6 kj12 l1 x6_3 x7_3 false x9_12 ((wrap64 (x7_3 + x9_12)) == (l1.length : Int)) 3 false) = some r := by rw [if_neg (show ¬ (false = true) by decide)] at H; exact H
                            clear H
                            have H := H1
                            clear H1
                            have H' := Aside0.mk H
                            clear H
                            go_wp2
                            go_meet
                            case rel => exact ⟨_, (false), (by first | rfl | (simp; done) | (simp [*]; done)), H', ⟨by have := HJ2.out; have := HJ4.out; have := HK3.out; have := HJ9.out; have := HJ12.out; first | omega | exact Nat.le_refl _⟩, ⟨by (with_reducible repeat (first | apply Kd.R_alloc | apply Kd.R_drewN | apply Kd.R_drew)); exact HO_6.out⟩, ⟨by repeat (first | (with_reducible first | exact HB.out | apply below_alloc | apply pw_below_drewN | apply below_drew1) | exact HB.out)⟩⟩
                        case rest =>
                          clear HC15
                          try clear c1
                          try clear p2
                          try clear c4
                          try clear c4b0
                          try clear c6
                          try clear c6b0
                          try clear p6
                          try clear c7
                          try clear c7b0
                          try clear c8
                          try clear c11
                          try clear c12
                          try clear c14
                          try clear c14b0
                          try clear c16
                          try clear p2
                          try clear p6
                          obtain ⟨kq, x56_14, rfl, HA, HJ14, HO_6, HB⟩ := hcut
                          cases kq with
                          | zero => exact absurd HA.out (by simp [screeref7_Append_p.j6])
                          | succ kj14 =>
                            have H := HA.out
                            clear HA
                            simp only [screeref7_Append_p.j6] at H
                            by_cases c17 : x56_14 = true
                            · subst c17
                              have H1 : ((some (([(x9_12) % 256, (x9_12 / 256) % 256, 1] : List Int) : List Int)).bind fun y136 => (if 0 ≤ x7_3 then (if x7_3 ≤ (wrap64 (x7_3 + x9_12)) then (if (wrap64 (x7_3 + x9_12)) ≤ (l1.length : Int) then (if y136.length + ((l1.take ((wrap64 (x7_3 + x9_12)) : Int).toNat).drop (x7_3 : Int).toNat).length < 140737488355328 then ((some (y136 ++ ((l1.take ((wrap64 (x7_3 + x9_12)) : Int).toNat).drop (x7_3 : Int).toNat) : List Int)).bind fun y140 => ((screeref2_Sum.f y140).bind fun t143 => ((screeref2_Four.f t143).bind fun t144 => (if x6_3.length + t144.length < 140737488355328 then ((some (x6_3 ++ t144 : List Int)).bind fun y147 => (if y147.length + y140.length < 140737488355328 then (screeref7_Append_p.l1 kj14 l1 0 (y147 ++ y140) (wrap64 (x7_3 + x9_12)) false) else (none))) else (none))))) else (none)) else (none)) else (none)) else (none))) = some r := by rw [if_pos rfl] at H; exact H
                              clear H
                              have H := H1
                              clear H1
                              obtain ⟨y136, hy136⟩ : ∃ y_ : List Int, y_ = (([(x9_12) % 256, (x9_12 / 256) % 256, 1] : List Int)) := ⟨_, rfl⟩
                              replace H : (if 0 ≤ x7_3 then (if x7_3 ≤ (wrap64 (x7_3 + x9_12)) then (if (wrap64 (x7_3 + x9_12)) ≤ (l1.length : Int) then (if y136.length + ((l1.take ((wrap64 (x7_3 + x9_12)) : Int).toNat).drop (x7_3 : Int).toNat).length < 140737488355328 then ((some (y136 ++ ((l1.take ((wrap64 (x7_3 + x9_12)) : Int).toNat).drop (x7_3 : Int).toNat) : List Int)).bind fun y140 => ((screeref2_Sum.f y140).bind fun t143 => ((screeref2_Four.f t143).bind fun t144 => (if x6_3.length + t144.length < 140737488355328 then ((some (x6_3 ++ t144 : List Int)).bind fun y147 => (if y147.length + y140.length < 140737488355328 then (screeref7_Append_p.l1 kj14 l1 0 (y147 ++ y140) (wrap64 (x7_3 + x9_12)) false) else (none))) else (none))))) else (none)) else (none)) else (none)) else (none)) = some r := by first | (rw [hy136]; with_reducible exact H) | (have H2_ := (Option.bind_some _ _).symm.trans H; rw [hy136]; with_reducible exact H2_) | (have H2_ := (Option.bind_some _ _).symm.trans H; with_reducible exact H2_) | with_reducible exact H | (rw [hy136]; exact H) | exact H
                              have Ny136 := Aside0.mk hy136
                              clear hy136
                              by_cases c18 : 0 ≤ x7_3
                              · rw [if_pos c18] at H
                                have c18b0 := eq_true c18
                                have c18b1 : decide (0 ≤ x7_3) = true := decide_eq_true c18
                                clear c18
                                by_cases c19 : x7_3 ≤ (wrap64 (x7_3 + x9_12))
                                · rw [if_pos c19] at H
                                  have c19b0 := eq_true c19
                                  have c19b1 : decide (x7_3 ≤ (wrap64 (x7_3 + x9_12))) = true := decide_eq_true c19
                                  by_cases c20 : (wrap64 (x7_3 + x9_12)) ≤ (l1.length : Int)
                                  · rw [if_pos c20] at H
                                    have c20b0 := eq_true c20
                                    have c20b1 : decide ((wrap64 (x7_3 + x9_12)) ≤ (l1.length : Int)) = true := decide_eq_true c20
                                    by_cases c21 : y136.length + ((l1.take ((wrap64 (x7_3 + x9_12)) : Int).toNat).drop (x7_3 : Int).toNat).length < 140737488355328
                                    · rw [if_pos c21] at H
                                      have LMc21 := Aside0.mk c21
                                      clear c21
                                      obtain ⟨y140, hy140⟩ : ∃ y_ : List Int, y_ = (y136 ++ ((l1.take ((wrap64 (x7_3 + x9_12)) : Int).toNat).drop (x7_3 : Int).toNat)) := ⟨_, rfl⟩
                                      replace H : ((screeref2_Sum.f y140).bind fun t143 => ((screeref2_Four.f t143).bind fun t144 => (if x6_3.length + t144.length < 140737488355328 then ((some (x6_3 ++ t144 : List Int)).bind fun y147 => (if y147.length + y140.length < 140737488355328 then (screeref7_Append_p.l1 kj14 l1 0 (y147 ++ y140) (wrap64 (x7_3 + x9_12)) false) else (none))) else (none)))) = some r := by first | (rw [hy140]; with_reducible exact H) | (have H2_ := (Option.bind_some _ _).symm.trans H; rw [hy140]; with_reducible exact H2_) | (have H2_ := (Option.bind_some _ _).symm.trans H; with_reducible exact H2_) | with_reducible exact H | (rw [hy140]; exact H) | exact H
                                      have Ny140 := Aside0.mk hy140
                                      clear hy140
                                      replace H := Option.bind_eq_some_iff.mp H
                                      obtain ⟨t143, A220, H⟩ := H
                                      replace H : ((screeref2_Four.f t143).bind fun t144 => (if x6_3.length + t144.length < 140737488355328 then ((some (x6_3 ++ t144 : List Int)).bind fun y147 => (if y147.length + y140.length < 140737488355328 then (screeref7_Append_p.l1 kj14 l1 0 (y147 ++ y140) (wrap64 (x7_3 + x9_12)) false) else (none))) else (none))) = some r := H
                                      have A22 := Aside0.mk A220
                                      clear A220
                                      replace H := Option.bind_eq_some_iff.mp H
                                      obtain ⟨t144, A230, H⟩ := H
                                      replace H : (if x6_3.length + t144.length < 140737488355328 then ((some (x6_3 ++ t144 : List Int)).bind fun y147 => (if y147.length + y140.length < 140737488355328 then (screeref7_Append_p.l1 kj14 l1 0 (y147 ++ y140) (wrap64 (x7_3 + x9_12)) false) else (none))) else (none)) = some r := H
                                      have A23 := Aside0.mk A230
                                      clear A230
                                      by_cases c24 : x6_3.length + t144.length < 140737488355328
                                      · rw [if_pos c24] at H
                                        have LMc24 := Aside0.mk c24
                                        clear c24
                                        obtain ⟨y147, hy147⟩ : ∃ y_ : List Int, y_ = (x6_3 ++ t144) := ⟨_, rfl⟩
                                        replace H : (if y147.length + y140.length < 140737488355328 then (screeref7_Append_p.l1 kj14 l1 0 (y147 ++ y140) (wrap64 (x7_3 + x9_12)) false) else (none)) = some r := by first | (rw [hy147]; with_reducible exact H) | (have H2_ := (Option.bind_some _ _).symm.trans H; rw [hy147]; with_reducible exact H2_) | (have H2_ := (Option.bind_some _ _).symm.trans H; with_reducible exact H2_) | with_reducible exact H | (rw [hy147]; exact H) | exact H
                                        have Ny147 := Aside0.mk hy147
                                        clear hy147
                                        by_cases c25 : y147.length + y140.length < 140737488355328
                                        · rw [if_pos c25] at H
                                          have LMc25 := Aside0.mk c25
                                          clear c25
                                          obtain ⟨y150, hy150⟩ : ∃ y_ : List Int, y_ = (y147 ++ y140) := ⟨_, rfl⟩
                                          replace H : (screeref7_Append_p.l1 kj14 l1 0 y150 (wrap64 (x7_3 + x9_12)) false) = some r := by first | (rw [hy150]; with_reducible exact H) | (have H2_ := (Option.bind_some _ _).symm.trans H; rw [hy150]; with_reducible exact H2_) | (have H2_ := (Option.bind_some _ _).symm.trans H; with_reducible exact H2_) | with_reducible exact H | (rw [hy150]; exact H) | exact H
                                          have Ny150 := Aside0.mk hy150
                                          clear hy150
                                          have H' := Aside0.mk H
                                          clear H
                                          go_wp2_with (first | ((with_reducible refine gate_dst (N := 66) rfl ?_); (try (refine gate_guard (by rfl) ?_; dsimp only)); refine Kd.R_lit (Kd.int .u8) _ 5 ?hg (N := 66) ?hd (xs := ([(x9_12) % 256, (x9_12 / 256) % 256, 1] : List Int)) (inner := [.int .u8 ((x9_12) % 256), .int .u8 ((x9_12 / 256) % 256), .int .u8 1]) (ok := fun _ => True) (okp := fun _ => True) ?hr ?hp (fun _ hk => hk) trivial (Below.refl _ _) (Nat.le_refl _) (by simp) ?_; (case hd => rfl); (case hg => rfl); (case hr => first | (go_simp; done) | (go_simp; rfl)); (case hp => exact (Reps.one (show Kd.M (Kd.int .u8) _ _ _ ((x9_12) % 256) [.int .u8 ((x9_12) % 256)] from rfl) (Reps.one (show Kd.M (Kd.int .u8) _ _ _ ((x9_12 / 256) % 256) [.int .u8 ((x9_12 / 256) % 256)] from rfl) (Reps.one (show Kd.M (Kd.int .u8) _ _ _ 1 [.int .u8 1] from rfl) (Reps.none _ _))))); intro v137 w26 ho27 hb hg_ hnew_; clear hg_ hnew_; (first | rw [← Ny136.out] at ho27 | (simp only [Int.reduceToNat] at ho27; rw [← Ny136.out] at ho27)); have n0_ := Aside0.mk (Kd.R_elder' (by (with_reducible repeat (first | apply Kd.R_alloc | apply Kd.R_drewN | apply Kd.R_drew)); exact HO_6.out) (Kd.R_base ho27) hb); have n1_ := Aside0.mk (Kd.R_lower (Kd.R_new' ho27 (Kd.R_lt (by (with_reducible repeat (first | apply Kd.R_alloc | apply Kd.R_drewN | apply Kd.R_drew)); exact HO_6.out))) (below_size (by repeat (first | (with_reducible first | exact HB.out | apply below_alloc | apply pw_below_drewN | apply below_drew1) | exact HB.out)))); have n2_ := Aside0.mk (below_step (by repeat (first | (with_reducible first | exact HB.out | apply below_alloc | apply pw_below_drewN | apply below_drew1) | exact HB.out)) hb); clear HO_6; clear HB; have HO_6 := n0_; have HO138 := n1_; have HB := n2_; clear n0_ n1_ n2_; clear hb ho27; obtain ⟨i028, hi028, _, hsz28, _⟩ := info_parts info5; obtain ⟨A28, hcut28, hA28, hC28⟩ := print_mid_of (P := Tryd.prog) (Value.int .u8) 0 22 5 .i64 .i64 Tryd.underlying22 hi028 hsz28 A1 c1 l1 x7_3 (wrap64 (x7_3 + x9_12)) (of_decide_eq_true (by first | (with_reducible assumption) | assumption)) (by first | omega | exact of_decide_eq_true (by first | (with_reducible assumption) | assumption)) (of_decide_eq_true (by first | (with_reducible assumption) | assumption)) HC1.out; have HR139 := Aside0.mk (Kd.C_of_reads (h1 := fun _ => rfl) (hA28 _ (Kd.reads_of_C HR1.out))); have HC139 := Aside0.mk hC28; clear hA28 hC28 hi028 hsz28) | ((with_reducible refine gate_builtin (b := .append) (xs := #[.tmp 67, .tmp 73]) rfl ?_); (try (refine gate_guard (by rfl) ?_; dsimp only)); at_builtin; refine Kd.R_append_rows (Kd.int .u8) (w0 := w) w.heap.size rfl (.tmp 67) (.tmp 73) 22 5 (.int .u8 0) 1 rfl Tryd.underlying22 info5 rfl (by decide) (by omega) v137 y136 ((l1.take ((wrap64 (x7_3 + x9_12)) : Int).toNat).drop (x7_3 : Int).toNat) _ _ _ (fun k_ => some k_ ≠ (u6 : Value).ownBlock) (fun _ => False) rfl rfl ?aO ?aR (fun _ _ h => h) (fun _ h => h.elim) ?aF ?aB ?aS ?aL ?_; (case aR => first | (rw [← show ((l1.take ((wrap64 (x7_3 + x9_12)) : Int).toNat).drop (x7_3 : Int).toNat).length = ((wrap64 (x7_3 + x9_12)).toNat - x7_3.toNat) from (by rw [List.length_drop, List.length_take]; have h_ : ((wrap64 (x7_3 + x9_12)) : Int) ≤ (l1.length : Int) := of_decide_eq_true (by first | (with_reducible assumption) | assumption); omega)]; repeat (first | exact (Kd.C_below HR139.out HB.out) | (with_reducible refine Kd.C_alloc ?_ _) | (with_reducible refine Kd.C_drewN ?_ _) | (with_reducible refine Kd.C_drew ?_))) | (repeat (first | exact (Kd.C_below HR139.out HB.out) | (with_reducible refine Kd.C_alloc ?_ _) | (with_reducible refine Kd.C_drewN ?_ _) | (with_reducible refine Kd.C_drew ?_)))); (case aB => exact (by repeat (first | (with_reducible first | exact HB.out | apply below_alloc | apply pw_below_drewN | apply below_drew1) | exact HB.out))); (case aF => exact (fun k_ hk => Kd.fresh' (Kd.R_lt (by (with_reducible repeat (first | apply Kd.R_alloc | apply Kd.R_drewN | apply Kd.R_drew)); exact HO_6.out)) k_ hk)); (case aO => exact (by (with_reducible repeat (first | apply Kd.R_alloc | apply Kd.R_drewN | apply Kd.R_drew)); exact Kd.R_mono HO138.out (fun _ hk => hk.2))); (case aS => exact (below_size (by repeat (first | (with_reducible first | exact HB.out | apply below_alloc | apply pw_below_drewN | apply below_drew1) | exact HB.out)))); (case aL => have := LMc21.out; have hlx_ := (show ((l1.take ((wrap64 (x7_3 + x9_12)) : Int).toNat).drop (x7_3 : Int).toNat).length = ((wrap64 (x7_3 + x9_12)).toNat - x7_3.toNat) from (by rw [List.length_drop, List.length_take]; have h_ : ((wrap64 (x7_3 + x9_12)) : Int) ≤ (l1.length : Int) := of_decide_eq_true (by first | (with_reducible assumption) | assumption); omega)); omega); intro v141 w29 ho hb hg hat; rw [← Ny140.out] at ho; have n0_ := Aside0.mk (Kd.R_after (ok := (fun _ => True)) (by (with_reducible repeat (first | apply Kd.R_alloc | apply Kd.R_drewN | apply Kd.R_drew)); exact HO_6.out) hg hat); have n1_ := Aside0.mk (hb); have n2_ := Aside0.mk (ho); clear HO_6; clear HB; clear HO138; have HO_6 := n0_; have HB := n1_; have HO142 := n2_; clear n0_ n1_ n2_; clear ho hb hg hat; obtain ⟨Ao30, co30, eo30⟩ := Kd.R_slice HO142.out; subst eo30) | ((with_reducible refine gate_callee (f := 32) rfl ?_); refine goesL_ (some 77) rfl rfl Tryd.func32 (by kernel_rfl) rfl #[.slice Ao30 y140.length co30] rfl (by (try simp only [List.map_toArray, List.map_cons, List.map_nil]); first | done | rfl | (simp only [List.length_drop, List.length_take]; rfl)) ?_; (with_reducible refine (screeref2_Sum.calls _ _ y140 t143 _ ?side1 ?side2 A22.out).mono ?_); (case side1 => repeat (first | exact (Kd.R_reads' HO142.out).2.2 | (with_reducible refine Kd.C_alloc ?_ _) | (with_reducible refine Kd.C_drewN ?_ _) | (with_reducible refine Kd.C_drew ?_))); (case side2 => exact (Kd.R_reads' HO142.out).2.1); rintro e w' ⟨rfl, ⟨nd, rfl⟩⟩; refine ⟨_, rfl, ?_⟩) | ((with_reducible refine gate_callee (f := 31) rfl ?_); refine goesL_ (some 78) rfl rfl Tryd.func31 (by kernel_rfl) rfl #[.int .u32 t143] rfl (by (try simp only [List.map_toArray, List.map_cons, List.map_nil]); first | done | rfl | (simp only [List.length_drop, List.length_take]; rfl)) ?_; (with_reducible refine (screeref2_Four.calls t143 t144 _ A23.out).mono ?_); rintro e w31 ⟨v145, rfl, ho0, hb⟩; refine ⟨_, rfl, ?_⟩; have n0_ := Aside0.mk (Kd.R_elder' (by (with_reducible repeat (first | apply Kd.R_alloc | apply Kd.R_drewN | apply Kd.R_drew)); exact HO_6.out) (Kd.R_base ho0) hb); have n1_ := Aside0.mk (Kd.R_elder' (by (with_reducible repeat (first | apply Kd.R_alloc | apply Kd.R_drewN | apply Kd.R_drew)); exact HO142.out) (Kd.R_base ho0) hb); have n2_ := Aside0.mk (Kd.R_lower (Kd.R_new' (Kd.R_new' ho0 (Kd.R_lt (by (with_reducible repeat (first | apply Kd.R_alloc | apply Kd.R_drewN | apply Kd.R_drew)); exact HO_6.out))) (Kd.R_lt (by (with_reducible repeat (first | apply Kd.R_alloc | apply Kd.R_drewN | apply Kd.R_drew)); exact HO142.out))) (below_size (by repeat (first | (with_reducible first | exact HB.out | apply below_alloc | apply pw_below_drewN | apply below_drew1) | exact HB.out)))); have n3_ := Aside0.mk (below_step (by repeat (first | (with_reducible first | exact HB.out | apply below_alloc | apply pw_below_drewN | apply below_drew1) | exact HB.out)) hb); clear HO_6; clear HO142; clear HB; have HO_6 := n0_; have HO142 := n1_; have HO146 := n2_; have HB := n3_; clear n0_ n1_ n2_ n3_; (try clear hb); (try clear hb2); (try clear hk); (try clear hi); (try clear ho0); obtain ⟨Ao33, co33, eo33⟩ := Kd.R_slice HO146.out; subst eo33) | ((with_reducible refine gate_builtin (b := .append) (xs := #[.tmp 75, .tmp 78]) rfl ?_); (try (refine gate_guard (by rfl) ?_; dsimp only)); at_builtin; refine Kd.R_append_rows (Kd.int .u8) (w0 := w) w.heap.size rfl (.tmp 75) (.tmp 78) 22 5 (.int .u8 0) 1 rfl Tryd.underlying22 info5 rfl (by decide) (by omega) u6 x6_3 t144 _ _ _ (fun k_ => some k_ ≠ (.slice Ao30 y140.length co30 : Value).ownBlock ∧ some k_ ≠ (.slice Ao33 t144.length co33 : Value).ownBlock) (fun _ => False) rfl rfl ?aO ?aR (fun _ _ h => h) (fun _ h => h.elim) ?aF ?aB ?aS ?aL ?_; (case aR => repeat (first | exact (Kd.R_reads' HO146.out).2.2 | (with_reducible refine Kd.C_alloc ?_ _) | (with_reducible refine Kd.C_drewN ?_ _) | (with_reducible refine Kd.C_drew ?_))); (case aB => exact (by repeat (first | (with_reducible first | exact HB.out | apply below_alloc | apply pw_below_drewN | apply below_drew1) | exact HB.out))); (case aF => exact (fun k_ hk => ⟨Kd.fresh' (Kd.R_lt (by (with_reducible repeat (first | apply Kd.R_alloc | apply Kd.R_drewN | apply Kd.R_drew)); exact HO142.out)) k_ hk, Kd.fresh' (Kd.R_lt (by (with_reducible repeat (first | apply Kd.R_alloc | apply Kd.R_drewN | apply Kd.R_drew)); exact HO146.out)) k_ hk⟩)); (case aO => exact (by (with_reducible repeat (first | apply Kd.R_alloc | apply Kd.R_drewN | apply Kd.R_drew)); exact Kd.R_mono HO_6.out (fun _ hk => ⟨hk.1.2, hk.2⟩))); (case aS => exact (below_size (by repeat (first | (with_reducible first | exact HB.out | apply below_alloc | apply pw_below_drewN | apply below_drew1) | exact HB.out)))); (case aL => have := LMc24.out; omega); intro v148 w32 ho hb hg hat; rw [← Ny147.out] at ho; have n0_ := Aside0.mk (Kd.R_after (ok := (fun k_ => some k_ ≠ (.slice Ao33 t144.length co33 : Value).ownBlock)) (by (with_reducible repeat (first | apply Kd.R_alloc | apply Kd.R_drewN | apply Kd.R_drew)); exact Kd.R_mono HO142.out (fun _ hk => ⟨hk.2, hk.1⟩)) hg hat); have n1_ := Aside0.mk (Kd.R_after (ok := (fun k_ => some k_ ≠ (.slice Ao30 y140.length co30 : Value).ownBlock)) (by (with_reducible repeat (first | apply Kd.R_alloc | apply Kd.R_drewN | apply Kd.R_drew)); exact Kd.R_mono HO146.out (fun _ hk => ⟨hk.2, hk.1.2⟩)) hg hat); have n2_ := Aside0.mk (hb); have n3_ := Aside0.mk (ho); clear HO142; clear HO146; clear HB; clear HO_6; have HO142 := n0_; have HO146 := n1_; have HB := n2_; have HO149 := n3_; clear n0_ n1_ n2_ n3_; clear ho hb hg hat) | ((with_reducible refine gate_builtin (b := .append) (xs := #[.tmp 80, .tmp 81]) rfl ?_); (try (refine gate_guard (by rfl) ?_; dsimp only)); at_builtin; refine Kd.R_append_rows (Kd.int .u8) (w0 := w) w.heap.size rfl (.tmp 80) (.tmp 81) 22 5 (.int .u8 0) 1 rfl Tryd.underlying22 info5 rfl (by decide) (by omega) v148 y147 y140 _ _ _ (fun k_ => some k_ ≠ (.slice Ao30 y140.length co30 : Value).ownBlock ∧ some k_ ≠ (.slice Ao33 t144.length co33 : Value).ownBlock) (fun _ => False) rfl rfl ?aO ?aR (fun _ _ h => h) (fun _ h => h.elim) ?aF ?aB ?aS ?aL ?_; (case aR => repeat (first | exact (Kd.R_reads' HO142.out).2.2 | (with_reducible refine Kd.C_alloc ?_ _) | (with_reducible refine Kd.C_drewN ?_ _) | (with_reducible refine Kd.C_drew ?_))); (case aB => exact (by repeat (first | (with_reducible first | exact HB.out | apply below_alloc | apply pw_below_drewN | apply below_drew1) | exact HB.out))); (case aF => exact (fun k_ hk => ⟨Kd.fresh' (Kd.R_lt (by (with_reducible repeat (first | apply Kd.R_alloc | apply Kd.R_drewN | apply Kd.R_drew)); exact HO142.out)) k_ hk, Kd.fresh' (Kd.R_lt (by (with_reducible repeat (first | apply Kd.R_alloc | apply Kd.R_drewN | apply Kd.R_drew)); exact HO146.out)) k_ hk⟩)); (case aO => exact (by (with_reducible repeat (first | apply Kd.R_alloc | apply Kd.R_drewN | apply Kd.R_drew)); exact HO149.out)); (case aS => exact (below_size (by repeat (first | (with_reducible first | exact HB.out | apply below_alloc | apply pw_below_drewN | apply below_drew1) | exact HB.out)))); (case aL => have := LMc25.out; omega); intro v151 w34 ho hb hg hat; rw [← Ny150.out] at ho; have n0_ := Aside0.mk (Kd.R_after (ok := (fun k_ => some k_ ≠ (.slice Ao33 t144.length co33 : Value).ownBlock)) (by (with_reducible repeat (first | apply Kd.R_alloc | apply Kd.R_drewN | apply Kd.R_drew)); exact HO142.out) hg hat); have n1_ := Aside0.mk (Kd.R_after (ok := (fun k_ => some k_ ≠ (.slice Ao30 y140.length co30 : Value).ownBlock)) (by (with_reducible repeat (first | apply Kd.R_alloc | apply Kd.R_drewN | apply Kd.R_drew)); exact HO146.out) hg hat); have n2_ := Aside0.mk (hb); have n3_ := Aside0.mk (ho); clear HO142; clear HO146; clear HB; clear HO149; have HO142 := n0_; have HO146 := n1_; have HB := n2_; have HO152 := n3_; clear n0_ n1_ n2_ n3_; clear ho hb hg hat))
                                          go_roundg kj14
                                          case measure => have := HJ2.out; have := HJ4.out; have := HK3.out; have := HJ9.out; have := HJ12.out; have := HJ14.out; omega
                                          case rel => exact ⟨(0), (y150), (wrap64 (x7_3 + x9_12)), (false), (by first | rfl | (simp; done) | (simp [*]; done)), (by first | rfl | (simp; done) | (simp [*]; done)), (by first | rfl | (simp; done) | (simp [*]; done)), H', ⟨by have := HJ2.out; have := HJ4.out; have := HK3.out; have := HJ9.out; have := HJ12.out; have := HJ14.out; omega⟩, ⟨by (with_reducible repeat (first | apply Kd.R_alloc | apply Kd.R_drewN | apply Kd.R_drew)); exact Kd.R_mono HO152.out (fun _ hk => trivial)⟩, ⟨by repeat (first | (with_reducible first | exact HB.out | apply below_alloc | apply pw_below_drewN | apply below_drew1) | exact HB.out)⟩⟩
                                        · rw [if_neg c25] at H
                                          exact absurd H (by simp)
                                      · rw [if_neg c24] at H
                                        exact absurd H (by simp)
                                    · rw [if_neg c21] at H
                                      exact absurd H (by simp)
                                  · rw [if_neg c20] at H
                                    exact absurd H (by simp)
                                · rw [if_neg c19] at H
                                  exact absurd H (by simp)
                              · rw [if_neg c18] at H
                                exact absurd H (by simp)
                            · replace c17 := Bool.eq_false_iff.mpr c17
                              subst c17
                              have H1 : (if x8_3 = true then ((some (([(x9_12) % 256, (x9_12 / 256) % 256, 2] : List Int) : List Int)).bind fun y153 => (if 0 ≤ x7_3 then (if x7_3 ≤ (wrap64 (x7_3 + x9_12)) then (if (wrap64 (x7_3 + x9_12)) ≤ (l1.length : Int) then (if y153.length + ((l1.take ((wrap64 (x7_3 + x9_12)) : Int).toNat).drop (x7_3 : Int).toNat).length < 140737488355328 then ((some (y153 ++ ((l1.take ((wrap64 (x7_3 + x9_12)) : Int).toNat).drop (x7_3 : Int).toNat) : List Int)).bind fun y157 => ((screeref2_Sum.f y157).bind fun t160 => ((screeref2_Four.f t160).bind fun t161 => (if x6_3.length + t161.length < 140737488355328 then ((some (x6_3 ++ t161 : List Int)).bind fun y164 => (if y164.length + y157.length < 140737488355328 then (screeref7_Append_p.l1 kj14 l1 0 (y164 ++ y157) (wrap64 (x7_3 + x9_12)) false) else (none))) else (none))))) else (none)) else (none)) else (none)) else (none))) else (if ((wrap64 (x7_3 + x9_12)) == (l1.length : Int)) = true then ((some (([(x9_12) % 256, (x9_12 / 256) % 256, 4] : List Int) : List Int)).bind fun y170 => (if 0 ≤ x7_3 then (if x7_3 ≤ (wrap64 (x7_3 + x9_12)) then (if (wrap64 (x7_3 + x9_12)) ≤ (l1.length : Int) then (if y170.length + ((l1.take ((wrap64 (x7_3 + x9_12)) : Int).toNat).drop (x7_3 : Int).toNat).length < 140737488355328 then ((some (y170 ++ ((l1.take ((wrap64 (x7_3 + x9_12)) : Int).toNat).drop (x7_3 : Int).toNat) : List Int)).bind fun y174 => ((screeref2_Sum.f y174).bind fun t177 => ((screeref2_Four.f t177).bind fun t178 => (if x6_3.length + t178.length < 140737488355328 then ((some (x6_3 ++ t178 : List Int)).bind fun y181 => (if y181.length + y174.length < 140737488355328 then (screeref7_Append_p.l1 kj14 l1 0 (y181 ++ y174) (wrap64 (x7_3 + x9_12)) false) else (none))) else (none))))) else (none)) else (none)) else (none)) else (none))) else ((some (([(x9_12) % 256, (x9_12 / 256) % 256, (3) % 256] : List Int) : List Int)).bind fun y187 => (if 0 ≤ x7_3 then (if x7_3 ≤ (wrap64 (x7_3 + x9_12)) then (if (wrap64 (x7_3 + x9_12)) ≤ (l1.length : Int) then (if y187.length + ((l1.take ((wrap64 (x7_3 + x9_12)) : Int).toNat).drop (x7_3 : Int).toNat).length < 140737488355328 then ((some (y187 ++ ((l1.take ((wrap64 (x7_3 + x9_12)) : Int).toNat).drop (x7_3 : Int).toNat) : List Int)).bind fun y191 => ((screeref2_Sum.f y191).bind fun t194 => ((screeref2_Four.f t194).bind fun t195 => (if x6_3.length + t195.length < 140737488355328 then ((some (x6_3 ++ t195 : List Int)).bind fun y198 => (if y198.length + y191.length < 140737488355328 then (screeref7_Append_p.l1 kj14 l1 0 (y198 ++ y191) (wrap64 (x7_3 + x9_12)) false) else (none))) else (none))))) else (none)) else (none)) else (none)) else (none))))) = some r := by rw [if_neg (show ¬ (false = true) by decide)] at H; exact H
                              clear H
                              have H := H1
                              clear H1
                              by_cases c35 : x8_3 = true
                              · subst c35
                                have H1 : ((some (([(x9_12) % 256, (x9_12 / 256) % 256, 2] : List Int) : List Int)).bind fun y153 => (if 0 ≤ x7_3 then (if x7_3 ≤ (wrap64 (x7_3 + x9_12)) then (if (wrap64 (x7_3 + x9_12)) ≤ (l1.length : Int) then (if y153.length + ((l1.take ((wrap64 (x7_3 + x9_12)) : Int).toNat).drop (x7_3 : Int).toNat).length < 140737488355328 then ((some (y153 ++ ((l1.take ((wrap64 (x7_3 + x9_12)) : Int).toNat).drop (x7_3 : Int).toNat) : List Int)).bind fun y157 => ((screeref2_Sum.f y157).bind fun t160 => ((screeref2_Four.f t160).bind fun t161 => (if x6_3.length + t161.length < 140737488355328 then ((some (x6_3 ++ t161 : List Int)).bind fun y164 => (if y164.length + y157.length < 140737488355328 then (screeref7_Append_p.l1 kj14 l1 0 (y164 ++ y157) (wrap64 (x7_3 + x9_12)) false) else (none))) else (none))))) else (none)) else (none)) else (none)) else (none))) = some r := by rw [if_pos rfl] at H; exact H
                                clear H
                                have H := H1
                                clear H1
                                obtain ⟨y153, hy153⟩ : ∃ y_ : List Int, y_ = (([(x9_12) % 256, (x9_12 / 256) % 256, 2] : List Int)) := ⟨_, rfl⟩
                                replace H : (if 0 ≤ x7_3 then (if x7_3 ≤ (wrap64 (x7_3 + x9_12)) then (if (wrap64 (x7_3 + x9_12)) ≤ (l1.length : Int) then (if y153.length + ((l1.take ((wrap64 (x7_3 + x9_12)) : Int).toNat).drop (x7_3 : Int).toNat).length < 140737488355328 then ((some (y153 ++ ((l1.take ((wrap64 (x7_3 + x9_12)) : Int).toNat).drop (x7_3 : Int).toNat) : List Int)).bind fun y157 => ((screeref2_Sum.f y157).bind fun t160 => ((screeref2_Four.f t160).bind fun t161 => (if x6_3.length + t161.length < 140737488355328 then ((some (x6_3 ++ t161 : List Int)).bind fun y164 => (if y164.length + y157.length < 140737488355328 then (screeref7_Append_p.l1 kj14 l1 0 (y164 ++ y157) (wrap64 (x7_3 + x9_12)) false) else (none))) else (none))))) else (none)) else (none)) else (none)) else (none)) = some r := by first | (rw [hy153]; with_reducible exact H) | (have H2_ := (Option.bind_some _ _).symm.trans H; rw [hy153]; with_reducible exact H2_) | (have H2_ := (Option.bind_some _ _).symm.trans H; with_reducible exact H2_) | with_reducible exact H | (rw [hy153]; exact H) | exact H
                                have Ny153 := Aside0.mk hy153
                                clear hy153
                                by_cases c36 : 0 ≤ x7_3
                                · rw [if_pos c36] at H
                                  have c36b0 := eq_true c36
                                  have c36b1 : decide (0 ≤ x7_3) = true := decide_eq_true c36
                                  clear c36
                                  by_cases c37 : x7_3 ≤ (wrap64 (x7_3 + x9_12))
                                  · rw [if_pos c37] at H
                                    have c37b0 := eq_true c37
                                    have c37b1 : decide (x7_3 ≤ (wrap64 (x7_3 + x9_12))) = true := decide_eq_true c37
                                    by_cases c38 : (wrap64 (x7_3 + x9_12)) ≤ (l1.length : Int)
                                    · rw [if_pos c38] at H
                                      have c38b0 := eq_true c38
                                      have c38b1 : decide ((wrap64 (x7_3 + x9_12)) ≤ (l1.length : Int)) = true := decide_eq_true c38
                                      by_cases c39 : y153.length + ((l1.take ((wrap64 (x7_3 + x9_12)) : Int).toNat).drop (x7_3 : Int).toNat).length < 140737488355328
                                      · rw [if_pos c39] at H
                                        have LMc39 := Aside0.mk c39
                                        clear c39
                                        obtain ⟨y157, hy157⟩ : ∃ y_ : List Int, y_ = (y153 ++ ((l1.take ((wrap64 (x7_3 + x9_12)) : Int).toNat).drop (x7_3 : Int).toNat)) := ⟨_, rfl⟩
                                        replace H : ((screeref2_Sum.f y157).bind fun t160 => ((screeref2_Four.f t160).bind fun t161 => (if x6_3.length + t161.length < 140737488355328 then ((some (x6_3 ++ t161 : List Int)).bind fun y164 => (if y164.length + y157.length < 140737488355328 then (screeref7_Append_p.l1 kj14 l1 0 (y164 ++ y157) (wrap64 (x7_3 + x9_12)) false) else (none))) else (none)))) = some r := by first | (rw [hy157]; with_reducible exact H) | (have H2_ := (Option.bind_some _ _).symm.trans H; rw [hy157]; with_reducible exact H2_) | (have H2_ := (Option.bind_some _ _).symm.trans H; with_reducible exact H2_) | with_reducible exact H | (rw [hy157]; exact H) | exact H
                                        have Ny157 := Aside0.mk hy157
                                        clear hy157
                                        replace H := Option.bind_eq_some_iff.mp H
                                        obtain ⟨t160, A400, H⟩ := H
                                        replace H : ((screeref2_Four.f t160).bind fun t161 => (if x6_3.length + t161.length < 140737488355328 then ((some (x6_3 ++ t161 : List Int)).bind fun y164 => (if y164.length + y157.length < 140737488355328 then (screeref7_Append_p.l1 kj14 l1 0 (y164 ++ y157) (wrap64 (x7_3 + x9_12)) false) else (none))) else (none))) = some r := H
                                        have A40 := Aside0.mk A400
                                        clear A400
                                        replace H := Option.bind_eq_some_iff.mp H
                                        obtain ⟨t161, A410, H⟩ := H
                                        replace H : (if x6_3.length + t161.length < 140737488355328 then ((some (x6_3 ++ t161 : List Int)).bind fun y164 => (if y164.length + y157.length < 140737488355328 then (screeref7_Append_p.l1 kj14 l1 0 (y164 ++ y157) (wrap64 (x7_3 + x9_12)) false) else (none))) else (none)) = some r := H
                                        have A41 := Aside0.mk A410
                                        clear A410
                                        by_cases c42 : x6_3.length + t161.length < 140737488355328
                                        · rw [if_pos c42] at H
                                          have LMc42 := Aside0.mk c42
                                          clear c42
                                          obtain ⟨y164, hy164⟩ : ∃ y_ : List Int, y_ = (x6_3 ++ t161) := ⟨_, rfl⟩
                                          replace H : (if y164.length + y157.length < 140737488355328 then (screeref7_Append_p.l1 kj14 l1 0 (y164 ++ y157) (wrap64 (x7_3 + x9_12)) false) else (none)) = some r := by first | (rw [hy164]; with_reducible exact H) | (have H2_ := (Option.bind_some _ _).symm.trans H; rw [hy164]; with_reducible exact H2_) | (have H2_ := (Option.bind_some _ _).symm.trans H; with_reducible exact H2_) | with_reducible exact H | (rw [hy164]; exact H) | exact H
                                          have Ny164 := Aside0.mk hy164
                                          clear hy164
                                          by_cases c43 : y164.length + y157.length < 140737488355328
                                          · rw [if_pos c43] at H
                                            have LMc43 := Aside0.mk c43
                                            clear c43
                                            obtain ⟨y167, hy167⟩ : ∃ y_ : List Int, y_ = (y164 ++ y157) := ⟨_, rfl⟩
                                            replace H : (screeref7_Append_p.l1 kj14 l1 0 y167 (wrap64 (x7_3 + x9_12)) false) = some r := by first | (rw [hy167]; with_reducible exact H) | (have H2_ := (Option.bind_some _ _).symm.trans H; rw [hy167]; with_reducible exact H2_) | (have H2_ := (Option.bind_some _ _).symm.trans H; with_reducible exact H2_) | with_reducible exact H | (rw [hy167]; exact H) | exact H
                                            have Ny167 := Aside0.mk hy167
                                            clear hy167
                                            have H' := Aside0.mk H
                                            clear H
                                            go_wp2_with (first | ((with_reducible refine gate_dst (N := 66) rfl ?_); (try (refine gate_guard (by rfl) ?_; dsimp only)); refine Kd.R_lit (Kd.int .u8) _ 5 ?hg (N := 66) ?hd (xs := ([(x9_12) % 256, (x9_12 / 256) % 256, 2] : List Int)) (inner := [.int .u8 ((x9_12) % 256), .int .u8 ((x9_12 / 256) % 256), .int .u8 2]) (ok := fun _ => True) (okp := fun _ => True) ?hr ?hp (fun _ hk => hk) trivial (Below.refl _ _) (Nat.le_refl _) (by simp) ?_; (case hd => rfl); (case hg => rfl); (case hr => first | (go_simp; done) | (go_simp; rfl)); (case hp => exact (Reps.one (show Kd.M (Kd.int .u8) _ _ _ ((x9_12) % 256) [.int .u8 ((x9_12) % 256)] from rfl) (Reps.one (show Kd.M (Kd.int .u8) _ _ _ ((x9_12 / 256) % 256) [.int .u8 ((x9_12 / 256) % 256)] from rfl) (Reps.one (show Kd.M (Kd.int .u8) _ _ _ 2 [.int .u8 2] from rfl) (Reps.none _ _))))); intro v154 w44 ho45 hb hg_ hnew_; clear hg_ hnew_; (first | rw [← Ny153.out] at ho45 | (simp only [Int.reduceToNat] at ho45; rw [← Ny153.out] at ho45)); have n0_ := Aside0.mk (Kd.R_elder' (by (with_reducible repeat (first | apply Kd.R_alloc | apply Kd.R_drewN | apply Kd.R_drew)); exact HO_6.out) (Kd.R_base ho45) hb); have n1_ := Aside0.mk (Kd.R_lower (Kd.R_new' ho45 (Kd.R_lt (by (with_reducible repeat (first | apply Kd.R_alloc | apply Kd.R_drewN | apply Kd.R_drew)); exact HO_6.out))) (below_size (by repeat (first | (with_reducible first | exact HB.out | apply below_alloc | apply pw_below_drewN | apply below_drew1) | exact HB.out)))); have n2_ := Aside0.mk (below_step (by repeat (first | (with_reducible first | exact HB.out | apply below_alloc | apply pw_below_drewN | apply below_drew1) | exact HB.out)) hb); clear HO_6; clear HB; have HO_6 := n0_; have HO155 := n1_; have HB := n2_; clear n0_ n1_ n2_; clear hb ho45; obtain ⟨i046, hi046, _, hsz46, _⟩ := info_parts info5; obtain ⟨A46, hcut46, hA46, hC46⟩ := print_mid_of (P := Tryd.prog) (Value.int .u8) 0 22 5 .i64 .i64 Tryd.underlying22 hi046 hsz46 A1 c1 l1 x7_3 (wrap64 (x7_3 + x9_12)) (of_decide_eq_true (by first | (with_reducible assumption) | assumption)) (by first | omega | exact of_decide_eq_true (by first | (with_reducible assumption) | assumption)) (of_decide_eq_true (by first | (with_reducible assumption) | assumption)) HC1.out; have HR156 := Aside0.mk (Kd.C_of_reads (h1 := fun _ => rfl) (hA46 _ (Kd.reads_of_C HR1.out))); have HC156 := Aside0.mk hC46; clear hA46 hC46 hi046 hsz46) | ((with_reducible refine gate_builtin (b := .append) (xs := #[.tmp 67, .tmp 73]) rfl ?_); (try (refine gate_guard (by rfl) ?_; dsimp only)); at_builtin; refine Kd.R_append_rows (Kd.int .u8) (w0 := w) w.heap.size rfl (.tmp 67) (.tmp 73) 22 5 (.int .u8 0) 1 rfl Tryd.underlying22 info5 rfl (by decide) (by omega) v154 y153 ((l1.take ((wrap64 (x7_3 + x9_12)) : Int).toNat).drop (x7_3 : Int).toNat) _ _ _ (fun k_ => some k_ ≠ (u6 : Value).ownBlock) (fun _ => False) rfl rfl ?aO ?aR (fun _ _ h => h) (fun _ h => h.elim) ?aF ?aB ?aS ?aL ?_; (case aR => first | (rw [← show ((l1.take ((wrap64 (x7_3 + x9_12)) : Int).toNat).drop (x7_3 : Int).toNat).length = ((wrap64 (x7_3 + x9_12)).toNat - x7_3.toNat) from (by rw [List.length_drop, List.length_take]; have h_ : ((wrap64 (x7_3 + x9_12)) : Int) ≤ (l1.length : Int) := of_decide_eq_true (by first | (with_reducible assumption) | assumption); omega)]; repeat (first | exact (Kd.C_below HR156.out HB.out) | (with_reducible refine Kd.C_alloc ?_ _) | (with_reducible refine Kd.C_drewN ?_ _) | (with_reducible refine Kd.C_drew ?_))) | (repeat (first | exact (Kd.C_below HR156.out HB.out) | (with_reducible refine Kd.C_alloc ?_ _) | (with_reducible refine Kd.C_drewN ?_ _) | (with_reducible refine Kd.C_drew ?_)))); (case aB => exact (by repeat (first | (with_reducible first | exact HB.out | apply below_alloc | apply pw_below_drewN | apply below_drew1) | exact HB.out))); (case aF => exact (fun k_ hk => Kd.fresh' (Kd.R_lt (by (with_reducible repeat (first | apply Kd.R_alloc | apply Kd.R_drewN | apply Kd.R_drew)); exact HO_6.out)) k_ hk)); (case aO => exact (by (with_reducible repeat (first | apply Kd.R_alloc | apply Kd.R_drewN | apply Kd.R_drew)); exact Kd.R_mono HO155.out (fun _ hk => hk.2))); (case aS => exact (below_size (by repeat (first | (with_reducible first | exact HB.out | apply below_alloc | apply pw_below_drewN | apply below_drew1) | exact HB.out)))); (case aL => have := LMc39.out; have hlx_ := (show ((l1.take ((wrap64 (x7_3 + x9_12)) : Int).toNat).drop (x7_3 : Int).toNat).length = ((wrap64 (x7_3 + x9_12)).toNat - x7_3.toNat) from (by rw [List.length_drop, List.length_take]; have h_ : ((wrap64 (x7_3 + x9_12)) : Int) ≤ (l1.length : Int) := of_decide_eq_true (by first | (with_reducible assumption) | assumption); omega)); omega); intro v158 w47 ho hb hg hat; rw [← Ny157.out] at ho; have n0_ := Aside0.mk (Kd.R_after (ok := (fun _ => True)) (by (with_reducible repeat (first | apply Kd.R_alloc | apply Kd.R_drewN | apply Kd.R_drew)); exact HO_6.out) hg hat); have n1_ := Aside0.mk (hb); have n2_ := Aside0.mk (ho); clear HO_6; clear HB; clear HO155; have HO_6 := n0_; have HB := n1_; have HO159 := n2_; clear n0_ n1_ n2_; clear ho hb hg hat; obtain ⟨Ao48, co48, eo48⟩ := Kd.R_slice HO159.out; subst eo48) | ((with_reducible refine gate_callee (f := 32) rfl ?_); refine goesL_ (some 77) rfl rfl Tryd.func32 (by kernel_rfl) rfl #[.slice Ao48 y157.length co48] rfl (by (try simp only [List.map_toArray, List.map_cons, List.map_nil]); first | done | rfl | (simp only [List.length_drop, List.length_take]; rfl)) ?_; (with_reducible refine (screeref2_Sum.calls _ _ y157 t160 _ ?side1 ?side2 A40.out).mono ?_); (case side1 => repeat (first | exact (Kd.R_reads' HO159.out).2.2 | (with_reducible refine Kd.C_alloc ?_ _) | (with_reducible refine Kd.C_drewN ?_ _) | (with_reducible refine Kd.C_drew ?_))); (case side2 => exact (Kd.R_reads' HO159.out).2.1); rintro e w' ⟨rfl, ⟨nd, rfl⟩⟩; refine ⟨_, rfl, ?_⟩) | ((with_reducible refine gate_callee (f := 31) rfl ?_); refine goesL_ (some 78) rfl rfl Tryd.func31 (by kernel_rfl) rfl #[.int .u32 t160] rfl (by (try simp only [List.map_toArray, List.map_cons, List.map_nil]); first | done | rfl | (simp only [List.length_drop, List.length_take]; rfl)) ?_; (with_reducible refine (screeref2_Four.calls t160 t161 _ A41.out).mono ?_); rintro e w49 ⟨v162, rfl, ho0, hb⟩; refine ⟨_, rfl, ?_⟩; have n0_ := Aside0.mk (Kd.R_elder' (by (with_reducible repeat (first | apply Kd.R_alloc | apply Kd.R_drewN | apply Kd.R_drew)); exact HO_6.out) (Kd.R_base ho0) hb); have n1_ := Aside0.mk (Kd.R_elder' (by (with_reducible repeat (first | apply Kd.R_alloc | apply Kd.R_drewN | apply Kd.R_drew)); exact HO159.out) (Kd.R_base ho0) hb); have n2_ := Aside0.mk (Kd.R_lower (Kd.R_new' (Kd.R_new' ho0 (Kd.R_lt (by (with_reducible repeat (first | apply Kd.R_alloc | apply Kd.R_drewN | apply Kd.R_drew)); exact HO_6.out))) (Kd.R_lt (by (with_reducible repeat (first | apply Kd.R_alloc | apply Kd.R_drewN | apply Kd.R_drew)); exact HO159.out))) (below_size (by repeat (first | (with_reducible first | exact HB.out | apply below_alloc | apply pw_below_drewN | apply below_drew1) | exact HB.out)))); have n3_ := Aside0.mk (below_step (by repeat (first | (with_reducible first | exact HB.out | apply below_alloc | apply pw_below_drewN | apply below_drew1) | exact HB.out)) hb); clear HO_6; clear HO159; clear HB; have HO_6 := n0_; have HO159 := n1_; have HO163 := n2_; have HB := n3_; clear n0_ n1_ n2_ n3_; (try clear hb); (try clear hb2); (try clear hk); (try clear hi); (try clear ho0); obtain ⟨Ao51, co51, eo51⟩ := Kd.R_slice HO163.out; subst eo51) | ((with_reducible refine gate_builtin (b := .append) (xs := #[.tmp 75, .tmp 78]) rfl ?_); (try (refine gate_guard (by rfl) ?_; dsimp only)); at_builtin; refine Kd.R_append_rows (Kd.int .u8) (w0 := w) w.heap.size rfl (.tmp 75) (.tmp 78) 22 5 (.int .u8 0) 1 rfl Tryd.underlying22 info5 rfl (by decide) (by omega) u6 x6_3 t161 _ _ _ (fun k_ => some k_ ≠ (.slice Ao48 y157.length co48 : Value).ownBlock ∧ some k_ ≠ (.slice Ao51 t161.length co51 : Value).ownBlock) (fun _ => False) rfl rfl ?aO ?aR (fun _ _ h => h) (fun _ h => h.elim) ?aF ?aB ?aS ?aL ?_; (case aR => repeat (first | exact (Kd.R_reads' HO163.out).2.2 | (with_reducible refine Kd.C_alloc ?_ _) | (with_reducible refine Kd.C_drewN ?_ _) | (with_reducible refine Kd.C_drew ?_))); (case aB => exact (by repeat (first | (with_reducible first | exact HB.out | apply below_alloc | apply pw_below_drewN | apply below_drew1) | exact HB.out))); (case aF => exact (fun k_ hk => ⟨Kd.fresh' (Kd.R_lt (by (with_reducible repeat (first | apply Kd.R_alloc | apply Kd.R_drewN | apply Kd.R_drew)); exact HO159.out)) k_ hk, Kd.fresh' (Kd.R_lt (by (with_reducible repeat (first | apply Kd.R_alloc | apply Kd.R_drewN | apply Kd.R_drew)); exact HO163.out)) k_ hk⟩)); (case aO => exact (by (with_reducible repeat (first | apply Kd.R_alloc | apply Kd.R_drewN | apply Kd.R_drew)); exact Kd.R_mono HO_6.out (fun _ hk => ⟨hk.1.2, hk.2⟩))); (case aS => exact (below_size (by repeat (first | (with_reducible first | exact HB.out | apply below_alloc | apply pw_below_drewN | apply below_drew1) | exact HB.out)))); (case aL => have := LMc42.out; omega); intro v165 w50 ho hb hg hat; rw [← Ny164.out] at ho; have n0_ := Aside0.mk (Kd.R_after (ok := (fun k_ => some k_ ≠ (.slice Ao51 t161.length co51 : Value).ownBlock)) (by (with_reducible repeat (first | apply Kd.R_alloc | apply Kd.R_drewN | apply Kd.R_drew)); exact Kd.R_mono HO159.out (fun _ hk => ⟨hk.2, hk.1⟩)) hg hat); have n1_ := Aside0.mk (Kd.R_after (ok := (fun k_ => some k_ ≠ (.slice Ao48 y157.length co48 : Value).ownBlock)) (by (with_reducible repeat (first | apply Kd.R_alloc | apply Kd.R_drewN | apply Kd.R_drew)); exact Kd.R_mono HO163.out (fun _ hk => ⟨hk.2, hk.1.2⟩)) hg hat); have n2_ := Aside0.mk (hb); have n3_ := Aside0.mk (ho); clear HO159; clear HO163; clear HB; clear HO_6; have HO159 := n0_; have HO163 := n1_; have HB := n2_; have HO166 := n3_; clear n0_ n1_ n2_ n3_; clear ho hb hg hat) | ((with_reducible refine gate_builtin (b := .append) (xs := #[.tmp 80, .tmp 81]) rfl ?_); (try (refine gate_guard (by rfl) ?_; dsimp only)); at_builtin; refine Kd.R_append_rows (Kd.int .u8) (w0 := w) w.heap.size rfl (.tmp 80) (.tmp 81) 22 5 (.int .u8 0) 1 rfl Tryd.underlying22 info5 rfl (by decide) (by omega) v165 y164 y157 _ _ _ (fun k_ => some k_ ≠ (.slice Ao48 y157.length co48 : Value).ownBlock ∧ some k_ ≠ (.slice Ao51 t161.length co51 : Value).ownBlock) (fun _ => False) rfl rfl ?aO ?aR (fun _ _ h => h) (fun _ h => h.elim) ?aF ?aB ?aS ?aL ?_; (case aR => repeat (first | exact (Kd.R_reads' HO159.out).2.2 | (with_reducible refine Kd.C_alloc ?_ _) | (with_reducible refine Kd.C_drewN ?_ _) | (with_reducible refine Kd.C_drew ?_))); (case aB => exact (by repeat (first | (with_reducible first | exact HB.out | apply below_alloc | apply pw_below_drewN | apply below_drew1) | exact HB.out))); (case aF => exact (fun k_ hk => ⟨Kd.fresh' (Kd.R_lt (by (with_reducible repeat (first | apply Kd.R_alloc | apply Kd.R_drewN | apply Kd.R_drew)); exact HO159.out)) k_ hk, Kd.fresh' (Kd.R_lt (by (with_reducible repeat (first | apply Kd.R_alloc | apply Kd.R_drewN | apply Kd.R_drew)); exact HO163.out)) k_ hk⟩)); (case aO => exact (by (with_reducible repeat (first | apply Kd.R_alloc | apply Kd.R_drewN | apply Kd.R_drew)); exact HO166.out)); (case aS => exact (below_size (by repeat (first | (with_reducible first | exact HB.out | apply below_alloc | apply pw_below_drewN | apply below_drew1) | exact HB.out)))); (case aL => have := LMc43.out; omega); intro v168 w52 ho hb hg hat; rw [← Ny167.out] at ho; have n0_ := Aside0.mk (Kd.R_after (ok := (fun k_ => some k_ ≠ (.slice Ao51 t161.length co51 : Value).ownBlock)) (by (with_reducible repeat (first | apply Kd.R_alloc | apply Kd.R_drewN | apply Kd.R_drew)); exact HO159.out) hg hat); have n1_ := Aside0.mk (Kd.R_after (ok := (fun k_ => some k_ ≠ (.slice Ao48 y157.length co48 : Value).ownBlock)) (by (with_reducible repeat (first | apply Kd.R_alloc | apply Kd.R_drewN | apply Kd.R_drew)); exact HO163.out) hg hat); have n2_ := Aside0.mk (hb); have n3_ := Aside0.mk (ho); clear HO159; clear HO163; clear HB; clear HO166; have HO159 := n0_; have HO163 := n1_; have HB := n2_; have HO169 := n3_; clear n0_ n1_ n2_ n3_; clear ho hb hg hat))
                                            go_roundg kj14
                                            case measure => have := HJ2.out; have := HJ4.out; have := HK3.out; have := HJ9.out; have := HJ12.out; have := HJ14.out; omega
                                            case rel => exact ⟨(0), (y167), (wrap64 (x7_3 + x9_12)), (false), (by first | rfl | (simp; done) | (simp [*]; done)), (by first | rfl | (simp; done) | (simp [*]; done)), (by first | rfl | (simp; done) | (simp [*]; done)), H', ⟨by have := HJ2.out; have := HJ4.out; have := HK3.out; have := HJ9.out; have := HJ12.out; have := HJ14.out; omega⟩, ⟨by (with_reducible repeat (first | apply Kd.R_alloc | apply Kd.R_drewN | apply Kd.R_drew)); exact Kd.R_mono HO169.out (fun _ hk => trivial)⟩, ⟨by repeat (first | (with_reducible first | exact HB.out | apply below_alloc | apply pw_below_drewN | apply below_drew1) | exact HB.out)⟩⟩
                                          · rw [if_neg c43] at H
                                            exact absurd H (by simp)
                                        · rw [if_neg c42] at H
                                          exact absurd H (by simp)
                                      · rw [if_neg c39] at H
                                        exact absurd H (by simp)
                                    · rw [if_neg c38] at H
                                      exact absurd H (by simp)
                                  · rw [if_neg c37] at H
                                    exact absurd H (by simp)
                                · rw [if_neg c36] at H
                                  exact absurd H (by simp)
                              · replace c35 := Bool.eq_false_iff.mpr c35
                                subst c35
                                have H1 : (if ((wrap64 (x7_3 + x9_12)) == (l1.length : Int)) = true then ((some (([(x9_12) % 256, (x9_12 / 256) % 256, 4] : List Int) : List Int)).bind fun y170 => (if 0 ≤ x7_3 then (if x7_3 ≤ (wrap64 (x7_3 + x9_12)) then (if (wrap64 (x7_3 + x9_12)) ≤ (l1.length : Int) then (if y170.length + ((l1.take ((wrap64 (x7_3 + x9_12)) : Int).toNat).drop (x7_3 : Int).toNat).length < 140737488355328 then ((some (y170 ++ ((l1.take ((wrap64 (x7_3 + x9_12)) : Int).toNat).drop (x7_3 : Int).toNat) : List Int)).bind fun y174 => ((screeref2_Sum.f y174).bind fun t177 => ((screeref2_Four.f t177).bind fun t178 => (if x6_3.length + t178.length < 140737488355328 then ((some (x6_3 ++ t178 : List Int)).bind fun y181 => (if y181.length + y174.length < 140737488355328 then (screeref7_Append_p.l1 kj14 l1 0 (y181 ++ y174) (wrap64 (x7_3 + x9_12)) false) else (none))) else (none))))) else (none)) else (none)) else (none)) else (none))) else ((some (([(x9_12) % 256, (x9_12 / 256) % 256, (3) % 256] : List Int) : List Int)).bind fun y187 => (if 0 ≤ x7_3 then (if x7_3 ≤ (wrap64 (x7_3 + x9_12)) then (if (wrap64 (x7_3 + x9_12)) ≤ (l1.length : Int) then (if y187.length + ((l1.take ((wrap64 (x7_3 + x9_12)) : Int).toNat).drop (x7_3 : Int).toNat).length < 140737488355328 then ((some (y187 ++ ((l1.take ((wrap64 (x7_3 + x9_12)) : Int).toNat).drop (x7_3 : Int).toNat) : List Int)).bind fun y191 => ((screeref2_Sum.f y191).bind fun t194 => ((screeref2_Four.f t194).bind fun t195 => (if x6_3.length + t195.length < 140737488355328 then ((some (x6_3 ++ t195 : List Int)).bind fun y198 => (if y198.length + y191.length < 140737488355328 then (screeref7_Append_p.l1 kj14 l1 0 (y198 ++ y191) (wrap64 (x7_3 + x9_12)) false) else (none))) else (none))))) else (none)) else (none)) else (none)) else (none)))) = some r := by rw [if_neg (show ¬ (false = true) by decide)] at H; exact H
                                clear H
                                have H := H1
                                clear H1
                                by_cases c53 : ((wrap64 (x7_3 + x9_12)) == (l1.length : Int)) = true
                                · rw [if_pos c53] at H
                                  have c53b0 : ((wrap64 (x7_3 + x9_12)) == (l1.length : Int)) = true := c53
                                  (try (have c53b1 : decide ((wrap64 (x7_3 + x9_12)) = (l1.length : Int)) = true := by simpa using c53))
                                  (try (have c53b2 : ((wrap64 (x7_3 + x9_12)) == (l1.length : Int)) = true := by simpa using c53))
                                  clear c53
                                  obtain ⟨y170, hy170⟩ : ∃ y_ : List Int, y_ = (([(x9_12) % 256, (x9_12 / 256) % 256, 4] : List Int)) := ⟨_, rfl⟩
                                  replace H : (if 0 ≤ x7_3 then (if x7_3 ≤ (wrap64 (x7_3 + x9_12)) then (if (wrap64 (x7_3 + x9_12)) ≤ (l1.length : Int) then (if y170.length + ((l1.take ((wrap64 (x7_3 + x9_12)) : Int).toNat).drop (x7_3 : Int).toNat).length < 140737488355328 then ((some (y170 ++ ((l1.take ((wrap64 (x7_3 + x9_12)) : Int).toNat).drop (x7_3 : Int).toNat) : List Int)).bind fun y174 => ((screeref2_Sum.f y174).bind fun t177 => ((screeref2_Four.f t177).bind fun t178 => (if x6_3.length + t178.length < 140737488355328 then ((some (x6_3 ++ t178 : List Int)).bind fun y181 => (if y181.length + y174.length < 140737488355328 then (screeref7_Append_p.l1 kj14 l1 0 (y181 ++ y174) (wrap64 (x7_3 + x9_12)) false) else (none))) else (none))))) else (none)) else (none)) else (none)) else (none)) = some r := by first | (rw [hy170]; with_reducible exact H) | (have H2_ := (Option.bind_some _ _).symm.trans H; rw [hy170]; with_reducible exact H2_) | (have H2_ := (Option.bind_some _ _).symm.trans H; with_reducible exact H2_) | with_reducible exact H | (rw [hy170]; exact H) | exact H
                                  have Ny170 := Aside0.mk hy170
                                  clear hy170
                                  by_cases c54 : 0 ≤ x7_3
                                  · rw [if_pos c54] at H
                                    have c54b0 := eq_true c54
                                    have c54b1 : decide (0 ≤ x7_3) = true := decide_eq_true c54
                                    clear c54
                                    by_cases c55 : x7_3 ≤ (wrap64 (x7_3 + x9_12))
                                    · rw [if_pos c55] at H
                                      have c55b0 := eq_true c55
                                      have c55b1 : decide (x7_3 ≤ (wrap64 (x7_3 + x9_12))) = true := decide_eq_true c55
                                      by_cases c56 : (wrap64 (x7_3 + x9_12)) ≤ (l1.length : Int)
                                      · rw [if_pos c56] at H
                                        have c56b0 := eq_true c56
                                        have c56b1 : decide ((wrap64 (x7_3 + x9_12)) ≤ (l1.length : Int)) = true := decide_eq_true c56
                                        by_cases c57 : y170.length + ((l1.take ((wrap64 (x7_3 + x9_12)) : Int).toNat).drop (x7_3 : Int).toNat).length < 140737488355328
                                        · rw [if_pos c57] at H
                                          have LMc57 := Aside0.mk c57
                                          clear c57
                                          obtain ⟨y174, hy174⟩ : ∃ y_ : List Int, y_ = (y170 ++ ((l1.take ((wrap64 (x7_3 + x9_12)) : Int).toNat).drop (x7_3 : Int).toNat)) := ⟨_, rfl⟩
                                          replace H : ((screeref2_Sum.f y174).bind fun t177 => ((screeref2_Four.f t177).bind fun t178 => (if x6_3.length + t178.length < 140737488355328 then ((some (x6_3 ++ t178 : List Int)).bind fun y181 => (if y181.length + y174.length < 140737488355328 then (screeref7_Append_p.l1 kj14 l1 0 (y181 ++ y174) (wrap64 (x7_3 + x9_12)) false) else (none))) else (none)))) = some r := by first | (rw [hy174]; with_reducible exact H) | (have H2_ := (Option.bind_some _ _).symm.trans H; rw [hy174]; with_reducible exact H2_) | (have H2_ := (Option.bind_some _ _).symm.trans H; with_reducible exact H2_) | with_reducible exact H | (rw [hy174]; exact H) | exact H
                                          have Ny174 := Aside0.mk hy174
                                          clear hy174
                                          replace H := Option.bind_eq_some_iff.mp H
                                          obtain ⟨t177, A580, H⟩ := H
                                          replace H : ((screeref2_Four.f t177).bind fun t178 => (if x6_3.length + t178.length < 140737488355328 then ((some (x6_3 ++ t178 : List Int)).bind fun y181 => (if y181.length + y174.length < 140737488355328 then (screeref7_Append_p.l1 kj14 l1 0 (y181 ++ y174) (wrap64 (x7_3 + x9_12)) false) else (none))) else (none))) = some r := H
                                          have A58 := Aside0.mk A580
                                          clear A580
                                          replace H := Option.bind_eq_some_iff.mp H
                                          obtain ⟨t178, A590, H⟩ := H
                                          replace H : (if x6_3.length + t178.length < 140737488355328 then ((some (x6_3 ++ t178 : List Int)).bind fun y181 => (if y181.length + y174.length < 140737488355328 then (screeref7_Append_p.l1 kj14 l1 0 (y181 ++ y174) (wrap64 (x7_3 + x9_12)) false) else (none))) else (none)) = some r := H
                                          have A59 := Aside0.mk A590
                                          clear A590
                                          by_cases c60 : x6_3.length + t178.length < 140737488355328
                                          · rw [if_pos c60] at H
                                            have LMc60 := Aside0.mk c60
                                            clear c60
                                            obtain ⟨y181, hy181⟩ : ∃ y_ : List Int, y_ = (x6_3 ++ t178) := ⟨_, rfl⟩
                                            replace H : (if y181.length + y174.length < 140737488355328 then (screeref7_Append_p.l1 kj14 l1 0 (y181 ++ y174) (wrap64 (x7_3 + x9_12)) false) else (none)) = some r := by first | (rw [hy181]; with_reducible exact H) | (have H2_ := (Option.bind_some _ _).symm.trans H; rw [hy181]; with_reducible exact H2_) | (have H2_ := (Option.bind_some _ _).symm.trans H; with_reducible exact H2_) | with_reducible exact H | (rw [hy181]; exact H) | exact H
                                            have Ny181 := Aside0.mk hy181
                                            clear hy181
                                            by_cases c61 : y181.length + y174.length < 140737488355328
                                            · rw [if_pos c61] at H
                                              have LMc61 := Aside0.mk c61
                                              clear c61
                                              obtain ⟨y184, hy184⟩ : ∃ y_ : List Int, y_ = (y181 ++ y174) := ⟨_, rfl⟩
                                              replace H : (screeref7_Append_p.l1 kj14 l1 0 y184 (wrap64 (x7_3 + x9_12)) false) = some r := by first | (rw [hy184]; with_reducible exact H) | (have H2_ := (Option.bind_some _ _).symm.trans H; rw [hy184]; with_reducible exact H2_) | (have H2_ := (Option.bind_some _ _).symm.trans H; with_reducible exact H2_) | with_reducible exact H | (rw [hy184]; exact H) | exact H
                                              have Ny184 := Aside0.mk hy184
                                              clear hy184
                                              have H' := Aside0.mk H
                                              clear H
                                              go_wp2_with (first | ((with_reducible refine gate_dst (N := 66) rfl ?_); (try (refine gate_guard (by rfl) ?_; dsimp only)); refine Kd.R_lit (Kd.int .u8) _ 5 ?hg (N := 66) ?hd (xs := ([(x9_12) % 256, (x9_12 / 256) % 256, 4] : List Int)) (inner := [.int .u8 ((x9_12) % 256), .int .u8 ((x9_12 / 256) % 256), .int .u8 4]) (ok := fun _ => True) (okp := fun _ => True) ?hr ?hp (fun _ hk => hk) trivial (Below.refl _ _) (Nat.le_refl _) (by simp) ?_; (case hd => rfl); (case hg => rfl); (case hr => first | (go_simp; done) | (go_simp; rfl)); (case hp => exact (Reps.one (show Kd.M (Kd.int .u8) _ _ _ ((x9_12) % 256) [.int .u8 ((x9_12) % 256)] from rfl) (Reps.one (show Kd.M (Kd.int .u8) _ _ _ ((x9_12 / 256) % 256) [.int .u8 ((x9_12 / 256) % 256)] from rfl) (Reps.one (show Kd.M (Kd.int .u8) _ _ _ 4 [.int .u8 4] from rfl) (Reps.none _ _))))); intro v171 w62 ho63 hb hg_ hnew_; clear hg_ hnew_; (first | rw [← Ny170.out] at ho63 | (simp only [Int.reduceToNat] at ho63; rw [← Ny170.out] at ho63)); have n0_ := Aside0.mk (Kd.R_elder' (by (with_reducible repeat (first | apply Kd.R_alloc | apply Kd.R_drewN | apply Kd.R_drew)); exact HO_6.out) (Kd.R_base ho63) hb); have n1_ := Aside0.mk (Kd.R_lower (Kd.R_new' ho63 (Kd.R_lt (by (with_reducible repeat (first | apply Kd.R_alloc | apply Kd.R_drewN | apply Kd.R_drew)); exact HO_6.out))) (below_size (by repeat (first | (with_reducible first | exact HB.out | apply below_alloc | apply pw_below_drewN | apply below_drew1) | exact HB.out)))); have n2_ := Aside0.mk (below_step (by repeat (first | (with_reducible first | exact HB.out | apply below_alloc | apply pw_below_drewN | apply below_drew1) | exact HB.out)) hb); clear HO_6; clear HB; have HO_6 := n0_; have HO172 := n1_; have HB := n2_; clear n0_ n1_ n2_; clear hb ho63; obtain ⟨i064, hi064, _, hsz64, _⟩ := info_parts info5; obtain ⟨A64, hcut64, hA64, hC64⟩ := print_mid_of (P := Tryd.prog) (Value.int .u8) 0 22 5 .i64 .i64 Tryd.underlying22 hi064 hsz64 A1 c1 l1 x7_3 (wrap64 (x7_3 + x9_12)) (of_decide_eq_true (by first | (with_reducible assumption) | assumption)) (by first | omega | exact of_decide_eq_true (by first | (with_reducible assumption) | assumption)) (of_decide_eq_true (by first | (with_reducible assumption) | assumption)) HC1.out; have HR173 := Aside0.mk (Kd.C_of_reads (h1 := fun _ => rfl) (hA64 _ (Kd.reads_of_C HR1.out))); have HC173 := Aside0.mk hC64; clear hA64 hC64 hi064 hsz64) | ((with_reducible refine gate_builtin (b := .append) (xs := #[.tmp 67, .tmp 73]) rfl ?_); (try (refine gate_guard (by rfl) ?_; dsimp only)); at_builtin; refine Kd.R_append_rows (Kd.int .u8) (w0 := w) w.heap.size rfl (.tmp 67) (.tmp 73) 22 5 (.int .u8 0) 1 rfl Tryd.underlying22 info5 rfl (by decide) (by omega) v171 y170 ((l1.take ((wrap64 (x7_3 + x9_12)) : Int).toNat).drop (x7_3 : Int).toNat) _ _ _ (fun k_ => some k_ ≠ (u6 : Value).ownBlock) (fun _ => False) rfl rfl ?aO ?aR (fun _ _ h => h) (fun _ h => h.elim) ?aF ?aB ?aS ?aL ?_; (case aR => first | (rw [← show ((l1.take ((wrap64 (x7_3 + x9_12)) : Int).toNat).drop (x7_3 : Int).toNat).length = ((wrap64 (x7_3 + x9_12)).toNat - x7_3.toNat) from (by rw [List.length_drop, List.length_take]; have h_ : ((wrap64 (x7_3 + x9_12)) : Int) ≤ (l1.length : Int) := of_decide_eq_true (by first | (with_reducible assumption) | assumption); omega)]; repeat (first | exact (Kd.C_below HR173.out HB.out) | (with_reducible refine Kd.C_alloc ?_ _) | (with_reducible refine Kd.C_drewN ?_ _) | (with_reducible refine Kd.C_drew ?_))) | (repeat (first | exact (Kd.C_below HR173.out HB.out) | (with_reducible refine Kd.C_alloc ?_ _) | (with_reducible refine Kd.C_drewN ?_ _) | (with_reducible refine Kd.C_drew ?_)))); (case aB => exact (by repeat (first | (with_reducible first | exact HB.out | apply below_alloc | apply pw_below_drewN | apply below_drew1) | exact HB.out))); (case aF => exact (fun k_ hk => Kd.fresh' (Kd.R_lt (by (with_reducible repeat (first | apply Kd.R_alloc | apply Kd.R_drewN | apply Kd.R_drew)); exact HO_6.out)) k_ hk)); (case aO => exact (by (with_reducible repeat (first | apply Kd.R_alloc | apply Kd.R_drewN | apply Kd.R_drew)); exact Kd.R_mono HO172.out (fun _ hk => hk.2))); (case aS => exact (below_size (by repeat (first | (with_reducible first | exact HB.out | apply below_alloc | apply pw_below_drewN | apply below_drew1) | exact HB.out)))); (case aL => have := LMc57.out; have hlx_ := (show ((l1.take ((wrap64 (x7_3 + x9_12)) : Int).toNat).drop (x7_3 : Int).toNat).length = ((wrap64 (x7_3 + x9_12)).toNat - x7_3.toNat) from (by rw [List.length_drop, List.length_take]; have h_ : ((wrap64 (x7_3 + x9_12)) : Int) ≤ (l1.length : Int) := of_decide_eq_true (by first | (with_reducible assumption) | assumption); omega)); omega); intro v175 w65 ho hb hg hat; rw [← Ny174.out] at ho; have n0_ := Aside0.mk (Kd.R_after (ok := (fun _ => True)) (by (with_reducible repeat (first | apply Kd.R_alloc | apply Kd.R_drewN | apply Kd.R_drew)); exact HO_6.out) hg hat); have n1_ := Aside0.mk (hb); have n2_ := Aside0.mk (ho); clear HO_6; clear HB; clear HO172; have HO_6 := n0_; have HB := n1_; have HO176 := n2_; clear n0_ n1_ n2_; clear ho hb hg hat; obtain ⟨Ao66, co66, eo66⟩ := Kd.R_slice HO176.out; subst eo66) | ((with_reducible refine gate_callee (f := 32) rfl ?_); refine goesL_ (some 77) rfl rfl Tryd.func32 (by kernel_rfl) rfl #[.slice Ao66 y174.length co66] rfl (by (try simp only [List.map_toArray, List.map_cons, List.map_nil]); first | done | rfl | (simp only [List.length_drop, List.length_take]; rfl)) ?_; (with_reducible refine (screeref2_Sum.calls _ _ y174 t177 _ ?side1 ?side2 A58.out).mono ?_); (case side1 => repeat (first | exact (Kd.R_reads' HO176.out).2.2 | (with_reducible refine Kd.C_alloc ?_ _) | (with_reducible refine Kd.C_drewN ?_ _) | (with_reducible refine Kd.C_drew ?_))); (case side2 => exact (Kd.R_reads' HO176.out).2.1); rintro e w' ⟨rfl, ⟨nd, rfl⟩⟩; refine ⟨_, rfl, ?_⟩) | ((with_reducible refine gate_callee (f := 31) rfl ?_); refine goesL_ (some 78) rfl rfl Tryd.func31 (by kernel_rfl) rfl #[.int .u32 t177] rfl (by (try simp only [List.map_toArray, List.map_cons, List.map_nil]); first | done | rfl | (simp only [List.length_drop, List.length_take]; rfl)) ?_; (with_reducible refine (screeref2_Four.calls t177 t178 _ A59.out).mono ?_); rintro e w67 ⟨v179, rfl, ho0, hb⟩; refine ⟨_, rfl, ?_⟩; have n0_ := Aside0.mk (Kd.R_elder' (by (with_reducible repeat (first | apply Kd.R_alloc | apply Kd.R_drewN | apply Kd.R_drew)); exact HO_6.out) (Kd.R_base ho0) hb); have n1_ := Aside0.mk (Kd.R_elder' (by (with_reducible repeat (first | apply Kd.R_alloc | apply Kd.R_drewN | apply Kd.R_drew)); exact HO176.out) (Kd.R_base ho0) hb); have n2_ := Aside0.mk (Kd.R_lower (Kd.R_new' (Kd.R_new' ho0 (Kd.R_lt (by (with_reducible repeat (first | apply Kd.R_alloc | apply Kd.R_drewN | apply Kd.R_drew)); exact HO_6.out))) (Kd.R_lt (by (with_reducible repeat (first | apply Kd.R_alloc | apply Kd.R_drewN | apply Kd.R_drew)); exact HO176.out))) (below_size (by repeat (first | (with_reducible first | exact HB.out | apply below_alloc | apply pw_below_drewN | apply below_drew1) | exact HB.out)))); have n3_ := Aside0.mk (below_step (by repeat (first | (with_reducible first | exact HB.out | apply below_alloc | apply pw_below_drewN | apply below_drew1) | exact HB.out)) hb); clear HO_6; clear HO176; clear HB; have HO_6 := n0_; have HO176 := n1_; have HO180 := n2_; have HB := n3_; clear n0_ n1_ n2_ n3_; (try clear hb); (try clear hb2); (try clear hk); (try clear hi); (try clear ho0); obtain ⟨Ao69, co69, eo69⟩ := Kd.R_slice HO180.out; subst eo69) | ((with_reducible refine gate_builtin (b := .append) (xs := #[.tmp 75, .tmp 78]) rfl ?_); (try (refine gate_guard (by rfl) ?_; dsimp only)); at_builtin; refine Kd.R_append_rows (Kd.int .u8) (w0 := w) w.heap.size rfl (.tmp 75) (.tmp 78) 22 5 (.int .u8 0) 1 rfl Tryd.underlying22 info5 rfl (by decide) (by omega) u6 x6_3 t178 _ _ _ (fun k_ => some k_ ≠ (.slice Ao66 y174.length co66 : Value).ownBlock ∧ some k_ ≠ (.slice Ao69 t178.length co69 : Value).ownBlock) (fun _ => False) rfl rfl ?aO ?aR (fun _ _ h => h) (fun _ h => h.elim) ?aF ?aB ?aS ?aL ?_; (case aR => repeat (first | exact (Kd.R_reads' HO180.out).2.2 | (with_reducible refine Kd.C_alloc ?_ _) | (with_reducible refine Kd.C_drewN ?_ _) | (with_reducible refine Kd.C_drew ?_))); (case aB => exact (by repeat (first | (with_reducible first | exact HB.out | apply below_alloc | apply pw_below_drewN | apply below_drew1) | exact HB.out))); (case aF => exact (fun k_ hk => ⟨Kd.fresh' (Kd.R_lt (by (with_reducible repeat (first | apply Kd.R_alloc | apply Kd.R_drewN | apply Kd.R_drew)); exact HO176.out)) k_ hk, Kd.fresh' (Kd.R_lt (by (with_reducible repeat (first | apply Kd.R_alloc | apply Kd.R_drewN | apply Kd.R_drew)); exact HO180.out)) k_ hk⟩)); (case aO => exact (by (with_reducible repeat (first | apply Kd.R_alloc | apply Kd.R_drewN | apply Kd.R_drew)); exact Kd.R_mono HO_6.out (fun _ hk => ⟨hk.1.2, hk.2⟩))); (case aS => exact (below_size (by repeat (first | (with_reducible first | exact HB.out | apply below_alloc | apply pw_below_drewN | apply below_drew1) | exact HB.out)))); (case aL => have := LMc60.out; omega); intro v182 w68 ho hb hg hat; rw [← Ny181.out] at ho; have n0_ := Aside0.mk (Kd.R_after (ok := (fun k_ => some k_ ≠ (.slice Ao69 t178.length co69 : Value).ownBlock)) (by (with_reducible repeat (first | apply Kd.R_alloc | apply Kd.R_drewN | apply Kd.R_drew)); exact Kd.R_mono HO176.out (fun _ hk => ⟨hk.2, hk.1⟩)) hg hat); have n1_ := Aside0.mk (Kd.R_after (ok := (fun k_ => some k_ ≠ (.slice Ao66 y174.length co66 : Value).ownBlock)) (by (with_reducible repeat (first | apply Kd.R_alloc | apply Kd.R_drewN | apply Kd.R_drew)); exact Kd.R_mono HO180.out (fun _ hk => ⟨hk.2, hk.1.2⟩)) hg hat); have n2_ := Aside0.mk (hb); have n3_ := Aside0.mk (ho); clear HO176; clear HO180; clear HB; clear HO_6; have HO176 := n0_; have HO180 := n1_; have HB := n2_; have HO183 := n3_; clear n0_ n1_ n2_ n3_; clear ho hb hg hat) | ((with_reducible refine gate_builtin (b := .append) (xs := #[.tmp 80, .tmp 81]) rfl ?_); (try (refine gate_guard (by rfl) ?_; dsimp only)); at_builtin; refine Kd.R_append_rows (Kd.int .u8) (w0 := w) w.heap.size rfl (.tmp 80) (.tmp 81) 22 5 (.int .u8 0) 1 rfl Tryd.underlying22 info5 rfl (by decide) (by omega) v182 y181 y174 _ _ _ (fun k_ => some k_ ≠ (.slice Ao66 y174.length co66 : Value).ownBlock ∧ some k_ ≠ (.slice Ao69 t178.length co69 : Value).ownBlock) (fun _ => False) rfl rfl ?aO ?aR (fun _ _ h => h) (fun _ h => h.elim) ?aF ?aB ?aS ?aL ?_; (case aR => repeat (first | exact (Kd.R_reads' HO176.out).2.2 | (with_reducible refine Kd.C_alloc ?_ _) | (with_reducible refine Kd.C_drewN ?_ _) | (with_reducible refine Kd.C_drew ?_))); (case aB => exact (by repeat (first | (with_reducible first | exact HB.out | apply below_alloc | apply pw_below_drewN | apply below_drew1) | exact HB.out))); (case aF => exact (fun k_ hk => ⟨Kd.fresh' (Kd.R_lt (by (with_reducible repeat (first | apply Kd.R_alloc | apply Kd.R_drewN | apply Kd.R_drew)); exact HO176.out)) k_ hk, Kd.fresh' (Kd.R_lt (by (with_reducible repeat (first | apply Kd.R_alloc | apply Kd.R_drewN | apply Kd.R_drew)); exact HO180.out)) k_ hk⟩)); (case aO => exact (by (with_reducible repeat (first | apply Kd.R_alloc | apply Kd.R_drewN | apply Kd.R_drew)); exact HO183.out)); (case aS => exact (below_size (by repeat (first | (with_reducible first | exact HB.out | apply below_alloc | apply pw_below_drewN | apply below_drew1) | exact HB.out)))); (case aL => have := LMc61.out; omega); intro v185 w70 ho hb hg hat; rw [← Ny184.out] at ho; have n0_ := Aside0.mk (Kd.R_after (ok := (fun k_ => some k_ ≠ (.slice Ao69 t178.length co69 : Value).ownBlock)) (by (with_reducible repeat (first | apply Kd.R_alloc | apply Kd.R_drewN | apply Kd.R_drew)); exact HO176.out) hg hat); have n1_ := Aside0.mk (Kd.R_after (ok := (fun k_ => some k_ ≠ (.slice Ao66 y174.length co66 : Value).ownBlock)) (by (with_reducible repeat (first | apply Kd.R_alloc | apply Kd.R_drewN | apply Kd.R_drew)); exact HO180.out) hg hat); have n2_ := Aside0.mk (hb); have n3_ := Aside0.mk (ho); clear HO176; clear HO180; clear HB; clear HO183; have HO176 := n0_; have HO180 := n1_; have HB := n2_; have HO186 := n3_; clear n0_ n1_ n2_ n3_; clear ho hb hg hat))
                                              go_roundg kj14
                                              case measure => have := HJ2.out; have := HJ4.out; have := HK3.out; have := HJ9.out; have := HJ12.out; have := HJ14.out; omega
                                              case rel => exact ⟨(0), (y184), (wrap64 (x7_3 + x9_12)), (false), (by first | rfl | (simp; done) | (simp [*]; done)), (by first | rfl | (simp; done) | (simp [*]; done)), (by first | rfl | (simp; done) | (simp [*]; done)), H', ⟨by have := HJ2.out; have := HJ4.out; have := HK3.out; have := HJ9.out; have := HJ12.out; have := HJ14.out; omega⟩, ⟨by (with_reducible repeat (first | apply Kd.R_alloc | apply Kd.R_drewN | apply Kd.R_drew)); exact Kd.R_mono HO186.out (fun _ hk => trivial)⟩, ⟨by repeat (first | (with_reducible first | exact HB.out | apply below_alloc | apply pw_below_drewN | apply below_drew1) | exact HB.out)⟩⟩
                                            · rw [if_neg c61] at H
                                              exact absurd H (by simp)
                                          · rw [if_neg c60] at H
                                            exact absurd H (by simp)
                                        · rw [if_neg c57] at H
                                          exact absurd H (by simp)
                                      · rw [if_neg c56] at H
                                        exact absurd H (by simp)
                                    · rw [if_neg c55] at H
                                      exact absurd H (by simp)
                                  · rw [if_neg c54] at H
                                    exact absurd H (by simp)
                                · rw [if_neg c53] at H
                                  have c53b0 : ((wrap64 (x7_3 + x9_12)) == (l1.length : Int)) = false := by simpa using c53
                                  (try (have c53b1 : decide ((wrap64 (x7_3 + x9_12)) = (l1.length : Int)) = false := by simpa using c53))
                                  (try (have c53b2 : ((wrap64 (x7_3 + x9_12)) == (l1.length : Int)) = false := by simpa using c53))
                                  (try (have c53b3 : ¬ ((wrap64 (x7_3 + x9_12)) = (l1.length : Int)) := by simpa using c53))
                                  clear c53
                                  obtain ⟨y187, hy187⟩ : ∃ y_ : List Int, y_ = (([(x9_12) % 256, (x9_12 / 256) % 256, (3) % 256] : List Int)) := ⟨_, rfl⟩
                                  replace H : (if 0 ≤ x7_3 then (if x7_3 ≤ (wrap64 (x7_3 + x9_12)) then (if (wrap64 (x7_3 + x9_12)) ≤ (l1.length : Int) then (if y187.length + ((l1.take ((wrap64 (x7_3 + x9_12)) : Int).toNat).drop (x7_3 : Int).toNat).length < 140737488355328 then ((some (y187 ++ ((l1.take ((wrap64 (x7_3 + x9_12)) : Int).toNat).drop (x7_3 : Int).toNat) : List Int)).bind fun y191 => ((screeref2_Sum.f y191).bind fun t194 => ((screeref2_Four.f t194).bind fun t195 => (if x6_3.length + t195.length < 140737488355328 then ((some (x6_3 ++ t195 : List Int)).bind fun y198 => (if y198.length + y191.length < 140737488355328 then (screeref7_Append_p.l1 kj14 l1 0 (y198 ++ y191) (wrap64 (x7_3 + x9_12)) false) else (none))) else (none))))) else (none)) else (none)) else (none)) else (none)) = some r := by first | (rw [hy187]; with_reducible exact H) | (have H2_ := (Option.bind_some _ _).symm.trans H; rw [hy187]; with_reducible exact H2_) | (have H2_ := (Option.bind_some _ _).symm.trans H; with_reducible exact H2_) | with_reducible exact H | (rw [hy187]; exact H) | exact H
                                  have Ny187 := Aside0.mk hy187
                                  clear hy187
                                  by_cases c71 : 0 ≤ x7_3
                                  · rw [if_pos c71] at H
                                    have c71b0 := eq_true c71
                                    have c71b1 : decide (0 ≤ x7_3) = true := decide_eq_true c71
                                    clear c71
                                    by_cases c72 : x7_3 ≤ (wrap64 (x7_3 + x9_12))
                                    · rw [if_pos c72] at H
                                      have c72b0 := eq_true c72
                                      have c72b1 : decide (x7_3 ≤ (wrap64 (x7_3 + x9_12))) = true := decide_eq_true c72
                                      by_cases c73 : (wrap64 (x7_3 + x9_12)) ≤ (l1.length : Int)
                                      · rw [if_pos c73] at H
                                        have c73b0 := eq_true c73
                                        have c73b1 : decide ((wrap64 (x7_3 + x9_12)) ≤ (l1.length : Int)) = true := decide_eq_true c73
                                        by_cases c74 : y187.length + ((l1.take ((wrap64 (x7_3 + x9_12)) : Int).toNat).drop (x7_3 : Int).toNat).length < 140737488355328
                                        · rw [if_pos c74] at H
                                          have LMc74 := Aside0.mk c74
                                          clear c74
                                          obtain ⟨y191, hy191⟩ : ∃ y_ : List Int, y_ = (y187 ++ ((l1.take ((wrap64 (x7_3 + x9_12)) : Int).toNat).drop (x7_3 : Int).toNat)) := ⟨_, rfl⟩
                                          replace H : ((screeref2_Sum.f y191).bind fun t194 => ((screeref2_Four.f t194).bind fun t195 => (if x6_3.length + t195.length < 140737488355328 then ((some (x6_3 ++ t195 : List Int)).bind fun y198 => (if y198.length + y191.length < 140737488355328 then (screeref7_Append_p.l1 kj14 l1 0 (y198 ++ y191) (wrap64 (x7_3 + x9_12)) false) else (none))) else (none)))) = some r := by first | (rw [hy191]; with_reducible exact H) | (have H2_ := (Option.bind_some _ _).symm.trans H; rw [hy191]; with_reducible exact H2_) | (have H2_ := (Option.bind_some _ _).symm.trans H; with_reducible exact H2_) | with_reducible exact H | (rw [hy191]; exact H) | exact H
                                          have Ny191 := Aside0.mk hy191
                                          clear hy191
                                          replace H := Option.bind_eq_some_iff.mp H
                                          obtain ⟨t194, A750, H⟩ := H
                                          replace H : ((screeref2_Four.f t194).bind fun t195 => (if x6_3.length + t195.length < 140737488355328 then ((some (x6_3 ++ t195 : List Int)).bind fun y198 => (if y198.length + y191.length < 140737488355328 then (screeref7_Append_p.l1 kj14 l1 0 (y198 ++ y191) (wrap64 (x7_3 + x9_12)) false) else (none))) else (none))) = some r := H
                                          have A75 := Aside0.mk A750
                                          clear A750
                                          replace H := Option.bind_eq_some_iff.mp H
                                          obtain ⟨t195, A760, H⟩ := H
                                          replace H : (if x6_3.length + t195.length < 140737488355328 then ((some (x6_3 ++ t195 : List Int)).bind fun y198 => (if y198.length + y191.length < 140737488355328 then (screeref7_Append_p.l1 kj14 l1 0 (y198 ++ y191) (wrap64 (x7_3 + x9_12)) false) else (none))) else (none)) = some r := H
                                          have A76 := Aside0.mk A760
                                          clear A760
                                          by_cases c77 : x6_3.length + t195.length < 140737488355328
                                          · rw [if_pos c77] at H
                                            have LMc77 := Aside0.mk c77
                                            clear c77
                                            obtain ⟨y198, hy198⟩ : ∃ y_ : List Int, y_ = (x6_3 ++ t195) := ⟨_, rfl⟩
                                            replace H : (if y198.length + y191.length < 140737488355328 then (screeref7_Append_p.l1 kj14 l1 0 (y198 ++ y191) (wrap64 (x7_3 + x9_12)) false) else (none)) = some r := by first | (rw [hy198]; with_reducible exact H) | (have H2_ := (Option.bind_some _ _).symm.trans H; rw [hy198]; with_reducible exact H2_) | (have H2_ := (Option.bind_some _ _).symm.trans H; with_reducible exact H2_) | with_reducible exact H | (rw [hy198]; exact H) | exact H
                                            have Ny198 := Aside0.mk hy198
                                            clear hy198
                                            by_cases c78 : y198.length + y191.length < 140737488355328
                                            · rw [if_pos c78] at H
                                              have LMc78 := Aside0.mk c78
                                              clear c78
                                              obtain ⟨y201, hy201⟩ : ∃ y_ : List Int, y_ = (y198 ++ y191) := ⟨_, rfl⟩
                                              replace H : (screeref7_Append_p.l1 kj14 l1 0 y201 (wrap64 (x7_3 + x9_12)) false) = some r := by first | (rw [hy201]; with_reducible exact H) | (have H2_ := (Option.bind_some _ _).symm.trans H; rw [hy201]; with_reducible exact H2_) | (have H2_ := (Option.bind_some _ _).symm.trans H; with_reducible exact H2_) | with_reducible exact H | (rw [hy201]; exact H) | exact H
                                              have Ny201 := Aside0.mk hy201
                                              clear hy201
                                              have H' := Aside0.mk H
                                              clear H
                                              go_wp2_with (first | ((with_reducible refine gate_dst (N := 66) rfl ?_); (try (refine gate_guard (by rfl) ?_; dsimp only)); refine Kd.R_lit (Kd.int .u8) _ 5 ?hg (N := 66) ?hd (xs := ([(x9_12) % 256, (x9_12 / 256) % 256, (3) % 256] : List Int)) (inner := [.int .u8 ((x9_12) % 256), .int .u8 ((x9_12 / 256) % 256), .int .u8 ((3) % 256)]) (ok := fun _ => True) (okp := fun _ => True) ?hr ?hp (fun _ hk => hk) trivial (Below.refl _ _) (Nat.le_refl _) (by simp) ?_; (case hd => rfl); (case hg => rfl); (case hr => first | (go_simp; done) | (go_simp; rfl)); (case hp => exact (Reps.one (show Kd.M (Kd.int .u8) _ _ _ ((x9_12) % 256) [.int .u8 ((x9_12) % 256)] from rfl) (Reps.one (show Kd.M (Kd.int .u8) _ _ _ ((x9_12 / 256) % 256) [.int .u8 ((x9_12 / 256) % 256)] from rfl) (Reps.one (show Kd.M (Kd.int .u8) _ _ _ ((3) % 256) [.int .u8 ((3) % 256)] from rfl) (Reps.none _ _))))); intro v188 w79 ho80 hb hg_ hnew_; clear hg_ hnew_; (first | rw [← Ny187.out] at ho80 | (simp only [Int.reduceToNat] at ho80; rw [← Ny187.out] at ho80)); have n0_ := Aside0.mk (Kd.R_elder' (by (with_reducible repeat (first | apply Kd.R_alloc | apply Kd.R_drewN | apply Kd.R_drew)); exact HO_6.out) (Kd.R_base ho80) hb); have n1_ := Aside0.mk (Kd.R_lower (Kd.R_new' ho80 (Kd.R_lt (by (with_reducible repeat (first | apply Kd.R_alloc | apply Kd.R_drewN | apply Kd.R_drew)); exact HO_6.out))) (below_size (by repeat (first | (with_reducible first | exact HB.out | apply below_alloc | apply pw_below_drewN | apply below_drew1) | exact HB.out)))); have n2_ := Aside0.mk (below_step (by repeat (first | (with_reducible first | exact HB.out | apply below_alloc | apply pw_below_drewN | apply below_drew1) | exact HB.out)) hb); clear HO_6; clear HB; have HO_6 := n0_; have HO189 := n1_; have HB := n2_; clear n0_ n1_ n2_; clear hb ho80; obtain ⟨i081, hi081, _, hsz81, _⟩ := info_parts info5; obtain ⟨A81, hcut81, hA81, hC81⟩ := print_mid_of (P := Tryd.prog) (Value.int .u8) 0 22 5 .i64 .i64 Tryd.underlying22 hi081 hsz81 A1 c1 l1 x7_3 (wrap64 (x7_3 + x9_12)) (of_decide_eq_true (by first | (with_reducible assumption) | assumption)) (by first | omega | exact of_decide_eq_true (by first | (with_reducible assumption) | assumption)) (of_decide_eq_true (by first | (with_reducible assumption) | assumption)) HC1.out; have HR190 := Aside0.mk (Kd.C_of_reads (h1 := fun _ => rfl) (hA81 _ (Kd.reads_of_C HR1.out))); have HC190 := Aside0.mk hC81; clear hA81 hC81 hi081 hsz81) | ((with_reducible refine gate_builtin (b := .append) (xs := #[.tmp 67, .tmp 73]) rfl ?_); (try (refine gate_guard (by rfl) ?_; dsimp only)); at_builtin; refine Kd.R_append_rows (Kd.int .u8) (w0 := w) w.heap.size rfl (.tmp 67) (.tmp 73) 22 5 (.int .u8 0) 1 rfl Tryd.underlying22 info5 rfl (by decide) (by omega) v188 y187 ((l1.take ((wrap64 (x7_3 + x9_12)) : Int).toNat).drop (x7_3 : Int).toNat) _ _ _ (fun k_ => some k_ ≠ (u6 : Value).ownBlock) (fun _ => False) rfl rfl ?aO ?aR (fun _ _ h => h) (fun _ h => h.elim) ?aF ?aB ?aS ?aL ?_; (case aR => first | (rw [← show ((l1.take ((wrap64 (x7_3 + x9_12)) : Int).toNat).drop (x7_3 : Int).toNat).length = ((wrap64 (x7_3 + x9_12)).toNat - x7_3.toNat) from (by rw [List.length_drop, List.length_take]; have h_ : ((wrap64 (x7_3 + x9_12)) : Int) ≤ (l1.length : Int) := of_decide_eq_true (by first | (with_reducible assumption) | assumption); omega)]; repeat (first | exact (Kd.C_below HR190.out HB.out) | (with_reducible refine Kd.C_alloc ?_ _) | (with_reducible refine Kd.C_drewN ?_ _) | (with_reducible refine Kd.C_drew ?_))) | (repeat (first | exact (Kd.C_below HR190.out HB.out) | (with_reducible refine Kd.C_alloc ?_ _) | (with_reducible refine Kd.C_drewN ?_ _) | (with_reducible refine Kd.C_drew ?_)))); (case aB => exact (by repeat (first | (with_reducible first | exact HB.out | apply below_alloc | apply pw_below_drewN | apply below_drew1) | exact HB.out))); (case aF => exact (fun k_ hk => Kd.fresh' (Kd.R_lt (by (with_reducible repeat (first | apply Kd.R_alloc | apply Kd.R_drewN | apply Kd.R_drew)); exact HO_6.out)) k_ hk)); (case aO => exact (by (with_reducible repeat (first | apply Kd.R_alloc | apply Kd.R_drewN | apply Kd.R_drew)); exact Kd.R_mono HO189.out (fun _ hk => hk.2))); (case aS => exact (below_size (by repeat (first | (with_reducible first | exact HB.out | apply below_alloc | apply pw_below_drewN | apply below_drew1) | exact HB.out)))); (case aL => have := LMc74.out; have hlx_ := (show ((l1.take ((wrap64 (x7_3 + x9_12)) : Int).toNat).drop (x7_3 : Int).toNat).length = ((wrap64 (x7_3 + x9_12)).toNat - x7_3.toNat) from (by rw [List.length_drop, List.length_take]; have h_ : ((wrap64 (x7_3 + x9_12)) : Int) ≤ (l1.length : Int) := of_decide_eq_true (by first | (with_reducible assumption) | assumption); omega)); omega); intro v192 w82 ho hb hg hat; rw [← Ny191.out] at ho; have n0_ := Aside0.mk (Kd.R_after (ok := (fun _ => True)) (by (with_reducible repeat (first | apply Kd.R_alloc | apply Kd.R_drewN | apply Kd.R_drew)); exact HO_6.out) hg hat); have n1_ := Aside0.mk (hb); have n2_ := Aside0.mk (ho); clear HO_6; clear HB; clear HO189; have HO_6 := n0_; have HB := n1_; have HO193 := n2_; clear n0_ n1_ n2_; clear ho hb hg hat; obtain ⟨Ao83, co83, eo83⟩ := Kd.R_slice HO193.out; subst eo83) | ((with_reducible refine gate_callee (f := 32) rfl ?_); refine goesL_ (some 77) rfl rfl Tryd.func32 (by kernel_rfl) rfl #[.slice Ao83 y191.length co83] rfl (by (try simp only [List.map_toArray, List.map_cons, List.map_nil]); first | done | rfl | (simp only [List.length_drop, List.length_take]; rfl)) ?_; (with_reducible refine (screeref2_Sum.calls _ _ y191 t194 _ ?side1 ?side2 A75.out).mono ?_); (case side1 => repeat (first | exact (Kd.R_reads' HO193.out).2.2 | (with_reducible refine Kd.C_alloc ?_ _) | (with_reducible refine Kd.C_drewN ?_ _) | (with_reducible refine Kd.C_drew ?_))); (case side2 => exact (Kd.R_reads' HO193.out).2.1); rintro e w' ⟨rfl, ⟨nd, rfl⟩⟩; refine ⟨_, rfl, ?_⟩) | ((with_reducible refine gate_callee (f := 31) rfl ?_); refine goesL_ (some 78) rfl rfl Tryd.func31 (by kernel_rfl) rfl #[.int .u32 t194] rfl (by (try simp only [List.map_toArray, List.map_cons, List.map_nil]); first | done | rfl | (simp only [List.length_drop, List.length_take]; rfl)) ?_; (with_reducible refine (screeref2_Four.calls t194 t195 _ A76.out).mono ?_); rintro e w84 ⟨v196, rfl, ho0, hb⟩; refine ⟨_, rfl, ?_⟩; have n0_ := Aside0.mk (Kd.R_elder' (by (with_reducible repeat (first | apply Kd.R_alloc | apply Kd.R_drewN | apply Kd.R_drew)); exact HO_6.out) (Kd.R_base ho0) hb); have n1_ := Aside0.mk (Kd.R_elder' (by (with_reducible repeat (first | apply Kd.R_alloc | apply Kd.R_drewN | apply Kd.R_drew)); exact HO193.out) (Kd.R_base ho0) hb); have n2_ := Aside0.mk (Kd.R_lower (Kd.R_new' (Kd.R_new' ho0 (Kd.R_lt (by (with_reducible repeat (first | apply Kd.R_alloc | apply Kd.R_drewN | apply Kd.R_drew)); exact HO_6.out))) (Kd.R_lt (by (with_reducible repeat (first | apply Kd.R_alloc | apply Kd.R_drewN | apply Kd.R_drew)); exact HO193.out))) (below_size (by repeat (first | (with_reducible first | exact HB.out | apply below_alloc | apply pw_below_drewN | apply below_drew1) | exact HB.out)))); have n3_ := Aside0.mk (below_step (by repeat (first | (with_reducible first | exact HB.out | apply below_alloc | apply pw_below_drewN | apply below_drew1) | exact HB.out)) hb); clear HO_6; clear HO193; clear HB; have HO_6 := n0_; have HO193 := n1_; have HO197 := n2_; have HB := n3_; clear n0_ n1_ n2_ n3_; (try clear hb); (try clear hb2); (try clear hk); (try clear hi); (try clear ho0); obtain ⟨Ao86, co86, eo86⟩ := Kd.R_slice HO197.out; subst eo86) | ((with_reducible refine gate_builtin (b := .append) (xs := #[.tmp 75, .tmp 78]) rfl ?_); (try (refine gate_guard (by rfl) ?_; dsimp only)); at_builtin; refine Kd.R_append_rows (Kd.int .u8) (w0 := w) w.heap.size rfl (.tmp 75) (.tmp 78) 22 5 (.int .u8 0) 1 rfl Tryd.underlying22 info5 rfl (by decide) (by omega) u6 x6_3 t195 _ _ _ (fun k_ => some k_ ≠ (.slice Ao83 y191.length co83 : Value).ownBlock ∧ some k_ ≠ (.slice Ao86 t195.length co86 : Value).ownBlock) (fun _ => False) rfl rfl ?aO ?aR (fun _ _ h => h) (fun _ h => h.elim) ?aF ?aB ?aS ?aL ?_; (case aR => repeat (first | exact (Kd.R_reads' HO197.out).2.2 | (with_reducible refine Kd.C_alloc ?_ _) | (with_reducible refine Kd.C_drewN ?_ _) | (with_reducible refine Kd.C_drew ?_))); (case aB => exact (by repeat (first | (with_reducible first | exact HB.out | apply below_alloc | apply pw_below_drewN | apply below_drew1) | exact HB.out))); (case aF => exact (fun k_ hk => ⟨Kd.fresh' (Kd.R_lt (by (with_reducible repeat (first | apply Kd.R_alloc | apply Kd.R_drewN | apply Kd.R_drew)); exact HO193.out)) k_ hk, Kd.fresh' (Kd.R_lt (by (with_reducible repeat (first | apply Kd.R_alloc | apply Kd.R_drewN | apply Kd.R_drew)); exact HO197.out)) k_ hk⟩)); (case aO => exact (by (with_reducible repeat (first | apply Kd.R_alloc | apply Kd.R_drewN | apply Kd.R_drew)); exact Kd.R_mono HO_6.out (fun _ hk => ⟨hk.1.2, hk.2⟩))); (case aS => exact (below_size (by repeat (first | (with_reducible first | exact HB.out | apply below_alloc | apply pw_below_drewN | apply below_drew1) | exact HB.out)))); (case aL => have := LMc77.out; omega); intro v199 w85 ho hb hg hat; rw [← Ny198.out] at ho; have n0_ := Aside0.mk (Kd.R_after (ok := (fun k_ => some k_ ≠ (.slice Ao86 t195.length co86 : Value).ownBlock)) (by (with_reducible repeat (first | apply Kd.R_alloc | apply Kd.R_drewN | apply Kd.R_drew)); exact Kd.R_mono HO193.out (fun _ hk => ⟨hk.2, hk.1⟩)) hg hat); have n1_ := Aside0.mk (Kd.R_after (ok := (fun k_ => some k_ ≠ (.slice Ao83 y191.length co83 : Value).ownBlock)) (by (with_reducible repeat (first | apply Kd.R_alloc | apply Kd.R_drewN | apply Kd.R_drew)); exact Kd.R_mono HO197.out (fun _ hk => ⟨hk.2, hk.1.2⟩)) hg hat); have n2_ := Aside0.mk (hb); have n3_ := Aside0.mk (ho); clear HO193; clear HO197; clear HB; clear HO_6; have HO193 := n0_; have HO197 := n1_; have HB := n2_; have HO200 := n3_; clear n0_ n1_ n2_ n3_; clear ho hb hg hat) | ((with_reducible refine gate_builtin (b := .append) (xs := #[.tmp 80, .tmp 81]) rfl ?_); (try (refine gate_guard (by rfl) ?_; dsimp only)); at_builtin; refine Kd.R_append_rows (Kd.int .u8) (w0 := w) w.heap.size rfl (.tmp 80) (.tmp 81) 22 5 (.int .u8 0) 1 rfl Tryd.underlying22 info5 rfl (by decide) (by omega) v199 y198 y191 _ _ _ (fun k_ => some k_ ≠ (.slice Ao83 y191.length co83 : Value).ownBlock ∧ some k_ ≠ (.slice Ao86 t195.length co86 : Value).ownBlock) (fun _ => False) rfl rfl ?aO ?aR (fun _ _ h => h) (fun _ h => h.elim) ?aF ?aB ?aS ?aL ?_; (case aR => repeat (first | exact (Kd.R_reads' HO193.out).2.2 | (with_reducible refine Kd.C_alloc ?_ _) | (with_reducible refine Kd.C_drewN ?_ _) | (with_reducible refine Kd.C_drew ?_))); (case aB => exact (by repeat (first | (with_reducible first | exact HB.out | apply below_alloc | apply pw_below_drewN | apply below_drew1) | exact HB.out))); (case aF => exact (fun k_ hk => ⟨Kd.fresh' (Kd.R_lt (by (with_reducible repeat (first | apply Kd.R_alloc | apply Kd.R_drewN | apply Kd.R_drew)); exact HO193.out)) k_ hk, Kd.fresh' (Kd.R_lt (by (with_reducible repeat (first | apply Kd.R_alloc | apply Kd.R_drewN | apply Kd.R_drew)); exact HO197.out)) k_ hk⟩)); (case aO => exact (by (with_reducible repeat (first | apply Kd.R_alloc | apply Kd.R_drewN | apply Kd.R_drew)); exact HO200.out)); (case aS => exact (below_size (by repeat (first | (with_reducible first | exact HB.out | apply below_alloc | apply pw_below_drewN | apply below_drew1) | exact HB.out)))); (case aL => have := LMc78.out; omega); intro v202 w87 ho hb hg hat; rw [← Ny201.out] at ho; have n0_ := Aside0.mk (Kd.R_after (ok := (fun k_ => some k_ ≠ (.slice Ao86 t195.length co86 : Value).ownBlock)) (by (with_reducible repeat (first | apply Kd.R_alloc | apply Kd.R_drewN | apply Kd.R_drew)); exact HO193.out) hg hat); have n1_ := Aside0.mk (Kd.R_after (ok := (fun k_ => some k_ ≠ (.slice Ao83 y191.length co83 : Value).ownBlock)) (by (with_reducible repeat (first | apply Kd.R_alloc | apply Kd.R_drewN | apply Kd.R_drew)); exact HO197.out) hg hat); have n2_ := Aside0.mk (hb); have n3_ := Aside0.mk (ho); clear HO193; clear HO197; clear HB; clear HO200; have HO193 := n0_; have HO197 := n1_; have HB := n2_; have HO203 := n3_; clear n0_ n1_ n2_ n3_; clear ho hb hg hat))
                                              go_roundg kj14
                                              case measure => have := HJ2.out; have := HJ4.out; have := HK3.out; have := HJ9.out; have := HJ12.out; have := HJ14.out; omega
                                              case rel => exact ⟨(0), (y201), (wrap64 (x7_3 + x9_12)), (false), (by first | rfl | (simp; done) | (simp [*]; done)), (by first | rfl | (simp; done) | (simp [*]; done)), (by first | rfl | (simp; done) | (simp [*]; done)), H', ⟨by have := HJ2.out; have := HJ4.out; have := HK3.out; have := HJ9.out; have := HJ12.out; have := HJ14.out; omega⟩, ⟨by (with_reducible repeat (first | apply Kd.R_alloc | apply Kd.R_drewN | apply Kd.R_drew)); exact Kd.R_mono HO203.out (fun _ hk => trivial)⟩, ⟨by repeat (first | (with_reducible first | exact HB.out | apply below_alloc | apply pw_below_drewN | apply below_drew1) | exact HB.out)⟩⟩
                                            · rw [if_neg c78] at H
                                              exact absurd H (by simp)
                                          · rw [if_neg c77] at H
                                            exact absurd H (by simp)
                                        · rw [if_neg c74] at H
                                          exact absurd H (by simp)
                                      · rw [if_neg c73] at H
                                        exact absurd H (by simp)
                                    · rw [if_neg c72] at H
                                      exact absurd H (by simp)
                                  · rw [if_neg c71] at H
                                    exact absurd H (by simp)
                  · replace c12 := Bool.eq_false_iff.mpr c12
                    subst c12
                    have H1 : (some x6_3) = some r := by rw [if_neg (show ¬ (false = true) by decide)] at H; exact H
                    clear H
                    have H := H1
                    clear H1
                    obtain rfl := Option.some.inj H
                    go_wp2
                    go_ret
                    exact ⟨_, by first | rfl | (simp [errW_none, errW_some] <;> rfl) | (simp [*, errW_none, errW_some] <;> rfl), by (with_reducible repeat (first | apply Kd.R_alloc | apply Kd.R_drewN | apply Kd.R_drew)); exact HO_6.out, by repeat (first | (with_reducible first | exact HB.out | apply below_alloc | apply pw_below_drewN | apply below_drew1) | exact HB.out)⟩

end Go.Proofs.YtnamanalacjhnaaDoor.QAp
