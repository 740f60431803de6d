/- Lemmas of this claim's own, put together: QBkx2, QBkx5, QBkx6, DGetP, DSmW, LawU, DPuP, DPuE. -/
import Derived.Test.YtnamanalacjhnaaDoorZBack1
-- Printed by a program of this claim's own out of the translation.
namespace Go.Proofs.YtnamanalacjhnaaDoor.QBk
open Go.Proofs.YtnamanalacjhnaaDoor.Own
open Go.RowKit Go.Proofs.YtnamanalacjhnaaDoorW.PrintWords Go.Proofs.YtnamanalacjhnaaDoorW.PrintLast Go.Proofs.YtnamanalacjhnaaDoorW.PrintMore
attribute [local go_sem] max2_int min2_int max_two min_two max_three min_three max_four min_four   -- for this text's walks alone
set_option linter.unusedVariables false
set_option linter.unusedSimpArgs false

/-! ### screelaw7_same_p: function 10 -/
def screelaw7_same_p.l0 : Nat → List Int → List Int → Int → Option (Bool)
  | 0, _, _, _ => none
  | k + 1, x0, x1, x5 => if x5 < (x0.length : Int) then (if 0 ≤ x5 then (if x5 < (x1.length : Int) then (if (rd x0 x5) = (rd x1 x5) then (screelaw7_same_p.l0 k x0 x1 (wrap64 (x5 + 1))) else (some false)) else (none)) else (none)) else (some true)
def screelaw7_same_p.f (k : Nat) (l0 : List Int) (l1 : List Int) : Option (Bool) := if (l0.length : Int) = (l1.length : Int) then (screelaw7_same_p.l0 k l0 l1 0) else (some false)
theorem screelaw7_same_p.mono_l : ∀ k, (∀ y0 y1 y2, LeO (screelaw7_same_p.l0 k y0 y1 y2) (screelaw7_same_p.l0 (k + 1) y0 y1 y2))
  | 0 => fun _ _ _ r h => by simp [screelaw7_same_p.l0] at h
  | k + 1 => by
    have ih0 := screelaw7_same_p.mono_l k
    · intro y0 y1 y2
      unfold screelaw7_same_p.l0
      repeat' first
      | (with_reducible exact ih0 _ _ _)
      | (with_reducible exact LeO.refl _)
      | (with_reducible exact LeO.none _)
      | (with_reducible refine LeO.ite ?_ ?_)
      | (with_reducible refine LeO.bind ?_ (fun _ => ?_))
      | exact ih0 _ _ _
      | exact LeO.none _
      | refine LeO.ite ?_ ?_
      | refine LeO.bind ?_ (fun _ => ?_)
theorem screelaw7_same_p.mono : ∀ a0 a1 k, LeO (screelaw7_same_p.f k a0 a1) (screelaw7_same_p.f (k + 1) a0 a1) := by
  intro a0 a1 k
  have ih0 := screelaw7_same_p.mono_l k
  unfold screelaw7_same_p.f
  repeat' first
      | (with_reducible exact ih0 _ _ _)
      | (with_reducible exact LeO.refl _)
      | (with_reducible exact LeO.none _)
      | (with_reducible refine LeO.ite ?_ ?_)
      | (with_reducible refine LeO.bind ?_ (fun _ => ?_))
      | exact ih0 _ _ _
      | exact LeO.none _
      | refine LeO.ite ?_ ?_
      | refine LeO.bind ?_ (fun _ => ?_)
set_option maxHeartbeats 8000000 in
set_option maxRecDepth 100000 in
theorem screelaw7_same_p.calls (k : Nat) (A0 : Option Addr) (c0 : Nat) (l0 : List Int) (A1 : Option Addr) (c1 : Nat) (l1 : List Int) (r : Bool) (w : World) (hr0 : Kd.C (Kd.int .u8) w A0 l0.length l0) (hc0 : l0.length ≤ c0) (hr1 : Kd.C (Kd.int .u8) w A1 l1.length l1) (hc1 : l1.length ≤ c1) (h : screelaw7_same_p.f k l0 l1 = some r) :
    Calls Tryd.prog 10 #[.slice A0 l0.length c0, .slice A1 l1.length c1] w fun e w' => e = .returned (.bool r) ∧ Drawn0 w w' := by
  have HR0 := Aside0.mk hr0
  have HC0 := Aside0.mk hc0
  clear hr0 hc0
  have HR1 := Aside0.mk hr1
  have HC1 := Aside0.mk hc1
  clear hr1 hc1
  have H : (if (l0.length : Int) = (l1.length : Int) then (screelaw7_same_p.l0 k l0 l1 0) else (some false)) = some r := h
  clear h
  by_cases c3 : (l0.length : Int) = (l1.length : Int)
  · rw [if_pos c3] at H
    have c3b0 : ((l0.length : Int) == (l1.length : Int)) = true := beq_iff_eq.mpr c3
    have c3b1 : ((l0.length : Int) != (l1.length : Int)) = false := bne_eq_false_iff_eq.mpr c3
    have c3b2 : (l0.length == l1.length) = true := by first | simpa using c3 | (simp at c3 ⊢; omega)
    clear c3
    have H' := Aside0.mk H
    clear H
    go_enter Tryd.func10, Tryd.ntmps10
    go_wp2
    repeat (go_quiet (fail); try go_wp2)
    go_loopg [5] k (fun kq v5 w' => ∃ (x5_1 : Int), v5 = .int .i64 x5_1 ∧ Aside0 (screelaw7_same_p.l0 kq l0 l1 x5_1 = some r) ∧ Aside0 (kq ≤ k) ∧ Drawn0 w w')
    case atStart => exact ⟨(0), (by first | rfl | (simp; done) | (simp [*]; done)), H', ⟨Nat.le_refl _⟩, by repeat (first | exact Drawn0.refl _ | apply Drawn0.step)⟩
    case round =>
      clear H'
      try clear c1
      try clear p2
      try clear c3
      try clear c3b0
      try clear c3b1
      try clear c3b2
      obtain ⟨x5_1, rfl, HA, HK1, ⟨m1, rfl⟩⟩ := hrel
      cases gk with
      | zero => exact absurd HA.out (by simp [screelaw7_same_p.l0])
      | succ k1 =>
        have H := HA.out
        clear HA
        simp only [screelaw7_same_p.l0] at H
        by_cases c4 : x5_1 < (l0.length : Int)
        · rw [if_pos c4] at H
          have c4b0 : decide (x5_1 < (l0.length : Int)) = true := decide_eq_true c4
          clear c4
          by_cases c5 : 0 ≤ x5_1
          · rw [if_pos c5] at H
            have c5b0 : decide (0 ≤ x5_1) = true := decide_eq_true c5
            clear c5
            by_cases c6 : x5_1 < (l1.length : Int)
            · rw [if_pos c6] at H
              have c6b0 : decide (x5_1 < (l1.length : Int)) = true := decide_eq_true c6
              clear c6
              by_cases c7 : (rd l0 x5_1) = (rd l1 x5_1)
              · rw [if_pos c7] at H
                have c7b0 : ((rd l0 x5_1) == (rd l1 x5_1)) = true := beq_iff_eq.mpr c7
                have c7b1 : ((rd l0 x5_1) != (rd l1 x5_1)) = false := bne_eq_false_iff_eq.mpr c7
                clear c7
                have H' := Aside0.mk H
                clear H
                have p101 : 0 ≤ (x5_1 : Int) := of_decide_eq_true (by first | (with_reducible assumption) | assumption)
                have q101 : x5_1 < (l0.length : Int) := of_decide_eq_true (by first | (with_reducible assumption) | assumption)
                obtain ⟨ad101, e101, hx101_0⟩ := Kd.at_int HR0.out x5_1 p101 q101
                cases e101
                replace p101 := eq_true p101
                replace q101 := eq_true q101
                have p102 : 0 ≤ (x5_1 : Int) := of_decide_eq_true (by first | (with_reducible assumption) | assumption)
                have q102 : x5_1 < (l1.length : Int) := of_decide_eq_true (by first | (with_reducible assumption) | assumption)
                obtain ⟨ad102, e102, hx102_0⟩ := Kd.at_int HR1.out x5_1 p102 q102
                cases e102
                replace p102 := eq_true p102
                replace q102 := eq_true q102
                go_wp2
                repeat (go_quiet (fail); try go_wp2)
                go_roundg k1
                case measure => have := HK1.out; omega
                case rel => exact ⟨(wrap64 (x5_1 + 1)), (by first | rfl | (simp; done) | (simp [*]; done)), H', ⟨by have := HK1.out; omega⟩, by repeat (first | exact Drawn0.refl _ | apply Drawn0.step)⟩
              · rw [if_neg c7] at H
                have c7b0 : ((rd l0 x5_1) == (rd l1 x5_1)) = false := beq_eq_false_iff_ne.mpr c7
                have c7b1 : ((rd l0 x5_1) != (rd l1 x5_1)) = true := bne_iff_ne.mpr c7
                obtain rfl := Option.some.inj H
                have p101 : 0 ≤ (x5_1 : Int) := of_decide_eq_true (by first | (with_reducible assumption) | assumption)
                have q101 : x5_1 < (l0.length : Int) := of_decide_eq_true (by first | (with_reducible assumption) | assumption)
                obtain ⟨ad101, e101, hx101_0⟩ := Kd.at_int HR0.out x5_1 p101 q101
                cases e101
                replace p101 := eq_true p101
                replace q101 := eq_true q101
                have p102 : 0 ≤ (x5_1 : Int) := of_decide_eq_true (by first | (with_reducible assumption) | assumption)
                have q102 : x5_1 < (l1.length : Int) := of_decide_eq_true (by first | (with_reducible assumption) | assumption)
                obtain ⟨ad102, e102, hx102_0⟩ := Kd.at_int HR1.out x5_1 p102 q102
                cases e102
                replace p102 := eq_true p102
                replace q102 := eq_true q102
                go_wp2
                repeat (go_quiet (fail); try go_wp2)
                go_ret
                exact ⟨by first | rfl | (simp; done) | (simp [*]; done), by repeat (first | exact Drawn0.refl _ | apply Drawn0.step)⟩
            · rw [if_neg c6] at H
              exact absurd H (by simp)
          · rw [if_neg c5] at H
            exact absurd H (by simp)
        · rw [if_neg c4] at H
          have c4b0 : decide (x5_1 < (l0.length : Int)) = false := decide_eq_false c4
          clear c4
          obtain rfl := Option.some.inj H
          go_wp2
          repeat (go_quiet (fail); try go_wp2)
          go_ret
          exact ⟨by first | rfl | (simp; done) | (simp [*]; done), by repeat (first | exact Drawn0.refl _ | apply Drawn0.step)⟩
  · rw [if_neg c3] at H
    have c3b0 : ((l0.length : Int) == (l1.length : Int)) = false := beq_eq_false_iff_ne.mpr c3
    have c3b1 : ((l0.length : Int) != (l1.length : Int)) = true := bne_iff_ne.mpr c3
    have c3b2 : (l0.length == l1.length) = false := by first | simpa using c3 | (simp at c3 ⊢; omega)
    obtain rfl := Option.some.inj H
    go_enter Tryd.func10, Tryd.ntmps10
    go_wp2
    repeat (go_quiet (fail); try go_wp2)
    go_ret
    exact ⟨by first | rfl | (simp; done) | (simp [*]; done), by repeat (first | exact Drawn0.refl _ | apply Drawn0.step)⟩

/-! ### screelaw7_same: function 10 -/
theorem screelaw7_same_ev (l1 l2 : List Int) (hlen : l1.length = l2.length) (hm : l1.length ≤ 9223372036854775807) (d : Nat) : ∀ i : Nat, i + d = l1.length → Ev (fun k => screelaw7_same_p.l0 k l1 l2 (i : Int)) (decide (l1.drop i = l2.drop i)) := by
  induction d with
  | zero =>
    intro i hi
    refine Ev.step (f := fun _ => some true) (fun k => ?_) (by rw [List.drop_of_length_le (by omega), List.drop_of_length_le (by omega)]; exact Ev.now _)
    simp only [screelaw7_same_p.l0]
    rw [if_neg (by omega)]
  | succ d ih =>
    intro i hi
    have h1 : i < l1.length := by omega
    have h2 : i < l2.length := by omega
    have e1 : rd l1 (i : Int) = l1[i] := by simp [rd, List.getD_eq_getElem?_getD, h1]
    have e2 : rd l2 (i : Int) = l2[i] := by simp [rd, List.getD_eq_getElem?_getD, h2]
    rw [List.drop_eq_getElem_cons h1, List.drop_eq_getElem_cons h2]
    by_cases h : l1[i] = l2[i]
    · have hd : decide (l1[i] :: l1.drop (i + 1) = l2[i] :: l2.drop (i + 1)) = decide (l1.drop (i + 1) = l2.drop (i + 1)) := decide_eq_decide.2 ⟨fun e => (List.cons.inj e).2, fun e => by rw [h, e]⟩
      rw [hd]
      refine Ev.step (fun k => ?_) (ih (i + 1) (by omega))
      simp only [screelaw7_same_p.l0]
      rw [if_pos (by omega), if_pos (by omega), if_pos (by omega), e1, e2, if_pos h, show wrap64 ((i : Int) + 1) = ((i + 1 : Nat) : Int) by unfold wrap64; omega]
    · have hd : decide (l1[i] :: l1.drop (i + 1) = l2[i] :: l2.drop (i + 1)) = false := decide_eq_false (fun e => h (List.cons.inj e).1)
      rw [hd]
      refine Ev.step (f := fun _ => some false) (fun k => ?_) (Ev.now _)
      simp only [screelaw7_same_p.l0]
      rw [if_pos (by omega), if_pos (by omega), if_pos (by omega), e1, e2, if_neg h]
def screelaw7_same.f (l0 : List Int) (l1 : List Int) : Option (Bool) := if l0.length ≤ 9223372036854775807 then some (decide (l0 = l1)) else none
theorem screelaw7_same.calls (A0 : Option Addr) (c0 : Nat) (l0 : List Int) (A1 : Option Addr) (c1 : Nat) (l1 : List Int) (r : Bool) (w : World) (hr0 : Kd.C (Kd.int .u8) w A0 l0.length l0) (hc0 : l0.length ≤ c0) (hr1 : Kd.C (Kd.int .u8) w A1 l1.length l1) (hc1 : l1.length ≤ c1) (h : screelaw7_same.f l0 l1 = some r) :
    Calls Tryd.prog 10 #[.slice A0 l0.length c0, .slice A1 l1.length c1] w fun e w' => e = .returned (.bool r) ∧ Drawn0 w w' := by
  unfold screelaw7_same.f at h
  split at h
  · rename_i hh
    by_cases hlen : l0.length = l1.length
    · obtain ⟨k, hk⟩ := (screelaw7_same_ev l0 l1 hlen hh l0.length 0 (by omega)).rounds
      refine screelaw7_same_p.calls k A0 c0 l0 A1 c1 l1 r w hr0 hc0 hr1 hc1 ?_
      unfold screelaw7_same_p.f
      rw [if_pos (by omega)]
      rw [← h]
      exact hk
    · refine screelaw7_same_p.calls 0 A0 c0 l0 A1 c1 l1 r w hr0 hc0 hr1 hc1 ?_
      unfold screelaw7_same_p.f
      rw [if_neg (by omega), ← h]
      have : ¬ l0 = l1 := fun e => hlen (by rw [e])
      simp [this]
  · cases h

/-! ### screelaw7_sameRecords: function 16 -/
def screelaw7_sameRecords.l0 : Nat → List (List Int) → List (List Int) → Int → Option (Bool)
  | 0, _, _, _ => none
  | k + 1, x0, x1, x5 => if x5 < (x0.length : Int) then (if 0 ≤ x5 then (if x5 < (x1.length : Int) then ((screelaw7_same.f (rd_L1 x0 x5) (rd_L1 x1 x5)).bind fun t105 => (if t105 = true then (screelaw7_sameRecords.l0 k x0 x1 (wrap64 (x5 + 1))) else (some false))) else (none)) else (none)) else (some true)
def screelaw7_sameRecords.f (k : Nat) (l0 : List (List Int)) (l1 : List (List Int)) : Option (Bool) := if (l0.length : Int) = (l1.length : Int) then (screelaw7_sameRecords.l0 k l0 l1 0) else (some false)
theorem screelaw7_sameRecords.mono_l : ∀ k, (∀ y0 y1 y2, LeO (screelaw7_sameRecords.l0 k y0 y1 y2) (screelaw7_sameRecords.l0 (k + 1) y0 y1 y2))
  | 0 => fun _ _ _ r h => by simp [screelaw7_sameRecords.l0] at h
  | k + 1 => by
    have ih0 := screelaw7_sameRecords.mono_l k
    · intro y0 y1 y2
      unfold screelaw7_sameRecords.l0
      repeat' first
      | (with_reducible exact ih0 _ _ _)
      | (with_reducible exact LeO.refl _)
      | (with_reducible exact LeO.none _)
      | (with_reducible refine LeO.ite ?_ ?_)
      | (with_reducible refine LeO.bind ?_ (fun _ => ?_))
      | exact ih0 _ _ _
      | exact LeO.none _
      | refine LeO.ite ?_ ?_
      | refine LeO.bind ?_ (fun _ => ?_)
theorem screelaw7_sameRecords.mono : ∀ a0 a1 k, LeO (screelaw7_sameRecords.f k a0 a1) (screelaw7_sameRecords.f (k + 1) a0 a1) := by
  intro a0 a1 k
  have ih0 := screelaw7_sameRecords.mono_l k
  unfold screelaw7_sameRecords.f
  repeat' first
      | (with_reducible exact ih0 _ _ _)
      | (with_reducible exact LeO.refl _)
      | (with_reducible exact LeO.none _)
      | (with_reducible refine LeO.ite ?_ ?_)
      | (with_reducible refine LeO.bind ?_ (fun _ => ?_))
      | exact ih0 _ _ _
      | exact LeO.none _
      | refine LeO.ite ?_ ?_
      | refine LeO.bind ?_ (fun _ => ?_)
set_option maxHeartbeats 8000000 in
set_option maxRecDepth 100000 in
theorem screelaw7_sameRecords.calls (k : Nat) (A0 : Option Addr) (c0 : Nat) (l0 : List (List Int)) (A1 : Option Addr) (c1 : Nat) (l1 : List (List Int)) (r : Bool) (w : World) (hr0 : Kd.C (Kd.slice 5 (Kd.int .u8)) w A0 l0.length l0) (hc0 : l0.length ≤ c0) (hr1 : Kd.C (Kd.slice 5 (Kd.int .u8)) w A1 l1.length l1) (hc1 : l1.length ≤ c1) (h : screelaw7_sameRecords.f k l0 l1 = some r) :
    Calls Tryd.prog 16 #[.slice A0 l0.length c0, .slice A1 l1.length c1] w fun e w' => e = .returned (.bool r) ∧ Drawn0 w w' := by
  have HR0 := Aside0.mk hr0
  have HC0 := Aside0.mk hc0
  clear hr0 hc0
  have HR1 := Aside0.mk hr1
  have HC1 := Aside0.mk hc1
  clear hr1 hc1
  have H : (if (l0.length : Int) = (l1.length : Int) then (screelaw7_sameRecords.l0 k l0 l1 0) else (some false)) = some r := h
  clear h
  by_cases c3 : (l0.length : Int) = (l1.length : Int)
  · rw [if_pos c3] at H
    have c3b0 : ((l0.length : Int) == (l1.length : Int)) = true := beq_iff_eq.mpr c3
    have c3b1 : ((l0.length : Int) != (l1.length : Int)) = false := bne_eq_false_iff_eq.mpr c3
    have c3b2 : (l0.length == l1.length) = true := by first | simpa using c3 | (simp at c3 ⊢; omega)
    clear c3
    have H' := Aside0.mk H
    clear H
    go_enter Tryd.func16, Tryd.ntmps16
    go_wp2
    repeat (go_quiet (fail); try go_wp2)
    go_loopg [5] k (fun kq v5 w' => ∃ (x5_1 : Int), v5 = .int .i64 x5_1 ∧ Aside0 (screelaw7_sameRecords.l0 kq l0 l1 x5_1 = some r) ∧ Aside0 (kq ≤ k) ∧ Drawn0 w w')
    case atStart => exact ⟨(0), (by first | rfl | (simp; done) | (simp [*]; done)), H', ⟨Nat.le_refl _⟩, by repeat (first | exact Drawn0.refl _ | apply Drawn0.step)⟩
    case round =>
      clear H'
      try clear c1
      try clear p2
      try clear c3
      try clear c3b0
      try clear c3b1
      try clear c3b2
      obtain ⟨x5_1, rfl, HA, HK1, ⟨m1, rfl⟩⟩ := hrel
      cases gk with
      | zero => exact absurd HA.out (by simp [screelaw7_sameRecords.l0])
      | succ k1 =>
        have H := HA.out
        clear HA
        simp only [screelaw7_sameRecords.l0] at H
        by_cases c4 : x5_1 < (l0.length : Int)
        · rw [if_pos c4] at H
          have c4b0 : decide (x5_1 < (l0.length : Int)) = true := decide_eq_true c4
          clear c4
          by_cases c5 : 0 ≤ x5_1
          · rw [if_pos c5] at H
            have c5b0 : decide (0 ≤ x5_1) = true := decide_eq_true c5
            clear c5
            by_cases c6 : x5_1 < (l1.length : Int)
            · rw [if_pos c6] at H
              have c6b0 : decide (x5_1 < (l1.length : Int)) = true := decide_eq_true c6
              clear c6
              replace H := Option.bind_eq_some_iff.mp H
              obtain ⟨t105, A70, H⟩ := H
              replace H : (if t105 = true then (screelaw7_sameRecords.l0 k1 l0 l1 (wrap64 (x5_1 + 1))) else (some false)) = some r := H
              have A7 := Aside0.mk A70
              clear A70
              by_cases c8 : t105 = true
              · subst c8
                have H1 : (screelaw7_sameRecords.l0 k1 l0 l1 (wrap64 (x5_1 + 1))) = some r := by rw [if_pos rfl] at H; exact H
                clear H
                have H := H1
                clear H1
                have H' := Aside0.mk H
                clear H
                have p103 : 0 ≤ (x5_1 : Int) := of_decide_eq_true (by first | (with_reducible assumption) | assumption)
                have q103 : x5_1 < (l0.length : Int) := of_decide_eq_true (by first | (with_reducible assumption) | assumption)
                obtain ⟨ad103, A103_0, c103_0, e103, hx103_0, hl103_0, hi103_0⟩ := at_L1 HR0.out x5_1 p103 q103
                cases e103
                have HR103_0 := Aside0.mk hi103_0
                have HC103_0 := Aside0.mk hl103_0
                clear hi103_0 hl103_0
                replace p103 := eq_true p103
                replace q103 := eq_true q103
                have p104 : 0 ≤ (x5_1 : Int) := of_decide_eq_true (by first | (with_reducible assumption) | assumption)
                have q104 : x5_1 < (l1.length : Int) := of_decide_eq_true (by first | (with_reducible assumption) | assumption)
                obtain ⟨ad104, A104_0, c104_0, e104, hx104_0, hl104_0, hi104_0⟩ := at_L1 HR1.out x5_1 p104 q104
                cases e104
                have HR104_0 := Aside0.mk hi104_0
                have HC104_0 := Aside0.mk hl104_0
                clear hi104_0 hl104_0
                replace p104 := eq_true p104
                replace q104 := eq_true q104
                go_wp2_with (first | (go_at_call 10; (with_reducible refine (screelaw7_same.calls _ _ (rd_L1 l0 x5_1) _ _ (rd_L1 l1 x5_1) true _ ?side1 ?side2 ?side3 ?side4 A7.out).mono ?_); (case side1 => repeat (first | exact HR103_0.out | (with_reducible refine Kd.C_alloc ?_ _) | (with_reducible refine Kd.C_drewN ?_ _) | (with_reducible refine Kd.C_drew ?_))); (case side2 => exact HC103_0.out); (case side3 => repeat (first | exact HR104_0.out | (with_reducible refine Kd.C_alloc ?_ _) | (with_reducible refine Kd.C_drewN ?_ _) | (with_reducible refine Kd.C_drew ?_))); (case side4 => exact HC104_0.out); rintro e w' ⟨rfl, ⟨nd, rfl⟩⟩; (try first | exact ⟨rfl, _, World.drewN_drewN _ _ _⟩ | exact ⟨rfl, _, Eq.trans (World.drewN_drewN _ _ _) (congrArg (World.drewN _) (Nat.add_assoc _ _ _))⟩)))
                repeat (go_quiet (first | (go_at_call 10; (with_reducible refine (screelaw7_same.calls _ _ (rd_L1 l0 x5_1) _ _ (rd_L1 l1 x5_1) true _ ?side1 ?side2 ?side3 ?side4 A7.out).mono ?_); (case side1 => repeat (first | exact HR103_0.out | (with_reducible refine Kd.C_alloc ?_ _) | (with_reducible refine Kd.C_drewN ?_ _) | (with_reducible refine Kd.C_drew ?_))); (case side2 => exact HC103_0.out); (case side3 => repeat (first | exact HR104_0.out | (with_reducible refine Kd.C_alloc ?_ _) | (with_reducible refine Kd.C_drewN ?_ _) | (with_reducible refine Kd.C_drew ?_))); (case side4 => exact HC104_0.out); rintro e w' ⟨rfl, ⟨nd, rfl⟩⟩; (try first | exact ⟨rfl, _, World.drewN_drewN _ _ _⟩ | exact ⟨rfl, _, Eq.trans (World.drewN_drewN _ _ _) (congrArg (World.drewN _) (Nat.add_assoc _ _ _))⟩))); try go_wp2_with (first | (go_at_call 10; (with_reducible refine (screelaw7_same.calls _ _ (rd_L1 l0 x5_1) _ _ (rd_L1 l1 x5_1) true _ ?side1 ?side2 ?side3 ?side4 A7.out).mono ?_); (case side1 => repeat (first | exact HR103_0.out | (with_reducible refine Kd.C_alloc ?_ _) | (with_reducible refine Kd.C_drewN ?_ _) | (with_reducible refine Kd.C_drew ?_))); (case side2 => exact HC103_0.out); (case side3 => repeat (first | exact HR104_0.out | (with_reducible refine Kd.C_alloc ?_ _) | (with_reducible refine Kd.C_drewN ?_ _) | (with_reducible refine Kd.C_drew ?_))); (case side4 => exact HC104_0.out); rintro e w' ⟨rfl, ⟨nd, rfl⟩⟩; (try first | exact ⟨rfl, _, World.drewN_drewN _ _ _⟩ | exact ⟨rfl, _, Eq.trans (World.drewN_drewN _ _ _) (congrArg (World.drewN _) (Nat.add_assoc _ _ _))⟩))))
                go_roundg k1
                case measure => have := HK1.out; omega
                case rel => exact ⟨(wrap64 (x5_1 + 1)), (by first | rfl | (simp; done) | (simp [*]; done)), H', ⟨by have := HK1.out; omega⟩, by repeat (first | exact Drawn0.refl _ | apply Drawn0.step)⟩
              · replace c8 := Bool.eq_false_iff.mpr c8
                subst c8
                have H1 : (some false) = some r := by rw [if_neg (show ¬ (false = true) by decide)] at H; exact H
                clear H
                have H := H1
                clear H1
                obtain rfl := Option.some.inj H
                have p103 : 0 ≤ (x5_1 : Int) := of_decide_eq_true (by first | (with_reducible assumption) | assumption)
                have q103 : x5_1 < (l0.length : Int) := of_decide_eq_true (by first | (with_reducible assumption) | assumption)
                obtain ⟨ad103, A103_0, c103_0, e103, hx103_0, hl103_0, hi103_0⟩ := at_L1 HR0.out x5_1 p103 q103
                cases e103
                have HR103_0 := Aside0.mk hi103_0
                have HC103_0 := Aside0.mk hl103_0
                clear hi103_0 hl103_0
                replace p103 := eq_true p103
                replace q103 := eq_true q103
                have p104 : 0 ≤ (x5_1 : Int) := of_decide_eq_true (by first | (with_reducible assumption) | assumption)
                have q104 : x5_1 < (l1.length : Int) := of_decide_eq_true (by first | (with_reducible assumption) | assumption)
                obtain ⟨ad104, A104_0, c104_0, e104, hx104_0, hl104_0, hi104_0⟩ := at_L1 HR1.out x5_1 p104 q104
                cases e104
                have HR104_0 := Aside0.mk hi104_0
                have HC104_0 := Aside0.mk hl104_0
                clear hi104_0 hl104_0
                replace p104 := eq_true p104
                replace q104 := eq_true q104
                go_wp2_with (first | (go_at_call 10; (with_reducible refine (screelaw7_same.calls _ _ (rd_L1 l0 x5_1) _ _ (rd_L1 l1 x5_1) false _ ?side1 ?side2 ?side3 ?side4 A7.out).mono ?_); (case side1 => repeat (first | exact HR103_0.out | (with_reducible refine Kd.C_alloc ?_ _) | (with_reducible refine Kd.C_drewN ?_ _) | (with_reducible refine Kd.C_drew ?_))); (case side2 => exact HC103_0.out); (case side3 => repeat (first | exact HR104_0.out | (with_reducible refine Kd.C_alloc ?_ _) | (with_reducible refine Kd.C_drewN ?_ _) | (with_reducible refine Kd.C_drew ?_))); (case side4 => exact HC104_0.out); rintro e w' ⟨rfl, ⟨nd, rfl⟩⟩; (try first | exact ⟨rfl, _, World.drewN_drewN _ _ _⟩ | exact ⟨rfl, _, Eq.trans (World.drewN_drewN _ _ _) (congrArg (World.drewN _) (Nat.add_assoc _ _ _))⟩)))
                repeat (go_quiet (first | (go_at_call 10; (with_reducible refine (screelaw7_same.calls _ _ (rd_L1 l0 x5_1) _ _ (rd_L1 l1 x5_1) false _ ?side1 ?side2 ?side3 ?side4 A7.out).mono ?_); (case side1 => repeat (first | exact HR103_0.out | (with_reducible refine Kd.C_alloc ?_ _) | (with_reducible refine Kd.C_drewN ?_ _) | (with_reducible refine Kd.C_drew ?_))); (case side2 => exact HC103_0.out); (case side3 => repeat (first | exact HR104_0.out | (with_reducible refine Kd.C_alloc ?_ _) | (with_reducible refine Kd.C_drewN ?_ _) | (with_reducible refine Kd.C_drew ?_))); (case side4 => exact HC104_0.out); rintro e w' ⟨rfl, ⟨nd, rfl⟩⟩; (try first | exact ⟨rfl, _, World.drewN_drewN _ _ _⟩ | exact ⟨rfl, _, Eq.trans (World.drewN_drewN _ _ _) (congrArg (World.drewN _) (Nat.add_assoc _ _ _))⟩))); try go_wp2_with (first | (go_at_call 10; (with_reducible refine (screelaw7_same.calls _ _ (rd_L1 l0 x5_1) _ _ (rd_L1 l1 x5_1) false _ ?side1 ?side2 ?side3 ?side4 A7.out).mono ?_); (case side1 => repeat (first | exact HR103_0.out | (with_reducible refine Kd.C_alloc ?_ _) | (with_reducible refine Kd.C_drewN ?_ _) | (with_reducible refine Kd.C_drew ?_))); (case side2 => exact HC103_0.out); (case side3 => repeat (first | exact HR104_0.out | (with_reducible refine Kd.C_alloc ?_ _) | (with_reducible refine Kd.C_drewN ?_ _) | (with_reducible refine Kd.C_drew ?_))); (case side4 => exact HC104_0.out); rintro e w' ⟨rfl, ⟨nd, rfl⟩⟩; (try first | exact ⟨rfl, _, World.drewN_drewN _ _ _⟩ | exact ⟨rfl, _, Eq.trans (World.drewN_drewN _ _ _) (congrArg (World.drewN _) (Nat.add_assoc _ _ _))⟩))))
                go_ret
                exact ⟨by first | rfl | (simp; done) | (simp [*]; done), by repeat (first | exact Drawn0.refl _ | apply Drawn0.step)⟩
            · rw [if_neg c6] at H
              exact absurd H (by simp)
          · rw [if_neg c5] at H
            exact absurd H (by simp)
        · rw [if_neg c4] at H
          have c4b0 : decide (x5_1 < (l0.length : Int)) = false := decide_eq_false c4
          clear c4
          obtain rfl := Option.some.inj H
          go_wp2
          repeat (go_quiet (fail); try go_wp2)
          go_ret
          exact ⟨by first | rfl | (simp; done) | (simp [*]; done), by repeat (first | exact Drawn0.refl _ | apply Drawn0.step)⟩
  · rw [if_neg c3] at H
    have c3b0 : ((l0.length : Int) == (l1.length : Int)) = false := beq_eq_false_iff_ne.mpr c3
    have c3b1 : ((l0.length : Int) != (l1.length : Int)) = true := bne_iff_ne.mpr c3
    have c3b2 : (l0.length == l1.length) = false := by first | simpa using c3 | (simp at c3 ⊢; omega)
    obtain rfl := Option.some.inj H
    go_enter Tryd.func16, Tryd.ntmps16
    go_wp2
    repeat (go_quiet (fail); try go_wp2)
    go_ret
    exact ⟨by first | rfl | (simp; done) | (simp [*]; done), by repeat (first | exact Drawn0.refl _ | apply Drawn0.step)⟩

/-! ### log_room_p: function 29 -/
def log_room_p.f (a0 : Int) : Option (Int) := some (wrap64 (512 - (Int.tmod a0 512)))
set_option maxHeartbeats 8000000 in
set_option maxRecDepth 100000 in
theorem log_room_p.calls (a0 : Int) (r : Int) (w : World) (h : log_room_p.f a0 = some r) :
    Calls Tryd.prog 29 #[.int .i64 a0] w fun e w' => e = .returned (.int .i64 r) ∧ Drawn0 w w' := by
  have H : (some (wrap64 (512 - (Int.tmod a0 512)))) = some r := h
  clear h
  obtain rfl := Option.some.inj H
  go_enter Tryd.func29, Tryd.ntmps29
  go_wp2
  go_ret
  exact ⟨by first | rfl | (simp; done) | (simp [*]; done), by repeat (first | exact Drawn0.refl _ | apply Drawn0.step)⟩

/-! ### log_room: function 29 -/
open Go.Proofs.YtnamanalacjhnaaDoor.Lg Go.Proofs.YtnamanalacjhnaaDoor.G
theorem tm (x : Int) (p : Nat) (h0 : 0 ≤ x) (h1 : x < 9223372036854775808 + 1125899906842624) (hp : x % 512 = (p : Int)) (h : x < 9223372036854775808 ∨ p = 0) : Int.tmod (wrap64 x) 512 = (p : Int) := by
  by_cases hx : x < 9223372036854775808
  · have e : wrap64 x = x := by unfold wrap64; omega
    rw [e, Int.tmod_eq_emod_of_nonneg h0, hp]
  · have e : wrap64 x = -(18446744073709551616 - x) := by unfold wrap64; omega
    rw [e, Int.neg_tmod, Int.tmod_eq_emod_of_nonneg (by omega)]
    omega
theorem room_eq (x : Int) (p : Nat) (h : Int.tmod x 512 = (p : Int)) (hp : p ≤ 511) : log_room_p.f x = some ((512 - p : Nat) : Int) := by
  unfold log_room_p.f
  rw [h]
  congr 1
  unfold wrap64
  omega
def log_room.f (a0 : Int) : Option Int := log_room_p.f a0
theorem log_room.calls (a0 : Int) (r : Int) (w : World) (h : log_room.f a0 = some r) : Calls Tryd.prog 29 #[.int .i64 a0] w fun e w' => e = .returned (.int .i64 r) ∧ Drawn0 w w' := log_room_p.calls a0 r w h

/-! ### log_four: function 61 -/
def log_four.f (a0 : Int) : Option (List Int) := some (([(a0) % 256, (a0 / 256) % 256, (a0 / 65536) % 256, (a0 / 16777216) % 256] : List Int))
set_option maxHeartbeats 8000000 in
set_option maxRecDepth 100000 in
theorem log_four.calls (a0 : Int) (r : List Int) (w : World) (h : log_four.f a0 = some r) :
    Calls Tryd.prog 61 #[.int .u32 a0] w fun e w' => ∃ v0_ : Value, e = .returned (v0_) ∧ Kd.R (Kd.int .u8) 5 w' w.heap.size (fun _ => True) v0_ r ∧ Below w.heap.size w w' := by
  have HB := Aside0.mk (Below.refl w.heap.size w)
  have H : (some (([(a0) % 256, (a0 / 256) % 256, (a0 / 65536) % 256, (a0 / 16777216) % 256] : List Int))) = some r := h
  clear h
  obtain ⟨y106, hy106⟩ : ∃ y_ : List Int, y_ = (([(a0) % 256, (a0 / 256) % 256, (a0 / 65536) % 256, (a0 / 16777216) % 256] : List Int)) := ⟨_, rfl⟩
  replace H : (some y106) = some r := by first | (rw [hy106]; with_reducible exact H) | (have H2_ := (Option.bind_some _ _).symm.trans H; rw [hy106]; with_reducible exact H2_) | (have H2_ := (Option.bind_some _ _).symm.trans H; with_reducible exact H2_) | with_reducible exact H | (rw [hy106]; exact H) | exact H
  have Ny106 := Aside0.mk hy106
  clear hy106
  obtain rfl := Option.some.inj H
  go_enter Tryd.func61, Tryd.ntmps61
  go_wp2_with (first | ((with_reducible refine gate_dst (N := 14) rfl ?_); refine Kd.R_lit (Kd.int .u8) _ 5 ?hg (N := 14) ?hd (xs := ([(a0) % 256, (a0 / 256) % 256, (a0 / 65536) % 256, (a0 / 16777216) % 256] : List Int)) (inner := [.int .u8 ((a0) % 256), .int .u8 ((a0 / 256) % 256), .int .u8 ((a0 / 65536) % 256), .int .u8 ((a0 / 16777216) % 256)]) (ok := fun _ => True) (okp := fun _ => True) ?hr ?hp (fun _ hk => hk) trivial (Below.refl _ _) (Nat.le_refl _) (by simp) ?_; (case hd => rfl); (case hg => rfl); (case hr => first | (go_simp; done) | (go_simp; rfl)); (case hp => exact (Reps.one (show Kd.M (Kd.int .u8) _ _ _ ((a0) % 256) [.int .u8 ((a0) % 256)] from rfl) (Reps.one (show Kd.M (Kd.int .u8) _ _ _ ((a0 / 256) % 256) [.int .u8 ((a0 / 256) % 256)] from rfl) (Reps.one (show Kd.M (Kd.int .u8) _ _ _ ((a0 / 65536) % 256) [.int .u8 ((a0 / 65536) % 256)] from rfl) (Reps.one (show Kd.M (Kd.int .u8) _ _ _ ((a0 / 16777216) % 256) [.int .u8 ((a0 / 16777216) % 256)] from rfl) (Reps.none _ _)))))); intro v107 w2 ho3 hb hg_ hnew_; clear hg_ hnew_; (first | rw [← Ny106.out] at ho3 | (simp only [Int.reduceToNat] at ho3; rw [← Ny106.out] at ho3)); have n0_ := Aside0.mk (Kd.R_lower ho3 (below_size (by repeat (first | (with_reducible first | exact HB.out | apply below_alloc | apply pw_below_drewN | apply below_drew1) | exact HB.out)))); have n1_ := Aside0.mk (below_step (by repeat (first | (with_reducible first | exact HB.out | apply below_alloc | apply pw_below_drewN | apply below_drew1) | exact HB.out)) hb); clear HB; have HO108 := n0_; have HB := n1_; clear n0_ n1_; clear hb ho3))
  go_ret
  exact ⟨_, by first | rfl | (simp [errW_none, errW_some] <;> rfl) | (simp [*, errW_none, errW_some] <;> rfl), by (with_reducible repeat (first | apply Kd.R_alloc | apply Kd.R_drewN | apply Kd.R_drew)); exact HO108.out, by repeat (first | (with_reducible first | exact HB.out | apply below_alloc | apply pw_below_drewN | apply below_drew1) | exact HB.out)⟩

/-! ### codec_Sum: function 62 -/
open Go.Proofs.YtnamanalacjhnaaDoor.G
def codec_Sum.f (l0 : List Int) : Option Int := if okB l0 = true then some (sumF l0) else none
theorem codec_Sum.calls (A0 : Option Addr) (c0 : Nat) (l0 : List Int) (r : Int) (w : World) (hr0 : Kd.C (Kd.int .u8) w A0 l0.length l0) (hc0 : l0.length ≤ c0) (h : codec_Sum.f l0 = some r) (hT_ : GT w) :
    Calls Tryd.prog 62 #[.slice A0 l0.length c0] w fun e w' => e = .returned (.int .u32 r) ∧ w' = w := by
  unfold codec_Sum.f at h
  split at h
  · rename_i hh
    rw [← Option.some.inj h]
    exact Go.Proofs.YtnamanalacjhnaaDoor.G.sum_calls A0 c0 l0 w hr0 hc0 (okB_iff.1 hh) hT_
  · cases h

-- NOT PRINTED: function 66 (log_read)

-- NOT PRINTED: function 50 (log_record)

-- NOT PRINTED: function 17 (log_Read)

/-! ### screelaw7_num: function 18 -/
def screelaw7_num.f (a0 : Int) : Option (Int) := some a0
set_option maxHeartbeats 8000000 in
set_option maxRecDepth 100000 in
theorem screelaw7_num.calls (a0 : Int) (r : Int) (w : World) (h : screelaw7_num.f a0 = some r) :
    Calls Tryd.prog 18 #[.int .i64 a0] w fun e w' => e = .returned (.int .i64 r) ∧ Drawn0 w w' := by
  have H : (some a0) = some r := h
  clear h
  obtain rfl := Option.some.inj H
  go_enter Tryd.func18, Tryd.ntmps18
  go_wp2
  go_ret
  exact ⟨by first | rfl | (simp; done) | (simp [*]; done), by repeat (first | exact Drawn0.refl _ | apply Drawn0.step)⟩

/-! ### log_piece_p: function 30 -/
def log_piece_p.f (a0 : Int) (l1 : List Int) : Option (List Int) := (some (([((l1.length : Int)) % 256, ((l1.length : Int) / 256) % 256, (a0) % 256] : List Int) : List Int)).bind fun y136 => (if y136.length + l1.length < 140737488355328 then ((some (y136 ++ l1 : List Int)).bind fun y139 => ((codec_Sum.f y139).bind fun t142 => ((log_four.f t142).bind fun t143 => (if t143.length + y139.length < 140737488355328 then (some (t143 ++ y139)) else (none))))) else (none))
set_option maxHeartbeats 8000000 in
set_option maxRecDepth 100000 in
theorem log_piece_p.calls (a0 : Int) (A1 : Option Addr) (c1 : Nat) (l1 : List Int) (r : List Int) (w : World) (hr1 : Kd.C (Kd.int .u8) w A1 l1.length l1) (hc1 : l1.length ≤ c1) (h : log_piece_p.f a0 l1 = some r) (hT_ : GT w) :
    Calls Tryd.prog 30 #[.int .i64 a0, .slice A1 l1.length c1] w fun e w' => ∃ v0_ : Value, e = .returned (v0_) ∧ Kd.R (Kd.int .u8) 5 w' w.heap.size (fun _ => True) v0_ r ∧ Below w.heap.size w w' := by
  have HT_ := Aside0.mk hT_
  clear hT_
  have HR1 := Aside0.mk hr1
  have HC1 := Aside0.mk hc1
  clear hr1 hc1
  have HB := Aside0.mk (Below.refl w.heap.size w)
  have H : ((some (([((l1.length : Int)) % 256, ((l1.length : Int) / 256) % 256, (a0) % 256] : List Int) : List Int)).bind fun y136 => (if y136.length + l1.length < 140737488355328 then ((some (y136 ++ l1 : List Int)).bind fun y139 => ((codec_Sum.f y139).bind fun t142 => ((log_four.f t142).bind fun t143 => (if t143.length + y139.length < 140737488355328 then (some (t143 ++ y139)) else (none))))) else (none))) = some r := h
  clear h
  obtain ⟨y136, hy136⟩ : ∃ y_ : List Int, y_ = (([((l1.length : Int)) % 256, ((l1.length : Int) / 256) % 256, (a0) % 256] : List Int)) := ⟨_, rfl⟩
  replace H : (if y136.length + l1.length < 140737488355328 then ((some (y136 ++ l1 : List Int)).bind fun y139 => ((codec_Sum.f y139).bind fun t142 => ((log_four.f t142).bind fun t143 => (if t143.length + y139.length < 140737488355328 then (some (t143 ++ y139)) else (none))))) else (none)) = some r := by first | (rw [hy136]; with_reducible exact H) | (have H2_ := (Option.bind_some _ _).symm.trans H; rw [hy136]; with_reducible exact H2_) | (have H2_ := (Option.bind_some _ _).symm.trans H; with_reducible exact H2_) | with_reducible exact H | (rw [hy136]; exact H) | exact H
  have Ny136 := Aside0.mk hy136
  clear hy136
  by_cases c3 : y136.length + l1.length < 140737488355328
  · rw [if_pos c3] at H
    have LMc3 := Aside0.mk c3
    clear c3
    obtain ⟨y139, hy139⟩ : ∃ y_ : List Int, y_ = (y136 ++ l1) := ⟨_, rfl⟩
    replace H : ((codec_Sum.f y139).bind fun t142 => ((log_four.f t142).bind fun t143 => (if t143.length + y139.length < 140737488355328 then (some (t143 ++ y139)) else (none)))) = some r := by first | (rw [hy139]; with_reducible exact H) | (have H2_ := (Option.bind_some _ _).symm.trans H; rw [hy139]; with_reducible exact H2_) | (have H2_ := (Option.bind_some _ _).symm.trans H; with_reducible exact H2_) | with_reducible exact H | (rw [hy139]; exact H) | exact H
    have Ny139 := Aside0.mk hy139
    clear hy139
    replace H := Option.bind_eq_some_iff.mp H
    obtain ⟨t142, A40, H⟩ := H
    replace H : ((log_four.f t142).bind fun t143 => (if t143.length + y139.length < 140737488355328 then (some (t143 ++ y139)) else (none))) = some r := H
    have A4 := Aside0.mk A40
    clear A40
    replace H := Option.bind_eq_some_iff.mp H
    obtain ⟨t143, A50, H⟩ := H
    replace H : (if t143.length + y139.length < 140737488355328 then (some (t143 ++ y139)) else (none)) = some r := H
    have A5 := Aside0.mk A50
    clear A50
    by_cases c6 : t143.length + y139.length < 140737488355328
    · rw [if_pos c6] at H
      have LMc6 := Aside0.mk c6
      clear c6
      obtain ⟨y146, hy146⟩ : ∃ y_ : List Int, y_ = (t143 ++ y139) := ⟨_, rfl⟩
      replace H : (some y146) = some r := by first | (rw [hy146]; with_reducible exact H) | (have H2_ := (Option.bind_some _ _).symm.trans H; rw [hy146]; with_reducible exact H2_) | (have H2_ := (Option.bind_some _ _).symm.trans H; with_reducible exact H2_) | with_reducible exact H | (rw [hy146]; exact H) | exact H
      have Ny146 := Aside0.mk hy146
      clear hy146
      obtain rfl := Option.some.inj H
      go_enter Tryd.func30, Tryd.ntmps30
      go_wp2_with (first | ((with_reducible refine gate_dst (N := 15) rfl ?_); refine Kd.R_lit (Kd.int .u8) _ 5 ?hg (N := 15) ?hd (xs := ([((l1.length : Int)) % 256, ((l1.length : Int) / 256) % 256, (a0) % 256] : List Int)) (inner := [.int .u8 (((l1.length : Int)) % 256), .int .u8 (((l1.length : Int) / 256) % 256), .int .u8 ((a0) % 256)]) (ok := fun _ => True) (okp := fun _ => True) ?hr ?hp (fun _ hk => hk) trivial (Below.refl _ _) (Nat.le_refl _) (by simp) ?_; (case hd => rfl); (case hg => rfl); (case hr => first | (go_simp; done) | (go_simp; rfl)); (case hp => exact (Reps.one (show Kd.M (Kd.int .u8) _ _ _ (((l1.length : Int)) % 256) [.int .u8 (((l1.length : Int)) % 256)] from rfl) (Reps.one (show Kd.M (Kd.int .u8) _ _ _ (((l1.length : Int) / 256) % 256) [.int .u8 (((l1.length : Int) / 256) % 256)] from rfl) (Reps.one (show Kd.M (Kd.int .u8) _ _ _ ((a0) % 256) [.int .u8 ((a0) % 256)] from rfl) (Reps.none _ _))))); intro v137 w7 ho8 hb hg_ hnew_; clear hg_ hnew_; (first | rw [← Ny136.out] at ho8 | (simp only [Int.reduceToNat] at ho8; rw [← Ny136.out] at ho8)); have n0_ := Aside0.mk (Kd.R_lower ho8 (below_size (by repeat (first | (with_reducible first | exact HB.out | apply below_alloc | apply pw_below_drewN | apply below_drew1) | exact HB.out)))); have n1_ := Aside0.mk (below_step (by repeat (first | (with_reducible first | exact HB.out | apply below_alloc | apply pw_below_drewN | apply below_drew1) | exact HB.out)) hb); clear HB; have HO138 := n0_; have HB := n1_; clear n0_ n1_; clear hb ho8) | ((with_reducible refine gate_builtin (b := .append) (xs := #[.tmp 15, .tmp 16]) rfl ?_); at_builtin; refine Kd.R_append_rows (Kd.int .u8) (w0 := w) w.heap.size rfl (.tmp 15) (.tmp 16) 22 5 (.int .u8 0) 1 rfl Tryd.underlying22 info5 rfl (by decide) (by omega) v137 y136 l1 _ _ _ (fun _ => True) (fun _ => False) rfl rfl ?aO ?aR (fun _ _ h => h) (fun _ h => h.elim) ?aF ?aB ?aS ?aL ?_; (case aR => repeat (first | exact (Kd.C_below HR1.out HB.out) | (with_reducible refine Kd.C_alloc ?_ _) | (with_reducible refine Kd.C_drewN ?_ _) | (with_reducible refine Kd.C_drew ?_))); (case aB => exact (by repeat (first | (with_reducible first | exact HB.out | apply below_alloc | apply pw_below_drewN | apply below_drew1) | exact HB.out))); (case aF => exact (fun _ _ => trivial)); (case aO => exact (by (with_reducible repeat (first | apply Kd.R_alloc | apply Kd.R_drewN | apply Kd.R_drew)); exact HO138.out)); (case aS => exact (below_size (by repeat (first | (with_reducible first | exact HB.out | apply below_alloc | apply pw_below_drewN | apply below_drew1) | exact HB.out)))); (case aL => have := LMc3.out; omega); intro v140 w9 ho hb hg hat; rw [← Ny139.out] at ho; have n0_ := Aside0.mk (hb); have n1_ := Aside0.mk (ho); clear HB; clear HO138; have HB := n0_; have HO141 := n1_; clear n0_ n1_; clear ho hb hg hat; obtain ⟨Ao10, co10, eo10⟩ := Kd.R_slice HO141.out; subst eo10) | ((with_reducible refine gate_callee (f := 62) rfl ?_); refine goesL_ (some 19) rfl rfl Tryd.func62 (by kernel_rfl) rfl #[.slice Ao10 y139.length co10] rfl (by (try simp only [List.map_toArray, List.map_cons, List.map_nil]); first | done | rfl | (simp only [List.length_drop, List.length_take]; rfl)) ?_; (with_reducible refine (codec_Sum.calls _ _ y139 t142 _ ?side1 ?side2 A4.out ?side3).mono ?_); (case side1 => repeat (first | exact (Kd.R_reads' HO141.out).2.2 | (with_reducible refine Kd.C_alloc ?_ _) | (with_reducible refine Kd.C_drewN ?_ _) | (with_reducible refine Kd.C_drew ?_))); (case side2 => exact (Kd.R_reads' HO141.out).2.1); (case side3 => first | (with_reducible exact HT_.out) | exact GT.below HT_.out (by repeat (first | (with_reducible first | exact HB.out | apply below_alloc | apply pw_below_drewN | apply below_drew1) | exact HB.out))); rintro e w' ⟨rfl, ⟨nd, rfl⟩⟩; refine ⟨_, rfl, ?_⟩) | ((with_reducible refine gate_callee (f := 61) rfl ?_); refine goesL_ (some 20) rfl rfl Tryd.func61 (by kernel_rfl) rfl #[.int .u32 t142] rfl (by (try simp only [List.map_toArray, List.map_cons, List.map_nil]); first | done | rfl | (simp only [List.length_drop, List.length_take]; rfl)) ?_; (with_reducible refine (log_four.calls t142 t143 _ A5.out).mono ?_); rintro e w11 ⟨v144, rfl, ho0, hb⟩; refine ⟨_, rfl, ?_⟩; have n0_ := Aside0.mk (Kd.R_elder' (by (with_reducible repeat (first | apply Kd.R_alloc | apply Kd.R_drewN | apply Kd.R_drew)); exact HO141.out) (Kd.R_base ho0) hb); have n1_ := Aside0.mk (Kd.R_lower (Kd.R_new' ho0 (Kd.R_lt (by (with_reducible repeat (first | apply Kd.R_alloc | apply Kd.R_drewN | apply Kd.R_drew)); exact HO141.out))) (below_size (by repeat (first | (with_reducible first | exact HB.out | apply below_alloc | apply pw_below_drewN | apply below_drew1) | exact HB.out)))); have n2_ := Aside0.mk (below_step (by repeat (first | (with_reducible first | exact HB.out | apply below_alloc | apply pw_below_drewN | apply below_drew1) | exact HB.out)) hb); clear HO141; clear HB; have HO141 := n0_; have HO145 := n1_; have HB := n2_; clear n0_ n1_ n2_; (try clear hb); (try clear hb2); (try clear hk); (try clear hi); (try clear ho0)) | ((with_reducible refine gate_builtin (b := .append) (xs := #[.tmp 20, .tmp 21]) rfl ?_); at_builtin; refine Kd.R_append_rows (Kd.int .u8) (w0 := w) w.heap.size rfl (.tmp 20) (.tmp 21) 22 5 (.int .u8 0) 1 rfl Tryd.underlying22 info5 rfl (by decide) (by omega) v144 t143 y139 _ _ _ (fun k_ => some k_ ≠ (.slice Ao10 y139.length co10 : Value).ownBlock) (fun _ => False) rfl rfl ?aO ?aR (fun _ _ h => h) (fun _ h => h.elim) ?aF ?aB ?aS ?aL ?_; (case aR => repeat (first | exact (Kd.R_reads' HO141.out).2.2 | (with_reducible refine Kd.C_alloc ?_ _) | (with_reducible refine Kd.C_drewN ?_ _) | (with_reducible refine Kd.C_drew ?_))); (case aB => exact (by repeat (first | (with_reducible first | exact HB.out | apply below_alloc | apply pw_below_drewN | apply below_drew1) | exact HB.out))); (case aF => exact (fun k_ hk => Kd.fresh' (Kd.R_lt (by (with_reducible repeat (first | apply Kd.R_alloc | apply Kd.R_drewN | apply Kd.R_drew)); exact HO141.out)) k_ hk)); (case aO => exact (by (with_reducible repeat (first | apply Kd.R_alloc | apply Kd.R_drewN | apply Kd.R_drew)); exact Kd.R_mono HO145.out (fun _ hk => hk.2))); (case aS => exact (below_size (by repeat (first | (with_reducible first | exact HB.out | apply below_alloc | apply pw_below_drewN | apply below_drew1) | exact HB.out)))); (case aL => have := LMc6.out; omega); intro v147 w12 ho hb hg hat; rw [← Ny146.out] at ho; have n0_ := Aside0.mk (Kd.R_after (ok := (fun _ => True)) (by (with_reducible repeat (first | apply Kd.R_alloc | apply Kd.R_drewN | apply Kd.R_drew)); exact HO141.out) hg hat); have n1_ := Aside0.mk (hb); have n2_ := Aside0.mk (ho); clear HO141; clear HB; clear HO145; have HO141 := n0_; have HB := n1_; have HO148 := n2_; clear n0_ n1_ n2_; clear ho hb hg hat))
      go_ret
      exact ⟨_, by first | rfl | (simp [errW_none, errW_some] <;> rfl) | (simp [*, errW_none, errW_some] <;> rfl), by (with_reducible repeat (first | apply Kd.R_alloc | apply Kd.R_drewN | apply Kd.R_drew)); exact Kd.R_mono HO148.out (fun _ hk => trivial), by repeat (first | (with_reducible first | exact HB.out | apply below_alloc | apply pw_below_drewN | apply below_drew1) | exact HB.out)⟩
    · rw [if_neg c6] at H
      exact absurd H (by simp)
  · rw [if_neg c3] at H
    exact absurd H (by simp)

/-! ### log_piece: function 30 -/
open Go.Proofs.YtnamanalacjhnaaDoor.Lg Go.Proofs.YtnamanalacjhnaaDoor.G
def log_piece.f (a0 : Int) (l1 : List Int) : Option (List Int) := if okB l1 = true ∧ l1.length ≤ 140737488351232 ∧ 0 ≤ a0 ∧ a0 ≤ 255 then some (pieceL a0 l1) else none
theorem log_piece.calls (a0 : Int) (A1 : Option Addr) (c1 : Nat) (l1 : List Int) (r : List Int) (w : World) (hr1 : Kd.C (Kd.int .u8) w A1 l1.length l1) (hc1 : l1.length ≤ c1) (h : log_piece.f a0 l1 = some r) (hT_ : GT w) :
    Calls Tryd.prog 30 #[.int .i64 a0, .slice A1 l1.length c1] w fun e w' => ∃ v0_ : Value, e = .returned (v0_) ∧ Kd.R (Kd.int .u8) 5 w' w.heap.size (fun _ => True) v0_ r ∧ Below w.heap.size w w' := by
  unfold log_piece.f at h
  split at h
  · rename_i hh
    obtain ⟨hb, hl, h0, h1⟩ := hh
    have hb := okB_iff.1 hb
    refine log_piece_p.calls a0 A1 c1 l1 r w hr1 hc1 ?_ hT_
    unfold log_piece_p.f
    have e1 : (l1.length : Int) % 256 = ((l1.length % 256 : Nat) : Int) := by omega
    have e2 : (l1.length : Int) / 256 % 256 = ((l1.length / 256 % 256 : Nat) : Int) := by omega
    have e3 : a0 % 256 = a0 := by omega
    rw [e1, e2, e3]
    simp only [Option.bind_some]
    rw [if_pos (by simp; omega)]
    have hB := body_bytes ⟨h0, h1⟩ hb
    have hf := four_eq (sumF_range hB)
    unfold bodyL at hf hB
    unfold codec_Sum.f
    rw [if_pos (okB_iff.2 hB)]
    simp only [Option.bind_some]
    unfold log_four.f
    simp only [Option.bind_some]
    rw [hf, if_pos (by rw [four_len]; simp; omega), ← h]
    rfl
  · cases h

/-! ### log_Append: function 11 -/
open Go.Proofs.YtnamanalacjhnaaDoor.Lg Go.Proofs.YtnamanalacjhnaaDoor.G Go.Proofs.YtnamanalacjhnaaDoor.Wk
theorem cPiece {w : World} {A : Option Addr} {n c : Nat} {l : List Int} {kd : Int} (h : Rd (Kd.int .u8) w A n c l) (hl : n ≤ 140737488351232) (hb : Bytes l) (h0 : 0 ≤ kd ∧ kd ≤ 255) (hT : GT w) : Calls Tryd.prog 30 #[.int .i64 kd, .slice A n c] w (Made (Kd.int .u8) 5 w (pieceL kd l)) := by
  obtain ⟨rfl, a2, a3⟩ := h
  exact (log_piece.calls kd A c l _ w a3 a2 (by unfold log_piece.f; rw [if_pos ⟨okB_iff.2 hb, hl, h0.1, h0.2⟩]) hT).mono fun _ _ h => Made.of h
theorem infoB8 : (Tryd.prog.info? 5).map (fun i => (i.zero, i.size, i.bytes)) = some (some (.int .u8 0), 1, 1) := by kernel_rfl
def log_Append.f (a0 : Int) (l1 : List Int) : Option (List Int) := if okB l1 = true ∧ l1.length ≤ 1073741824 ∧ a0 ≤ 9223372036854775807 then some (appendL a0 l1) else none
/-- What holds at a round's head. -/
structure Here (w : World) (r : List Int) (a : Nat) (wr : World) (vo : Value) (first : Bool) (place : Nat) (rec out : List Int) : Prop where
  bel : Below w.heap.size w wr
  own : Kd.R (Kd.int .u8) 5 wr w.heap.size (fun _ => True) vo out
  at1 : ((a : Int) + (out.length : Int)) % 512 = (place : Int)
  at2 : (a : Int) + (out.length : Int) < 9223372036854775808 ∨ place = 0
  at3 : place ≤ 504
  res : out ++ piecesL first place rec = r
  len : out.length + 8 * rec.length ≤ 8589935104
  byt : Bytes rec
set_option maxHeartbeats 8000000 in
set_option maxRecDepth 100000 in
theorem append_walk (a0 : Int) (A1 : Option Addr) (c1 : Nat) (l1 : List Int) (w : World) (hr1 : Rd (Kd.int .u8) w A1 l1.length c1 l1) (hb : Bytes l1) (hl : l1.length ≤ 1073741824) (ha : a0 ≤ 9223372036854775807) (hT : GT w) :
    Calls Tryd.prog 11 #[.int .i64 a0, .slice A1 l1.length c1] w fun e w' => ∃ v0_ : Value, e = .returned (v0_) ∧ Kd.R (Kd.int .u8) 5 w' w.heap.size (fun _ => True) v0_ (appendL a0 l1) ∧ Below w.heap.size w w' := by
  obtain ⟨r, hr⟩ : ∃ r, r = appendL a0 l1 := ⟨_, rfl⟩
  rw [← hr]
  obtain ⟨a, hA⟩ : ∃ a, a = (max a0 0).toNat := ⟨_, rfl⟩
  have e1 : (if a0 < 0 then (0 : Int) else a0) = (a : Int) := by split <;> omega
  have hal : a ≤ 9223372036854775807 := by omega
  unfold appendL at hr
  rw [← hA] at hr
  obtain ⟨p, hp⟩ : ∃ p, p = a % 512 := ⟨_, rfl⟩
  simp only [← hp] at hr
  have HRM : Aside0 (log_room.f (a : Int) = some ((512 - p : Nat) : Int)) := ⟨room_eq (a : Int) p (by rw [Int.tmod_eq_emod_of_nonneg (by omega)]; omega) (by omega)⟩
  have HR := Aside0.mk hr
  have HR1 := Aside0.mk hr1
  have HB := Aside0.mk hb
  have HT := Aside0.mk hT
  have HP := Aside0.mk hp
  obtain ⟨q, hq⟩ : ∃ q, q = 512 - p := ⟨_, rfl⟩
  rw [← hq] at HRM
  have hq1 : 1 ≤ q ∧ q ≤ 512 := by omega
  have HQ : Aside0 (q + p = 512) := ⟨by omega⟩
  obtain ⟨hq1, hq2⟩ := hq1
  clear hr hr1 hb hT hA hp hq
  go_enter Tryd.func11, Tryd.ntmps11
  go_wp2_with fail
  refine (log_room.calls (a : Int) (q : Int) w HRM.out).mono ?_
  rintro e w1 ⟨rfl, hD⟩
  have HB1 : Aside0 (Below w.heap.size w w1) := ⟨hD.below⟩
  clear hD
  go_upto_if 14 with fail
  go_cut [5] (fun s5 wx => ∃ (place : Nat) (out : List Int), Aside0 (Here w r a wx s5 true place l1 out))
  case first =>
    by_cases h7 : q ≤ 7
    · have d7 : decide ((q : Int) ≤ 7) = true := decide_eq_true (by omega)
      have d7' : decide (q ≤ 7) = true := decide_eq_true (by omega)
      have HR2 : Aside0 (List.replicate q 0 ++ piecesL true 0 l1 = r) := ⟨by have h1 := HR.out; have h2 := HQ.out; rw [if_pos (by omega), show 512 - p = q by omega] at h1; exact h1.symm⟩
      go_wp2_with (first | (at_make; go_must (refine R_make_cap (enc := Value.int .u8) (h1 := fun _ => rfl) (w0 := w) w.heap.size 5 rfl (N := 16) rfl 22 _ _ rfl (q : Int) (q : Int) rfl rfl Tryd.underlying22 (0 : Int) 1 infoB8 rfl (by omega) (ok := fun _ => True) trivial (by omega) (by omega) (by omega) HB1.out HB1.out.size ?_); intro v1 w2 ho hb hg hn; (have HO := Aside0.mk ho); (have HB2 := Aside0.mk hb); clear ho hb hg hn))
      have hzz := HO.out
      rw [Int.toNat_natCast] at hzz
      have HO1 := Aside0.mk hzz
      clear HO hzz
      go_wp2_with fail
      go_meet
      case rel => exact ⟨0, List.replicate q 0, ⟨⟨HB2.out, HO1.out, by rw [List.length_replicate]; have h1 := HP.out; have h2 := HQ.out; omega, .inr rfl, by omega, HR2.out, by rw [List.length_replicate]; omega, HB.out⟩⟩⟩
    · have d7 : decide ((q : Int) ≤ 7) = false := decide_eq_false (by omega)
      have d7' : decide (q ≤ 7) = false := decide_eq_false (by omega)
      have HR2 : Aside0 (piecesL true p l1 = r) := ⟨by have h1 := HR.out; have h2 := HQ.out; rw [if_neg (by omega)] at h1; exact h1.symm⟩
      go_wp2_with fail
      go_meet
      case rel => exact ⟨p, [], ⟨⟨HB1.out, Kd.R_nil _ _ _ _ _, by have h1 := HP.out; simp; omega, .inl (by simp; omega), by have h2 := HQ.out; omega, HR2.out, by simp; omega, HB.out⟩⟩⟩
  case rest =>
    obtain ⟨place, out, HE⟩ := hcut
    go_wp2_with fail
    go_loopw [1, 5, 7] (fun vr vo vk wr => ∃ (first : Bool) (place : Nat) (rec out : List Int) (A : Option Addr) (n c : Nat), vr = .slice A n c ∧ vk = .int .i64 (if first then 1 else 3) ∧ Aside0 (Rd (Kd.int .u8) w A n c rec) ∧ Aside0 (Here w r a wr vo first place rec out)) (fun vr _ _ _ => slen vr)
    case atStart => exact ⟨true, place, l1, out, A1, l1.length, c1, rfl, rfl, HR1, HE⟩
    case round =>
      clear HE HR1 HR
      obtain ⟨first, place, rec, out, A, n, c, rfl, rfl, HRC, HE⟩ := hrel
      obtain ⟨Ao, no, co, rfl, hrd, how⟩ := Rd.of_R HE.out.own
      have HOW := Aside0.mk how
      have hno : out.length = no := hrd.1
      have hn : rec.length = n := HRC.out.1
      have hnc : n ≤ c := HRC.out.2.1
      have hlen := HE.out.len
      have hpl := HE.out.at3
      rw [hno, hn] at hlen
      have hx := tm ((a : Int) + (no : Int)) place (by omega) (by omega) (by rw [← hno]; exact HE.out.at1) (by rw [← hno]; exact HE.out.at2)
      obtain ⟨X, hX⟩ : ∃ X, wrap64 ((a : Int) + (no : Int)) = X := ⟨_, rfl⟩
      rw [hX] at hx
      have HRM2 : Aside0 (log_room.f X = some ((512 - place : Nat) : Int)) := ⟨room_eq X place hx (by omega)⟩
      obtain ⟨s, hs⟩ : ∃ s, s = 512 - place := ⟨_, rfl⟩
      rw [← hs] at HRM2
      obtain ⟨q2, hq2'⟩ : ∃ q2, q2 = 505 - place := ⟨_, rfl⟩
      have hsq : (s : Int) - 7 = (q2 : Int) := by omega
      have hs2 : s ≤ 512 := by omega
      have hq3 : 1 ≤ q2 := by omega
      have HQ2 := Aside0.mk hq2'
      have HNO := Aside0.mk hno
      have HN := Aside0.mk hn
      have HTR := Aside0.mk (GT.below HT.out HE.out.bel)
      have HRR := Aside0.mk (HRC.out.step HE.out.bel)
      clear hrd how hx hs hq2' hno hn HRM
      by_cases hr7 : n ≤ q2
      · have e3 : (if (q2 : Int) < (n : Int) then (q2 : Int) else (n : Int)) = (n : Int) := if_neg (by omega)
        have HRES : Aside0 (out ++ pieceL (kindL first true) rec = r) := ⟨by rw [← pieces_last (place := place) (by have h1 := HQ2.out; have h2 := HN.out; omega)]; exact HE.out.res⟩
        cases first
        · skip
          go_wp2_with fail
          refine (log_room.calls X (s : Int) _ HRM2.out).mono ?_
          rintro e w3 ⟨rfl, hD⟩
          have HB3 := Aside0.mk (below_then HE.out.bel HE.out.bel.size hD.below)
          have HO3 := Aside0.mk (Kd.R_below HOW.out hD.below)
          have HT3 := Aside0.mk (GT.below HTR.out hD.below)
          have HR3 := Aside0.mk (HRR.out.step hD.below)
          clear hD
          go_wp2_with fail
          refine (cPiece (kd := 4) HR3.out (by omega) HE.out.byt (by decide) HT3.out).mono ?_
          rintro e w5 ⟨A5, n5, c5, r5, rfl, h5, hd5, -, hb5⟩
          have HB5 := Aside0.mk (below_then HB3.out HB3.out.size hb5)
          have HO5 := Aside0.mk (Kd.R_below HO3.out hb5)
          have HR5 := Aside0.mk hd5
          have H5 := Aside0.mk h5
          have HL5 : Aside0 (r5.length = n5 ∧ n5 = n + 7) := ⟨hd5.1, by rw [← hd5.1, h5, piece_len, HN.out]⟩
          clear h5 hd5 hb5
          go_wp2_with (first | ((with_reducible refine gate_builtin (b := .append) (xs := #[.tmp 32, .tmp 35]) rfl ?_); at_builtin; go_must (refine Kd.R_append_rows (Kd.int .u8) (w0 := w) w.heap.size rfl (.tmp 32) (.tmp 35) 22 5 (.int .u8 0) 1 rfl Tryd.underlying22 infoB8 rfl (by decide) (by omega) (.slice Ao no co) out r5 _ _ _ (fun _ => True) (fun _ => False) rfl rfl ?aO ?aR (fun _ _ h => h) (fun _ h => h.elim) (fun _ _ => trivial) HB5.out HB5.out.size ?aL ?_); (case aO => exact HO5.out); (case aR => exact HR5.out.2.2); (case aL => have h1 := HNO.out; have h2 := HL5.out; omega); intro v6 w6 ho hb hg_ hn_; (have HO6 := Aside0.mk ho); (have HB6 := Aside0.mk hb); clear ho hb hg_ hn_))
          go_ret
          exact ⟨_, rfl, by rw [← HRES.out]; rw [H5.out] at HO6; exact HO6.out, HB6.out⟩
        · skip
          go_wp2_with fail
          refine (log_room.calls X (s : Int) _ HRM2.out).mono ?_
          rintro e w3 ⟨rfl, hD⟩
          have HB3 := Aside0.mk (below_then HE.out.bel HE.out.bel.size hD.below)
          have HO3 := Aside0.mk (Kd.R_below HOW.out hD.below)
          have HT3 := Aside0.mk (GT.below HTR.out hD.below)
          have HR3 := Aside0.mk (HRR.out.step hD.below)
          clear hD
          go_wp2_with fail
          refine (cPiece (kd := 1) HR3.out (by omega) HE.out.byt (by decide) HT3.out).mono ?_
          rintro e w5 ⟨A5, n5, c5, r5, rfl, h5, hd5, -, hb5⟩
          have HB5 := Aside0.mk (below_then HB3.out HB3.out.size hb5)
          have HO5 := Aside0.mk (Kd.R_below HO3.out hb5)
          have HR5 := Aside0.mk hd5
          have H5 := Aside0.mk h5
          have HL5 : Aside0 (r5.length = n5 ∧ n5 = n + 7) := ⟨hd5.1, by rw [← hd5.1, h5, piece_len, HN.out]⟩
          clear h5 hd5 hb5
          go_wp2_with (first | ((with_reducible refine gate_builtin (b := .append) (xs := #[.tmp 32, .tmp 35]) rfl ?_); at_builtin; go_must (refine Kd.R_append_rows (Kd.int .u8) (w0 := w) w.heap.size rfl (.tmp 32) (.tmp 35) 22 5 (.int .u8 0) 1 rfl Tryd.underlying22 infoB8 rfl (by decide) (by omega) (.slice Ao no co) out r5 _ _ _ (fun _ => True) (fun _ => False) rfl rfl ?aO ?aR (fun _ _ h => h) (fun _ h => h.elim) (fun _ _ => trivial) HB5.out HB5.out.size ?aL ?_); (case aO => exact HO5.out); (case aR => exact HR5.out.2.2); (case aL => have h1 := HNO.out; have h2 := HL5.out; omega); intro v6 w6 ho hb hg_ hn_; (have HO6 := Aside0.mk ho); (have HB6 := Aside0.mk hb); clear ho hb hg_ hn_))
          go_ret
          exact ⟨_, rfl, by rw [← HRES.out]; rw [H5.out] at HO6; exact HO6.out, HB6.out⟩
      · have e3 : (if (q2 : Int) < (n : Int) then (q2 : Int) else (n : Int)) = (q2 : Int) := if_pos (by omega)
        have deq : ((q2 : Int) == (n : Int)) = false := by rw [beq_eq_false_iff_ne]; omega
        have deq' : (q2 == n) = false := by rw [beq_eq_false_iff_ne]; omega
        have hto := Rd.to (P := Tryd.prog) (t := 22) Tryd.underlying22 infoB8 .i64 A n c q2 (by omega) hnc
        obtain ⟨A', hfrom, hfr⟩ := Rd.from (P := Tryd.prog) (t := 22) (Kd.int .u8) Tryd.underlying22 infoB8 .i64 A n c q2 (by omega) hnc
        have HRT := Aside0.mk (HRR.out.take q2 (by omega))
        have HBT := Aside0.mk (bytes_take HE.out.byt q2)
        have HRF := Aside0.mk (hfr w rec HRC.out)
        have HRES : Aside0 ((out ++ pieceL (kindL first false) (rec.take q2)) ++ piecesL false 0 (rec.drop q2) = r) := ⟨by
          have h1 := HQ2.out
          have h2 := HN.out
          have h3 := HE.out.res
          rw [pieces_more (by omega) (by omega), ← h1, ← List.append_assoc] at h3
          exact h3⟩
        clear hfr
        cases first
        · skip
          go_wp2_with fail
          refine (log_room.calls X (s : Int) _ HRM2.out).mono ?_
          rintro e w3 ⟨rfl, hD⟩
          have HB3 := Aside0.mk (below_then HE.out.bel HE.out.bel.size hD.below)
          have HO3 := Aside0.mk (Kd.R_below HOW.out hD.below)
          have HT3 := Aside0.mk (GT.below HTR.out hD.below)
          have HR3 := Aside0.mk (HRT.out.step hD.below)
          clear hD
          go_wp2_with fail
          refine (cPiece (kd := 3) HR3.out (by omega) HBT.out (by decide) HT3.out).mono ?_
          rintro e w5 ⟨A5, n5, c5, r5, rfl, h5, hd5, -, hb5⟩
          have HB5 := Aside0.mk (below_then HB3.out HB3.out.size hb5)
          have HO5 := Aside0.mk (Kd.R_below HO3.out hb5)
          have HR5 := Aside0.mk hd5
          have H5 := Aside0.mk h5
          have HL5 : Aside0 (r5.length = n5 ∧ n5 = q2 + 7) := ⟨hd5.1, by rw [← hd5.1, h5, piece_len, List.length_take, HN.out]; omega⟩
          clear h5 hd5 hb5
          go_wp2_with (first | ((with_reducible refine gate_builtin (b := .append) (xs := #[.tmp 39, .tmp 44]) rfl ?_); at_builtin; go_must (refine Kd.R_append_rows (Kd.int .u8) (w0 := w) w.heap.size rfl (.tmp 39) (.tmp 44) 22 5 (.int .u8 0) 1 rfl Tryd.underlying22 infoB8 rfl (by decide) (by omega) (.slice Ao no co) out r5 _ _ _ (fun _ => True) (fun _ => False) rfl rfl ?aO ?aR (fun _ _ h => h) (fun _ h => h.elim) (fun _ _ => trivial) HB5.out HB5.out.size ?aL ?_); (case aO => exact HO5.out); (case aR => exact HR5.out.2.2); (case aL => have h1 := HNO.out; have h2 := HL5.out; omega); intro v6 w6 ho hb hg_ hn_; (have HO6 := Aside0.mk ho); (have HB6 := Aside0.mk hb); clear ho hb hg_ hn_))
          go_region
          all_goals go_wp2_with fail
          have HLO : Aside0 ((out ++ r5).length = no + q2 + 7) := ⟨by rw [List.length_append]; have h1 := HNO.out; have h2 := HL5.out; omega⟩
          all_goals exact ⟨⟨false, 0, rec.drop q2, out ++ r5, A', n - q2, c - q2, rfl, rfl, HRF, ⟨⟨below_drew HB6.out, HO6.out, by rw [HLO.out]; have h1 := HE.out.at1; have h2 := HNO.out; have h3 := HQ2.out; omega, .inr rfl, by omega, by rw [H5.out]; exact HRES.out, by rw [HLO.out, List.length_drop]; have h2 := HN.out; omega, bytes_drop HE.out.byt q2⟩⟩⟩, by rw [slen_slice, slen_slice]; omega⟩
        · skip
          go_wp2_with fail
          refine (log_room.calls X (s : Int) _ HRM2.out).mono ?_
          rintro e w3 ⟨rfl, hD⟩
          have HB3 := Aside0.mk (below_then HE.out.bel HE.out.bel.size hD.below)
          have HO3 := Aside0.mk (Kd.R_below HOW.out hD.below)
          have HT3 := Aside0.mk (GT.below HTR.out hD.below)
          have HR3 := Aside0.mk (HRT.out.step hD.below)
          clear hD
          go_wp2_with fail
          refine (cPiece (kd := 2) HR3.out (by omega) HBT.out (by decide) HT3.out).mono ?_
          rintro e w5 ⟨A5, n5, c5, r5, rfl, h5, hd5, -, hb5⟩
          have HB5 := Aside0.mk (below_then HB3.out HB3.out.size hb5)
          have HO5 := Aside0.mk (Kd.R_below HO3.out hb5)
          have HR5 := Aside0.mk hd5
          have H5 := Aside0.mk h5
          have HL5 : Aside0 (r5.length = n5 ∧ n5 = q2 + 7) := ⟨hd5.1, by rw [← hd5.1, h5, piece_len, List.length_take, HN.out]; omega⟩
          clear h5 hd5 hb5
          go_wp2_with (first | ((with_reducible refine gate_builtin (b := .append) (xs := #[.tmp 39, .tmp 44]) rfl ?_); at_builtin; go_must (refine Kd.R_append_rows (Kd.int .u8) (w0 := w) w.heap.size rfl (.tmp 39) (.tmp 44) 22 5 (.int .u8 0) 1 rfl Tryd.underlying22 infoB8 rfl (by decide) (by omega) (.slice Ao no co) out r5 _ _ _ (fun _ => True) (fun _ => False) rfl rfl ?aO ?aR (fun _ _ h => h) (fun _ h => h.elim) (fun _ _ => trivial) HB5.out HB5.out.size ?aL ?_); (case aO => exact HO5.out); (case aR => exact HR5.out.2.2); (case aL => have h1 := HNO.out; have h2 := HL5.out; omega); intro v6 w6 ho hb hg_ hn_; (have HO6 := Aside0.mk ho); (have HB6 := Aside0.mk hb); clear ho hb hg_ hn_))
          go_region
          all_goals go_wp2_with fail
          have HLO : Aside0 ((out ++ r5).length = no + q2 + 7) := ⟨by rw [List.length_append]; have h1 := HNO.out; have h2 := HL5.out; omega⟩
          all_goals exact ⟨⟨false, 0, rec.drop q2, out ++ r5, A', n - q2, c - q2, rfl, rfl, HRF, ⟨⟨below_drew HB6.out, HO6.out, by rw [HLO.out]; have h1 := HE.out.at1; have h2 := HNO.out; have h3 := HQ2.out; omega, .inr rfl, by omega, by rw [H5.out]; exact HRES.out, by rw [HLO.out, List.length_drop]; have h2 := HN.out; omega, bytes_drop HE.out.byt q2⟩⟩⟩, by rw [slen_slice, slen_slice]; omega⟩
theorem log_Append.calls (a0 : Int) (A1 : Option Addr) (c1 : Nat) (l1 : List Int) (r : List Int) (w : World) (hr1 : Kd.C (Kd.int .u8) w A1 l1.length l1) (hc1 : l1.length ≤ c1) (h : log_Append.f a0 l1 = some r) (hT_ : GT w) :
    Calls Tryd.prog 11 #[.int .i64 a0, .slice A1 l1.length c1] w fun e w' => ∃ v0_ : Value, e = .returned (v0_) ∧ Kd.R (Kd.int .u8) 5 w' w.heap.size (fun _ => True) v0_ r ∧ Below w.heap.size w w' := by
  unfold log_Append.f at h
  split at h
  · rename_i hh
    obtain ⟨hb, hl, ha⟩ := hh
    rw [← Option.some.inj h]
    exact append_walk a0 A1 c1 l1 w ⟨rfl, hc1, hr1⟩ (okB_iff.1 hb) hl ha hT_
  · cases h

end Go.Proofs.YtnamanalacjhnaaDoor.QBk
-- Printed by a program of this claim's own out of the translation.
namespace Go.Proofs.YtnamanalacjhnaaDoor.QBk
open Go.Proofs.YtnamanalacjhnaaDoor.Own
open Go.RowKit Go.Proofs.YtnamanalacjhnaaDoorW.PrintWords Go.Proofs.YtnamanalacjhnaaDoorW.PrintLast Go.Proofs.YtnamanalacjhnaaDoorW.PrintMore
attribute [local go_sem] max2_int min2_int max_two min_two max_three min_three max_four min_four   -- for this text's walks alone
set_option linter.unusedVariables false
set_option linter.unusedSimpArgs false

attribute [local go_sem high] eqA67
/-! ### screelaw7_sameGroups: function 26 -/
mutual
def screelaw7_sameGroups.l0 : Nat → List (List (S67)) → List (List (S67)) → Int → Option (Bool)
  | 0, _, _, _ => none
  | k + 1, x0, x1, x5 => if x5 < (x0.length : Int) then (if 0 ≤ x5 then (if x5 < (x1.length : Int) then (if ((rd_L5 x0 x5).length : Int) = ((rd_L5 x1 x5).length : Int) then (screelaw7_sameGroups.l1 k x0 x1 x5 0) else (some false)) else (none)) else (none)) else (some true)
def screelaw7_sameGroups.l1 : Nat → List (List (S67)) → List (List (S67)) → Int → Int → Option (Bool)
  | 0, _, _, _, _ => none
  | k + 1, x0, x1, x5, x6 => if 0 ≤ x5 then (if x5 < (x0.length : Int) then (if x6 < ((rd_L5 x0 x5).length : Int) then (if 0 ≤ x6 then (if x5 < (x1.length : Int) then (if x6 < ((rd_L5 x1 x5).length : Int) then (if (!((((rd_T67 (rd_L5 x0 x5) x6).f0).toList) == (((rd_T67 (rd_L5 x1 x5) x6).f0).toList)) || (!(((rd_T67 (rd_L5 x0 x5) x6).f1) == ((rd_T67 (rd_L5 x1 x5) x6).f1)) || (!((((rd_T67 (rd_L5 x0 x5) x6).f2).toList) == (((rd_T67 (rd_L5 x1 x5) x6).f2).toList))))) = true then (some false) else (screelaw7_sameGroups.l1 k x0 x1 x5 (wrap64 (x6 + 1)))) else (none)) else (none)) else (none)) else (screelaw7_sameGroups.l0 k x0 x1 (wrap64 (x5 + 1)))) else (none)) else (none)
end
def screelaw7_sameGroups.f (k : Nat) (l0 : List (List (S67))) (l1 : List (List (S67))) : Option (Bool) := if (l0.length : Int) = (l1.length : Int) then (screelaw7_sameGroups.l0 k l0 l1 0) else (some false)
theorem screelaw7_sameGroups.mono_l : ∀ k, (∀ y0 y1 y2, LeO (screelaw7_sameGroups.l0 k y0 y1 y2) (screelaw7_sameGroups.l0 (k + 1) y0 y1 y2)) ∧ (∀ y0 y1 y2 y3, LeO (screelaw7_sameGroups.l1 k y0 y1 y2 y3) (screelaw7_sameGroups.l1 (k + 1) y0 y1 y2 y3))
  | 0 => ⟨fun _ _ _ r h => by simp [screelaw7_sameGroups.l0] at h, fun _ _ _ _ r h => by simp [screelaw7_sameGroups.l1] at h⟩
  | k + 1 => by
    obtain ⟨ih0, ih1⟩ := screelaw7_sameGroups.mono_l k
    refine ⟨?_, ?_⟩
    · intro y0 y1 y2
      unfold screelaw7_sameGroups.l0
      repeat' first
      | (with_reducible exact ih0 _ _ _)
      | (with_reducible exact ih1 _ _ _ _)
      | (with_reducible exact LeO.refl _)
      | (with_reducible exact LeO.none _)
      | (with_reducible refine LeO.ite ?_ ?_)
      | (with_reducible refine LeO.bind ?_ (fun _ => ?_))
      | exact ih0 _ _ _
      | exact ih1 _ _ _ _
      | exact LeO.none _
      | refine LeO.ite ?_ ?_
      | refine LeO.bind ?_ (fun _ => ?_)
    · intro y0 y1 y2 y3
      unfold screelaw7_sameGroups.l1
      repeat' first
      | (with_reducible exact ih0 _ _ _)
      | (with_reducible exact ih1 _ _ _ _)
      | (with_reducible exact LeO.refl _)
      | (with_reducible exact LeO.none _)
      | (with_reducible refine LeO.ite ?_ ?_)
      | (with_reducible refine LeO.bind ?_ (fun _ => ?_))
      | exact ih0 _ _ _
      | exact ih1 _ _ _ _
      | exact LeO.none _
      | refine LeO.ite ?_ ?_
      | refine LeO.bind ?_ (fun _ => ?_)
theorem screelaw7_sameGroups.mono : ∀ a0 a1 k, LeO (screelaw7_sameGroups.f k a0 a1) (screelaw7_sameGroups.f (k + 1) a0 a1) := by
  intro a0 a1 k
  obtain ⟨ih0, ih1⟩ := screelaw7_sameGroups.mono_l k
  unfold screelaw7_sameGroups.f
  repeat' first
      | (with_reducible exact ih0 _ _ _)
      | (with_reducible exact ih1 _ _ _ _)
      | (with_reducible exact LeO.refl _)
      | (with_reducible exact LeO.none _)
      | (with_reducible refine LeO.ite ?_ ?_)
      | (with_reducible refine LeO.bind ?_ (fun _ => ?_))
      | exact ih0 _ _ _
      | exact ih1 _ _ _ _
      | exact LeO.none _
      | refine LeO.ite ?_ ?_
      | refine LeO.bind ?_ (fun _ => ?_)
set_option maxHeartbeats 8000000 in
set_option maxRecDepth 100000 in
theorem screelaw7_sameGroups.calls (k : Nat) (A0 : Option Addr) (c0 : Nat) (l0 : List (List (S67))) (A1 : Option Addr) (c1 : Nat) (l1 : List (List (S67))) (r : Bool) (w : World) (hr0 : Kd.C (Kd.slice 67 k67) w A0 l0.length l0) (hc0 : l0.length ≤ c0) (hr1 : Kd.C (Kd.slice 67 k67) w A1 l1.length l1) (hc1 : l1.length ≤ c1) (h : screelaw7_sameGroups.f k l0 l1 = some r) :
    Calls Tryd.prog 26 #[.slice A0 l0.length c0, .slice A1 l1.length c1] w fun e w' => e = .returned (.bool r) ∧ Drawn0 w w' := by
  have hu67 := Tryd.underlying67
  have HR0 := Aside0.mk hr0
  have HC0 := Aside0.mk hc0
  clear hr0 hc0
  have HR1 := Aside0.mk hr1
  have HC1 := Aside0.mk hc1
  clear hr1 hc1
  have H : (if (l0.length : Int) = (l1.length : Int) then (screelaw7_sameGroups.l0 k l0 l1 0) else (some false)) = some r := h
  clear h
  by_cases c3 : (l0.length : Int) = (l1.length : Int)
  · rw [if_pos c3] at H
    have c3b0 : ((l0.length : Int) == (l1.length : Int)) = true := beq_iff_eq.mpr c3
    have c3b1 : ((l0.length : Int) != (l1.length : Int)) = false := bne_eq_false_iff_eq.mpr c3
    have c3b2 : (l0.length == l1.length) = true := by first | simpa using c3 | (simp at c3 ⊢; omega)
    clear c3
    have H' := Aside0.mk H
    clear H
    go_enter Tryd.func26, Tryd.ntmps26
    go_wp2
    repeat (go_quiet (fail); try go_wp2)
    go_loopg [5] k (fun kq v5 w' => ∃ (x5_1 : Int), v5 = .int .i64 x5_1 ∧ Aside0 (screelaw7_sameGroups.l0 kq l0 l1 x5_1 = some r) ∧ Aside0 (kq ≤ k) ∧ Drawn0 w w')
    case atStart => exact ⟨(0), (by first | rfl | (simp; done) | (simp [*]; done)), H', ⟨Nat.le_refl _⟩, by repeat (first | exact Drawn0.refl _ | apply Drawn0.step)⟩
    case round =>
      clear H'
      try clear c1
      try clear c2
      try clear p2
      try clear c3
      try clear c3b0
      try clear c3b1
      try clear c3b2
      obtain ⟨x5_1, rfl, HA, HK1, ⟨m1, rfl⟩⟩ := hrel
      cases gk with
      | zero => exact absurd HA.out (by simp [screelaw7_sameGroups.l0])
      | succ k1 =>
        have H := HA.out
        clear HA
        simp only [screelaw7_sameGroups.l0] at H
        by_cases c4 : x5_1 < (l0.length : Int)
        · rw [if_pos c4] at H
          have c4b0 : decide (x5_1 < (l0.length : Int)) = true := decide_eq_true c4
          clear c4
          by_cases c5 : 0 ≤ x5_1
          · rw [if_pos c5] at H
            have c5b0 : decide (0 ≤ x5_1) = true := decide_eq_true c5
            clear c5
            by_cases c6 : x5_1 < (l1.length : Int)
            · rw [if_pos c6] at H
              have c6b0 : decide (x5_1 < (l1.length : Int)) = true := decide_eq_true c6
              clear c6
              by_cases c7 : ((rd_L5 l0 x5_1).length : Int) = ((rd_L5 l1 x5_1).length : Int)
              · rw [if_pos c7] at H
                have c7b0 : (((rd_L5 l0 x5_1).length : Int) == ((rd_L5 l1 x5_1).length : Int)) = true := beq_iff_eq.mpr c7
                have c7b1 : (((rd_L5 l0 x5_1).length : Int) != ((rd_L5 l1 x5_1).length : Int)) = false := bne_eq_false_iff_eq.mpr c7
                have c7b2 : ((rd_L5 l0 x5_1).length == (rd_L5 l1 x5_1).length) = true := by first | simpa using c7 | (simp at c7 ⊢; omega)
                clear c7
                have H' := Aside0.mk H
                clear H
                have p223 : 0 ≤ (x5_1 : Int) := of_decide_eq_true (by first | (with_reducible assumption) | assumption)
                have q223 : x5_1 < (l0.length : Int) := of_decide_eq_true (by first | (with_reducible assumption) | assumption)
                obtain ⟨ad223, A223_0, c223_0, e223, hx223_0, hl223_0, hi223_0⟩ := at_L5 HR0.out x5_1 p223 q223
                cases e223
                have HR223_0 := Aside0.mk hi223_0
                have HC223_0 := Aside0.mk hl223_0
                clear hi223_0 hl223_0
                replace p223 := eq_true p223
                replace q223 := eq_true q223
                have p224 : 0 ≤ (x5_1 : Int) := of_decide_eq_true (by first | (with_reducible assumption) | assumption)
                have q224 : x5_1 < (l1.length : Int) := of_decide_eq_true (by first | (with_reducible assumption) | assumption)
                obtain ⟨ad224, A224_0, c224_0, e224, hx224_0, hl224_0, hi224_0⟩ := at_L5 HR1.out x5_1 p224 q224
                cases e224
                have HR224_0 := Aside0.mk hi224_0
                have HC224_0 := Aside0.mk hl224_0
                clear hi224_0 hl224_0
                replace p224 := eq_true p224
                replace q224 := eq_true q224
                go_wp2
                repeat (go_quiet (fail); try go_wp2)
                go_loopg [6] k1 (fun kq v6 w' => ∃ (x6_2 : Int), v6 = .int .i64 x6_2 ∧ Aside0 (screelaw7_sameGroups.l1 kq l0 l1 x5_1 x6_2 = some r) ∧ Aside0 (kq ≤ k1) ∧ Drawn0 w w')
                case atStart => exact ⟨(0), (by first | rfl | (simp; done) | (simp [*]; done)), H', ⟨Nat.le_refl _⟩, by repeat (first | exact Drawn0.refl _ | apply Drawn0.step)⟩
                case round =>
                  clear H'
                  try clear c1
                  try clear c2
                  try clear p2
                  try clear q2
                  try clear hx2
                  try clear c3
                  try clear c3b0
                  try clear c3b1
                  try clear c3b2
                  try clear c4
                  try clear c4b0
                  try clear c5
                  try clear c5b0
                  try clear c6
                  try clear c6b0
                  try clear c7
                  try clear c7b0
                  try clear c7b1
                  try clear c7b2
                  try clear hx223_0
                  try clear hx224_0
                  try clear p2
                  try clear p223
                  try clear p224
                  try clear q223
                  try clear q224
                  obtain ⟨x6_2, rfl, HA, HK2, ⟨m2, rfl⟩⟩ := hrel
                  cases gk with
                  | zero => exact absurd HA.out (by simp [screelaw7_sameGroups.l1])
                  | succ k2 =>
                    have H := HA.out
                    clear HA
                    simp only [screelaw7_sameGroups.l1] at H
                    by_cases c8 : 0 ≤ x5_1
                    · rw [if_pos c8] at H
                      have c8b0 : decide (0 ≤ x5_1) = true := decide_eq_true c8
                      clear c8
                      by_cases c9 : x5_1 < (l0.length : Int)
                      · rw [if_pos c9] at H
                        have c9b0 : decide (x5_1 < (l0.length : Int)) = true := decide_eq_true c9
                        clear c9
                        by_cases c10 : x6_2 < ((rd_L5 l0 x5_1).length : Int)
                        · rw [if_pos c10] at H
                          have c10b0 : decide (x6_2 < ((rd_L5 l0 x5_1).length : Int)) = true := decide_eq_true c10
                          clear c10
                          by_cases c11 : 0 ≤ x6_2
                          · rw [if_pos c11] at H
                            have c11b0 : decide (0 ≤ x6_2) = true := decide_eq_true c11
                            clear c11
                            by_cases c12 : x5_1 < (l1.length : Int)
                            · rw [if_pos c12] at H
                              have c12b0 : decide (x5_1 < (l1.length : Int)) = true := decide_eq_true c12
                              clear c12
                              by_cases c13 : x6_2 < ((rd_L5 l1 x5_1).length : Int)
                              · rw [if_pos c13] at H
                                have c13b0 : decide (x6_2 < ((rd_L5 l1 x5_1).length : Int)) = true := decide_eq_true c13
                                clear c13
                                by_cases c14 : (!((((rd_T67 (rd_L5 l0 x5_1) x6_2).f0).toList) == (((rd_T67 (rd_L5 l1 x5_1) x6_2).f0).toList)) || (!(((rd_T67 (rd_L5 l0 x5_1) x6_2).f1) == ((rd_T67 (rd_L5 l1 x5_1) x6_2).f1)) || (!((((rd_T67 (rd_L5 l0 x5_1) x6_2).f2).toList) == (((rd_T67 (rd_L5 l1 x5_1) x6_2).f2).toList))))) = true
                                · rw [if_pos c14] at H
                                  have c14b0 : (!((((rd_T67 (rd_L5 l0 x5_1) x6_2).f0).toList) == (((rd_T67 (rd_L5 l1 x5_1) x6_2).f0).toList)) || (!(((rd_T67 (rd_L5 l0 x5_1) x6_2).f1) == ((rd_T67 (rd_L5 l1 x5_1) x6_2).f1)) || (!((((rd_T67 (rd_L5 l0 x5_1) x6_2).f2).toList) == (((rd_T67 (rd_L5 l1 x5_1) x6_2).f2).toList))))) = true := c14
                                  clear c14
                                  obtain rfl := Option.some.inj H
                                  have p225 : 0 ≤ (x5_1 : Int) := of_decide_eq_true (by first | (with_reducible assumption) | assumption)
                                  have q225 : x5_1 < (l0.length : Int) := of_decide_eq_true (by first | (with_reducible assumption) | assumption)
                                  obtain ⟨ad225, A225_0, c225_0, e225, hx225_0, hl225_0, hi225_0⟩ := at_L5 HR0.out x5_1 p225 q225
                                  obtain rfl : ad223 = ad225 := (by injection e225)
                                  have HR225_0 := Aside0.mk hi225_0
                                  have HC225_0 := Aside0.mk hl225_0
                                  clear hi225_0 hl225_0
                                  replace p225 := eq_true p225
                                  replace q225 := eq_true q225
                                  have p226 : 0 ≤ (x5_1 : Int) := of_decide_eq_true (by first | (with_reducible assumption) | assumption)
                                  have q226 : x5_1 < (l0.length : Int) := of_decide_eq_true (by first | (with_reducible assumption) | assumption)
                                  obtain ⟨ad226, A226_0, c226_0, e226, hx226_0, hl226_0, hi226_0⟩ := at_L5 HR0.out x5_1 p226 q226
                                  obtain rfl : ad223 = ad226 := (by injection e226)
                                  have HR226_0 := Aside0.mk hi226_0
                                  have HC226_0 := Aside0.mk hl226_0
                                  clear hi226_0 hl226_0
                                  replace p226 := eq_true p226
                                  replace q226 := eq_true q226
                                  have ea_ := Option.some.inj (hx225_0.symm.trans hx226_0)
                                  injection ea_ with ea_ en_ ec_
                                  subst ea_
                                  subst ec_
                                  clear en_
                                  have p227 : 0 ≤ (x6_2 : Int) := of_decide_eq_true (by first | (with_reducible assumption) | assumption)
                                  have q227 : x6_2 < ((rd_L5 l0 x5_1).length : Int) := of_decide_eq_true (by first | (with_reducible assumption) | assumption)
                                  obtain ⟨ad227, e227, hx227_0, hx227_1, hx227_2⟩ := at_T67 HR226_0.out x6_2 p227 q227
                                  cases e227
                                  replace p227 := eq_true p227
                                  replace q227 := eq_true q227
                                  have p228 : 0 ≤ (x5_1 : Int) := of_decide_eq_true (by first | (with_reducible assumption) | assumption)
                                  have q228 : x5_1 < (l1.length : Int) := of_decide_eq_true (by first | (with_reducible assumption) | assumption)
                                  obtain ⟨ad228, A228_0, c228_0, e228, hx228_0, hl228_0, hi228_0⟩ := at_L5 HR1.out x5_1 p228 q228
                                  obtain rfl : ad224 = ad228 := (by injection e228)
                                  have HR228_0 := Aside0.mk hi228_0
                                  have HC228_0 := Aside0.mk hl228_0
                                  clear hi228_0 hl228_0
                                  replace p228 := eq_true p228
                                  replace q228 := eq_true q228
                                  have p229 : 0 ≤ (x6_2 : Int) := of_decide_eq_true (by first | (with_reducible assumption) | assumption)
                                  have q229 : x6_2 < ((rd_L5 l1 x5_1).length : Int) := of_decide_eq_true (by first | (with_reducible assumption) | assumption)
                                  obtain ⟨ad229, e229, hx229_0, hx229_1, hx229_2⟩ := at_T67 HR228_0.out x6_2 p229 q229
                                  cases e229
                                  replace p229 := eq_true p229
                                  replace q229 := eq_true q229
                                  go_wp2
                                  repeat (go_quiet (fail); try go_wp2)
                                  go_ret
                                  exact ⟨by first | rfl | (simp; done) | (simp [*]; done), by repeat (first | exact Drawn0.refl _ | apply Drawn0.step)⟩
                                · rw [if_neg c14] at H
                                  have c14b0 : (!((((rd_T67 (rd_L5 l0 x5_1) x6_2).f0).toList) == (((rd_T67 (rd_L5 l1 x5_1) x6_2).f0).toList)) || (!(((rd_T67 (rd_L5 l0 x5_1) x6_2).f1) == ((rd_T67 (rd_L5 l1 x5_1) x6_2).f1)) || (!((((rd_T67 (rd_L5 l0 x5_1) x6_2).f2).toList) == (((rd_T67 (rd_L5 l1 x5_1) x6_2).f2).toList))))) = false := by simpa using c14
                                  clear c14
                                  have H' := Aside0.mk H
                                  clear H
                                  have p225 : 0 ≤ (x5_1 : Int) := of_decide_eq_true (by first | (with_reducible assumption) | assumption)
                                  have q225 : x5_1 < (l0.length : Int) := of_decide_eq_true (by first | (with_reducible assumption) | assumption)
                                  obtain ⟨ad225, A225_0, c225_0, e225, hx225_0, hl225_0, hi225_0⟩ := at_L5 HR0.out x5_1 p225 q225
                                  obtain rfl : ad223 = ad225 := (by injection e225)
                                  have HR225_0 := Aside0.mk hi225_0
                                  have HC225_0 := Aside0.mk hl225_0
                                  clear hi225_0 hl225_0
                                  replace p225 := eq_true p225
                                  replace q225 := eq_true q225
                                  have p226 : 0 ≤ (x5_1 : Int) := of_decide_eq_true (by first | (with_reducible assumption) | assumption)
                                  have q226 : x5_1 < (l0.length : Int) := of_decide_eq_true (by first | (with_reducible assumption) | assumption)
                                  obtain ⟨ad226, A226_0, c226_0, e226, hx226_0, hl226_0, hi226_0⟩ := at_L5 HR0.out x5_1 p226 q226
                                  obtain rfl : ad223 = ad226 := (by injection e226)
                                  have HR226_0 := Aside0.mk hi226_0
                                  have HC226_0 := Aside0.mk hl226_0
                                  clear hi226_0 hl226_0
                                  replace p226 := eq_true p226
                                  replace q226 := eq_true q226
                                  have ea_ := Option.some.inj (hx225_0.symm.trans hx226_0)
                                  injection ea_ with ea_ en_ ec_
                                  subst ea_
                                  subst ec_
                                  clear en_
                                  have p227 : 0 ≤ (x6_2 : Int) := of_decide_eq_true (by first | (with_reducible assumption) | assumption)
                                  have q227 : x6_2 < ((rd_L5 l0 x5_1).length : Int) := of_decide_eq_true (by first | (with_reducible assumption) | assumption)
                                  obtain ⟨ad227, e227, hx227_0, hx227_1, hx227_2⟩ := at_T67 HR226_0.out x6_2 p227 q227
                                  cases e227
                                  replace p227 := eq_true p227
                                  replace q227 := eq_true q227
                                  have p228 : 0 ≤ (x5_1 : Int) := of_decide_eq_true (by first | (with_reducible assumption) | assumption)
                                  have q228 : x5_1 < (l1.length : Int) := of_decide_eq_true (by first | (with_reducible assumption) | assumption)
                                  obtain ⟨ad228, A228_0, c228_0, e228, hx228_0, hl228_0, hi228_0⟩ := at_L5 HR1.out x5_1 p228 q228
                                  obtain rfl : ad224 = ad228 := (by injection e228)
                                  have HR228_0 := Aside0.mk hi228_0
                                  have HC228_0 := Aside0.mk hl228_0
                                  clear hi228_0 hl228_0
                                  replace p228 := eq_true p228
                                  replace q228 := eq_true q228
                                  have p229 : 0 ≤ (x6_2 : Int) := of_decide_eq_true (by first | (with_reducible assumption) | assumption)
                                  have q229 : x6_2 < ((rd_L5 l1 x5_1).length : Int) := of_decide_eq_true (by first | (with_reducible assumption) | assumption)
                                  obtain ⟨ad229, e229, hx229_0, hx229_1, hx229_2⟩ := at_T67 HR228_0.out x6_2 p229 q229
                                  cases e229
                                  replace p229 := eq_true p229
                                  replace q229 := eq_true q229
                                  go_wp2
                                  repeat (go_quiet (fail); try go_wp2)
                                  go_roundg k2
                                  case measure => have := HK1.out; have := HK2.out; omega
                                  case rel => exact ⟨(wrap64 (x6_2 + 1)), (by first | rfl | (simp; done) | (simp [*]; done)), H', ⟨by have := HK1.out; have := HK2.out; omega⟩, by repeat (first | exact Drawn0.refl _ | apply Drawn0.step)⟩
                              · rw [if_neg c13] at H
                                exact absurd H (by simp)
                            · rw [if_neg c12] at H
                              exact absurd H (by simp)
                          · rw [if_neg c11] at H
                            exact absurd H (by simp)
                        · rw [if_neg c10] at H
                          have c10b0 : decide (x6_2 < ((rd_L5 l0 x5_1).length : Int)) = false := decide_eq_false c10
                          clear c10
                          have H' := Aside0.mk H
                          clear H
                          have p225 : 0 ≤ (x5_1 : Int) := of_decide_eq_true (by first | (with_reducible assumption) | assumption)
                          have q225 : x5_1 < (l0.length : Int) := of_decide_eq_true (by first | (with_reducible assumption) | assumption)
                          obtain ⟨ad225, A225_0, c225_0, e225, hx225_0, hl225_0, hi225_0⟩ := at_L5 HR0.out x5_1 p225 q225
                          obtain rfl : ad223 = ad225 := (by injection e225)
                          have HR225_0 := Aside0.mk hi225_0
                          have HC225_0 := Aside0.mk hl225_0
                          clear hi225_0 hl225_0
                          replace p225 := eq_true p225
                          replace q225 := eq_true q225
                          go_wp2
                          repeat (go_quiet (fail); try go_wp2)
                          go_roundg k2
                          case measure => have := HK1.out; have := HK2.out; omega
                          case rel => exact ⟨(wrap64 (x5_1 + 1)), (by first | rfl | (simp; done) | (simp [*]; done)), H', ⟨by have := HK1.out; have := HK2.out; omega⟩, by repeat (first | exact Drawn0.refl _ | apply Drawn0.step)⟩
                      · rw [if_neg c9] at H
                        exact absurd H (by simp)
                    · rw [if_neg c8] at H
                      exact absurd H (by simp)
              · rw [if_neg c7] at H
                have c7b0 : (((rd_L5 l0 x5_1).length : Int) == ((rd_L5 l1 x5_1).length : Int)) = false := beq_eq_false_iff_ne.mpr c7
                have c7b1 : (((rd_L5 l0 x5_1).length : Int) != ((rd_L5 l1 x5_1).length : Int)) = true := bne_iff_ne.mpr c7
                have c7b2 : ((rd_L5 l0 x5_1).length == (rd_L5 l1 x5_1).length) = false := by first | simpa using c7 | (simp at c7 ⊢; omega)
                obtain rfl := Option.some.inj H
                have p223 : 0 ≤ (x5_1 : Int) := of_decide_eq_true (by first | (with_reducible assumption) | assumption)
                have q223 : x5_1 < (l0.length : Int) := of_decide_eq_true (by first | (with_reducible assumption) | assumption)
                obtain ⟨ad223, A223_0, c223_0, e223, hx223_0, hl223_0, hi223_0⟩ := at_L5 HR0.out x5_1 p223 q223
                cases e223
                have HR223_0 := Aside0.mk hi223_0
                have HC223_0 := Aside0.mk hl223_0
                clear hi223_0 hl223_0
                replace p223 := eq_true p223
                replace q223 := eq_true q223
                have p224 : 0 ≤ (x5_1 : Int) := of_decide_eq_true (by first | (with_reducible assumption) | assumption)
                have q224 : x5_1 < (l1.length : Int) := of_decide_eq_true (by first | (with_reducible assumption) | assumption)
                obtain ⟨ad224, A224_0, c224_0, e224, hx224_0, hl224_0, hi224_0⟩ := at_L5 HR1.out x5_1 p224 q224
                cases e224
                have HR224_0 := Aside0.mk hi224_0
                have HC224_0 := Aside0.mk hl224_0
                clear hi224_0 hl224_0
                replace p224 := eq_true p224
                replace q224 := eq_true q224
                go_wp2
                repeat (go_quiet (fail); try go_wp2)
                go_ret
                exact ⟨by first | rfl | (simp; done) | (simp [*]; done), by repeat (first | exact Drawn0.refl _ | apply Drawn0.step)⟩
            · rw [if_neg c6] at H
              exact absurd H (by simp)
          · rw [if_neg c5] at H
            exact absurd H (by simp)
        · rw [if_neg c4] at H
          have c4b0 : decide (x5_1 < (l0.length : Int)) = false := decide_eq_false c4
          clear c4
          obtain rfl := Option.some.inj H
          go_wp2
          repeat (go_quiet (fail); try go_wp2)
          go_ret
          exact ⟨by first | rfl | (simp; done) | (simp [*]; done), by repeat (first | exact Drawn0.refl _ | apply Drawn0.step)⟩
  · rw [if_neg c3] at H
    have c3b0 : ((l0.length : Int) == (l1.length : Int)) = false := beq_eq_false_iff_ne.mpr c3
    have c3b1 : ((l0.length : Int) != (l1.length : Int)) = true := bne_iff_ne.mpr c3
    have c3b2 : (l0.length == l1.length) = false := by first | simpa using c3 | (simp at c3 ⊢; omega)
    obtain rfl := Option.some.inj H
    go_enter Tryd.func26, Tryd.ntmps26
    go_wp2
    repeat (go_quiet (fail); try go_wp2)
    go_ret
    exact ⟨by first | rfl | (simp; done) | (simp [*]; done), by repeat (first | exact Drawn0.refl _ | apply Drawn0.step)⟩

-- NOT PRINTED: function 20 (screelaw7_known)

/-! ### screelaw7_laid: function 21 -/
def screelaw7_laid.l0 : Nat → List (List Int) → List Int → List Int → Int → Option (List Int × List Int × Bool)
  | 0, _, _, _, _ => none
  | k + 1, x0, x5, x6, x7 => if x7 < (x0.length : Int) then (if (x5.length : Int) > 65536 then (some (([] : List Int), ([] : List Int), false)) else (if 0 ≤ x7 then (if ((rd_L1 x0 x7).length : Int) > 65536 then (some (([] : List Int), ([] : List Int), false)) else ((log_Append.f (x5.length : Int) (rd_L1 x0 x7)).bind fun t248 => (if x5.length + t248.length < 140737488355328 then ((some (x5 ++ t248 : List Int)).bind fun y251 => (if x6.length < 17592186044416 then (screelaw7_laid.l0 k x0 y251 (x6 ++ [(y251.length : Int)]) (wrap64 (x7 + 1))) else (none))) else (none)))) else (none))) else (some (x5, x6, true))
def screelaw7_laid.f (k : Nat) (l0 : List (List Int)) : Option (List Int × List Int × Bool) := screelaw7_laid.l0 k l0 ([] : List Int) ([] : List Int) 0
theorem screelaw7_laid.mono_l : ∀ k, (∀ y0 y1 y2 y3, LeO (screelaw7_laid.l0 k y0 y1 y2 y3) (screelaw7_laid.l0 (k + 1) y0 y1 y2 y3))
  | 0 => fun _ _ _ _ r h => by simp [screelaw7_laid.l0] at h
  | k + 1 => by
    have ih0 := screelaw7_laid.mono_l k
    · intro y0 y1 y2 y3
      unfold screelaw7_laid.l0
      repeat' first
      | (with_reducible exact ih0 _ _ _ _)
      | (with_reducible exact LeO.refl _)
      | (with_reducible exact LeO.none _)
      | (with_reducible refine LeO.ite ?_ ?_)
      | (with_reducible refine LeO.bind ?_ (fun _ => ?_))
      | exact ih0 _ _ _ _
      | exact LeO.none _
      | refine LeO.ite ?_ ?_
      | refine LeO.bind ?_ (fun _ => ?_)
theorem screelaw7_laid.mono : ∀ a0 k, LeO (screelaw7_laid.f k a0) (screelaw7_laid.f (k + 1) a0) := by
  intro a0 k
  have ih0 := screelaw7_laid.mono_l k
  unfold screelaw7_laid.f
  repeat' first
      | (with_reducible exact ih0 _ _ _ _)
      | (with_reducible exact LeO.refl _)
      | (with_reducible exact LeO.none _)
      | (with_reducible refine LeO.ite ?_ ?_)
      | (with_reducible refine LeO.bind ?_ (fun _ => ?_))
      | exact ih0 _ _ _ _
      | exact LeO.none _
      | refine LeO.ite ?_ ?_
      | refine LeO.bind ?_ (fun _ => ?_)
set_option maxHeartbeats 8000000 in
set_option maxRecDepth 100000 in
theorem screelaw7_laid.calls (k : Nat) (A0 : Option Addr) (c0 : Nat) (l0 : List (List Int)) (r1 : List Int) (r2 : List Int) (r3 : Bool) (w : World) (hr0 : Kd.C (Kd.slice 5 (Kd.int .u8)) w A0 l0.length l0) (hc0 : l0.length ≤ c0) (h : screelaw7_laid.f k l0 = some (r1, r2, r3)) (hT_ : GT w) :
    Calls Tryd.prog 21 #[.slice A0 l0.length c0] w fun e w' => ∃ v0_ v1_ : Value, e = .returned (.tuple #[v0_, v1_, .bool r3]) ∧ Kd.R (Kd.int .u8) 5 w' w.heap.size (fun _ => True) v0_ r1 ∧ Kd.R (Kd.int .i64) 3 w' w.heap.size (fun _ => True) v1_ r2 ∧ Below w.heap.size w w' := by
  have HT_ := Aside0.mk hT_
  clear hT_
  have HR0 := Aside0.mk hr0
  have HC0 := Aside0.mk hc0
  clear hr0 hc0
  have HB := Aside0.mk (Below.refl w.heap.size w)
  have H : (screelaw7_laid.l0 k l0 ([] : List Int) ([] : List Int) 0) = some (r1, r2, r3) := h
  clear h
  have H' := Aside0.mk H
  clear H
  go_enter Tryd.func21, Tryd.ntmps21
  go_wp2
  go_loopg [5, 6, 7] k (fun kq v5 v6 v7 w' => ∃ (x5_1 : List Int) (x6_1 : List Int) (x7_1 : Int), v7 = .int .i64 x7_1 ∧ Aside0 (screelaw7_laid.l0 kq l0 x5_1 x6_1 x7_1 = some (r1, r2, r3)) ∧ Aside0 (kq ≤ k) ∧ Aside0 (Kd.R (Kd.int .u8) 5 w' w.heap.size (fun _ => True) v5 x5_1) ∧ Aside0 (Kd.R (Kd.int .i64) 3 w' w.heap.size (fun _ => True) v6 x6_1) ∧ Aside0 (Below w.heap.size w w'))
  case atStart => exact ⟨(([] : List Int)), (([] : List Int)), (0), (by first | rfl | (simp; done) | (simp [*]; done)), H', ⟨Nat.le_refl _⟩, ⟨by first | exact Kd.R_nil _ _ _ _ _ | exact Kd.N_nil _ _ _ _ _ | exact Kd.V_nil _ _ _ _ _ | exact Kd.Q_nil _ _ _ _ _ | exact Kd.S_nil _ _ _ _ _⟩, ⟨by first | exact Kd.R_nil _ _ _ _ _ | exact Kd.N_nil _ _ _ _ _ | exact Kd.V_nil _ _ _ _ _ | exact Kd.Q_nil _ _ _ _ _ | exact Kd.S_nil _ _ _ _ _⟩, ⟨by repeat (first | (with_reducible first | exact HB.out | apply below_alloc | apply pw_below_drewN | apply below_drew1) | exact HB.out)⟩⟩
  case round =>
    clear H'
    obtain ⟨x5_1, x6_1, x7_1, rfl, HA, HK1, HO_5, HO_6, HB⟩ := hrel
    cases gk with
    | zero => exact absurd HA.out (by simp [screelaw7_laid.l0])
    | succ k1 =>
      have H := HA.out
      clear HA
      simp only [screelaw7_laid.l0] at H
      by_cases c2 : x7_1 < (l0.length : Int)
      · rw [if_pos c2] at H
        have c2b0 : decide (x7_1 < (l0.length : Int)) = true := decide_eq_true c2
        clear c2
        by_cases c3 : (x5_1.length : Int) > 65536
        · rw [if_pos c3] at H
          have c3b0 : decide (65536 < (x5_1.length : Int)) = true := decide_eq_true c3
          have c3b1 : decide (65536 < x5_1.length) = true := decide_eq_true (by omega)
          clear c3
          simp only [Option.some.injEq, Prod.mk.injEq] at H
          obtain ⟨rfl, rfl, rfl⟩ := H
          obtain ⟨Ao4, co4, eo4⟩ := Kd.R_slice HO_5.out
          subst eo4
          go_wp2
          go_ret3
          exact ⟨_, _, by first | rfl | (simp [errW_none, errW_some] <;> rfl) | (simp [*, errW_none, errW_some] <;> rfl), by first | exact Kd.R_nil _ _ _ _ _ | exact Kd.N_nil _ _ _ _ _ | exact Kd.V_nil _ _ _ _ _ | exact Kd.Q_nil _ _ _ _ _ | exact Kd.S_nil _ _ _ _ _, by first | exact Kd.R_nil _ _ _ _ _ | exact Kd.N_nil _ _ _ _ _ | exact Kd.V_nil _ _ _ _ _ | exact Kd.Q_nil _ _ _ _ _ | exact Kd.S_nil _ _ _ _ _, by repeat (first | (with_reducible first | exact HB.out | apply below_alloc | apply pw_below_drewN | apply below_drew1) | exact HB.out)⟩
        · rw [if_neg c3] at H
          have c3b0 : decide (65536 < (x5_1.length : Int)) = false := decide_eq_false c3
          have c3b1 : decide (65536 < x5_1.length) = false := decide_eq_false (by omega)
          clear c3
          by_cases c5 : 0 ≤ x7_1
          · rw [if_pos c5] at H
            have c5b0 : decide (0 ≤ x7_1) = true := decide_eq_true c5
            clear c5
            by_cases c6 : ((rd_L1 l0 x7_1).length : Int) > 65536
            · rw [if_pos c6] at H
              have c6b0 : decide (65536 < ((rd_L1 l0 x7_1).length : Int)) = true := decide_eq_true c6
              have c6b1 : decide (65536 < (rd_L1 l0 x7_1).length) = true := decide_eq_true (by omega)
              clear c6
              simp only [Option.some.injEq, Prod.mk.injEq] at H
              obtain ⟨rfl, rfl, rfl⟩ := H
              obtain ⟨Ao7, co7, eo7⟩ := Kd.R_slice HO_5.out
              subst eo7
              have p246 : 0 ≤ (x7_1 : Int) := of_decide_eq_true (by first | (with_reducible assumption) | assumption)
              have q246 : x7_1 < (l0.length : Int) := of_decide_eq_true (by first | (with_reducible assumption) | assumption)
              obtain ⟨ad246, A246_0, c246_0, e246, hx246_0, hl246_0, hi246_0⟩ := at_L1 HR0.out x7_1 p246 q246
              cases e246
              replace hx246_0 := (HB.out.cell (World.block_lt_of_cell? w _ hx246_0)).trans hx246_0
              have HR246_0 := Aside0.mk hi246_0
              have HC246_0 := Aside0.mk hl246_0
              clear hi246_0 hl246_0
              replace p246 := eq_true p246
              replace q246 := eq_true q246
              go_wp2
              go_ret3
              exact ⟨_, _, by first | rfl | (simp [errW_none, errW_some] <;> rfl) | (simp [*, errW_none, errW_some] <;> rfl), by first | exact Kd.R_nil _ _ _ _ _ | exact Kd.N_nil _ _ _ _ _ | exact Kd.V_nil _ _ _ _ _ | exact Kd.Q_nil _ _ _ _ _ | exact Kd.S_nil _ _ _ _ _, by first | exact Kd.R_nil _ _ _ _ _ | exact Kd.N_nil _ _ _ _ _ | exact Kd.V_nil _ _ _ _ _ | exact Kd.Q_nil _ _ _ _ _ | exact Kd.S_nil _ _ _ _ _, by repeat (first | (with_reducible first | exact HB.out | apply below_alloc | apply pw_below_drewN | apply below_drew1) | exact HB.out)⟩
            · rw [if_neg c6] at H
              have c6b0 : decide (65536 < ((rd_L1 l0 x7_1).length : Int)) = false := decide_eq_false c6
              have c6b1 : decide (65536 < (rd_L1 l0 x7_1).length) = false := decide_eq_false (by omega)
              clear c6
              replace H := Option.bind_eq_some_iff.mp H
              obtain ⟨t248, A80, H⟩ := H
              replace H : (if x5_1.length + t248.length < 140737488355328 then ((some (x5_1 ++ t248 : List Int)).bind fun y251 => (if x6_1.length < 17592186044416 then (screelaw7_laid.l0 k1 l0 y251 (x6_1 ++ [(y251.length : Int)]) (wrap64 (x7_1 + 1))) else (none))) else (none)) = some (r1, r2, r3) := H
              have A8 := Aside0.mk A80
              clear A80
              by_cases c9 : x5_1.length + t248.length < 140737488355328
              · rw [if_pos c9] at H
                have LMc9 := Aside0.mk c9
                clear c9
                obtain ⟨y251, hy251⟩ : ∃ y_ : List Int, y_ = (x5_1 ++ t248) := ⟨_, rfl⟩
                replace H : (if x6_1.length < 17592186044416 then (screelaw7_laid.l0 k1 l0 y251 (x6_1 ++ [(y251.length : Int)]) (wrap64 (x7_1 + 1))) else (none)) = some (r1, r2, r3) := by first | (rw [hy251]; with_reducible exact H) | (have H2_ := (Option.bind_some _ _).symm.trans H; rw [hy251]; with_reducible exact H2_) | (have H2_ := (Option.bind_some _ _).symm.trans H; with_reducible exact H2_) | with_reducible exact H | (rw [hy251]; exact H) | exact H
                have Ny251 := Aside0.mk hy251
                clear hy251
                by_cases c10 : x6_1.length < 17592186044416
                · rw [if_pos c10] at H
                  have LMc10 := Aside0.mk c10
                  clear c10
                  obtain ⟨y254, hy254⟩ : ∃ y_ : List Int, y_ = (x6_1 ++ [(y251.length : Int)]) := ⟨_, rfl⟩
                  replace H : (screelaw7_laid.l0 k1 l0 y251 y254 (wrap64 (x7_1 + 1))) = some (r1, r2, r3) := by first | (rw [hy254]; with_reducible exact H) | (have H2_ := (Option.bind_some _ _).symm.trans H; rw [hy254]; with_reducible exact H2_) | (have H2_ := (Option.bind_some _ _).symm.trans H; with_reducible exact H2_) | with_reducible exact H | (rw [hy254]; exact H) | exact H
                  have Ny254 := Aside0.mk hy254
                  clear hy254
                  have H' := Aside0.mk H
                  clear H
                  obtain ⟨Ao11, co11, eo11⟩ := Kd.R_slice HO_5.out
                  subst eo11
                  have p246 : 0 ≤ (x7_1 : Int) := of_decide_eq_true (by first | (with_reducible assumption) | assumption)
                  have q246 : x7_1 < (l0.length : Int) := of_decide_eq_true (by first | (with_reducible assumption) | assumption)
                  obtain ⟨ad246, A246_0, c246_0, e246, hx246_0, hl246_0, hi246_0⟩ := at_L1 HR0.out x7_1 p246 q246
                  cases e246
                  replace hx246_0 := (HB.out.cell (World.block_lt_of_cell? w _ hx246_0)).trans hx246_0
                  have HR246_0 := Aside0.mk hi246_0
                  have HC246_0 := Aside0.mk hl246_0
                  clear hi246_0 hl246_0
                  replace p246 := eq_true p246
                  replace q246 := eq_true q246
                  have p247 : 0 ≤ (x7_1 : Int) := of_decide_eq_true (by first | (with_reducible assumption) | assumption)
                  have q247 : x7_1 < (l0.length : Int) := of_decide_eq_true (by first | (with_reducible assumption) | assumption)
                  obtain ⟨ad247, A247_0, c247_0, e247, hx247_0, hl247_0, hi247_0⟩ := at_L1 HR0.out x7_1 p247 q247
                  obtain rfl : ad246 = ad247 := (by injection e247)
                  replace hx247_0 := (HB.out.cell (World.block_lt_of_cell? w _ hx247_0)).trans hx247_0
                  have HR247_0 := Aside0.mk hi247_0
                  have HC247_0 := Aside0.mk hl247_0
                  clear hi247_0 hl247_0
                  replace p247 := eq_true p247
                  replace q247 := eq_true q247
                  have ea_ := Option.some.inj (hx246_0.symm.trans hx247_0)
                  injection ea_ with ea_ en_ ec_
                  subst ea_
                  subst ec_
                  clear en_
                  go_wp2_with (first | ((with_reducible refine gate_callee (f := 11) rfl ?_); refine goesL_ (some 32) rfl rfl Tryd.func11 (by kernel_rfl) rfl #[.int .i64 (x5_1.length : Int), .slice A246_0 (rd_L1 l0 x7_1).length c246_0] rfl (by (try simp only [List.map_toArray, List.map_cons, List.map_nil]); first | done | rfl | (simp only [List.length_drop, List.length_take]; rfl)) ?_; (with_reducible refine (log_Append.calls (x5_1.length : Int) _ _ (rd_L1 l0 x7_1) t248 _ ?side1 ?side2 A8.out ?side3).mono ?_); (case side1 => repeat (first | exact (Kd.C_below HR247_0.out HB.out) | (with_reducible refine Kd.C_alloc ?_ _) | (with_reducible refine Kd.C_drewN ?_ _) | (with_reducible refine Kd.C_drew ?_))); (case side2 => exact HC247_0.out); (case side3 => first | (with_reducible exact HT_.out) | exact GT.below HT_.out (by repeat (first | (with_reducible first | exact HB.out | apply below_alloc | apply pw_below_drewN | apply below_drew1) | exact HB.out))); rintro e w12 ⟨v249, rfl, ho0, hb⟩; refine ⟨_, rfl, ?_⟩; have n0_ := Aside0.mk (Kd.R_elder' (by (with_reducible repeat (first | apply Kd.R_alloc | apply Kd.R_drewN | apply Kd.R_drew)); exact HO_5.out) (Kd.R_base ho0) hb); have n1_ := Aside0.mk (Kd.R_below (by (with_reducible repeat (first | apply Kd.R_alloc | apply Kd.R_drewN | apply Kd.R_drew)); exact HO_6.out) hb); have n2_ := Aside0.mk (Kd.R_lower (Kd.R_new' ho0 (Kd.R_lt (by (with_reducible repeat (first | apply Kd.R_alloc | apply Kd.R_drewN | apply Kd.R_drew)); exact HO_5.out))) (below_size (by repeat (first | (with_reducible first | exact HB.out | apply below_alloc | apply pw_below_drewN | apply below_drew1) | exact HB.out)))); have n3_ := Aside0.mk (below_step (by repeat (first | (with_reducible first | exact HB.out | apply below_alloc | apply pw_below_drewN | apply below_drew1) | exact HB.out)) hb); clear HO_5; clear HO_6; clear HB; have HO_5 := n0_; have HO_6 := n1_; have HO250 := n2_; have HB := n3_; clear n0_ n1_ n2_ n3_; (try clear hb); (try clear hb2); (try clear hk); (try clear hi); (try clear ho0); obtain ⟨Ao14, co14, eo14⟩ := Kd.R_slice HO250.out; subst eo14) | ((with_reducible refine gate_builtin (b := .append) (xs := #[.tmp 25, .tmp 32]) rfl ?_); (try (refine gate_guard (by rfl) ?_; dsimp only)); at_builtin; refine Kd.R_append_rows (Kd.int .u8) (w0 := w) w.heap.size rfl (.tmp 25) (.tmp 32) 22 5 (.int .u8 0) 1 rfl Tryd.underlying22 info5 rfl (by decide) (by omega) (.slice Ao11 x5_1.length co11) x5_1 t248 _ _ _ (fun k_ => some k_ ≠ (.slice Ao14 t248.length co14 : Value).ownBlock) (fun _ => False) rfl rfl ?aO ?aR (fun _ _ h => h) (fun _ h => h.elim) ?aF ?aB ?aS ?aL ?_; (case aR => repeat (first | exact (Kd.R_reads' HO250.out).2.2 | (with_reducible refine Kd.C_alloc ?_ _) | (with_reducible refine Kd.C_drewN ?_ _) | (with_reducible refine Kd.C_drew ?_))); (case aB => exact (by repeat (first | (with_reducible first | exact HB.out | apply below_alloc | apply pw_below_drewN | apply below_drew1) | exact HB.out))); (case aF => exact (fun k_ hk => Kd.fresh' (Kd.R_lt (by (with_reducible repeat (first | apply Kd.R_alloc | apply Kd.R_drewN | apply Kd.R_drew)); exact HO250.out)) k_ hk)); (case aO => exact (by (with_reducible repeat (first | apply Kd.R_alloc | apply Kd.R_drewN | apply Kd.R_drew)); exact Kd.R_mono HO_5.out (fun _ hk => hk.2))); (case aS => exact (below_size (by repeat (first | (with_reducible first | exact HB.out | apply below_alloc | apply pw_below_drewN | apply below_drew1) | exact HB.out)))); (case aL => have := LMc9.out; omega); intro v252 w13 ho hb hg hat; rw [← Ny251.out] at ho; have n0_ := Aside0.mk (Kd.R_over' (by (with_reducible repeat (first | apply Kd.R_alloc | apply Kd.R_drewN | apply Kd.R_drew)); exact HO_6.out) (Kd.R_typed (by (with_reducible repeat (first | apply Kd.R_alloc | apply Kd.R_drewN | apply Kd.R_drew)); exact HO_5.out)) (by decide) hg); have n1_ := Aside0.mk (Kd.R_after (ok := (fun _ => True)) (by (with_reducible repeat (first | apply Kd.R_alloc | apply Kd.R_drewN | apply Kd.R_drew)); exact HO250.out) hg hat); have n2_ := Aside0.mk (hb); have n3_ := Aside0.mk (ho); clear HO_6; clear HO250; clear HB; clear HO_5; have HO_6 := n0_; have HO250 := n1_; have HB := n2_; have HO253 := n3_; clear n0_ n1_ n2_ n3_; clear ho hb hg hat; obtain ⟨Ao15, co15, eo15⟩ := Kd.R_slice HO253.out; subst eo15) | ((with_reducible refine gate_builtin (b := .append) (xs := #[.tmp 34, .tmp 37]) rfl ?_); (try (refine gate_guard (by rfl) ?_; dsimp only)); at_builtin; refine Kd.R_append (Kd.int .i64) (w0 := w) w.heap.size rfl (.tmp 34) (.tmp 37) 25 3 (.int .i64 0) 8 rfl Tryd.underlying25 info3 rfl (by decide) (by omega) u6 x6_1 (y251.length : Int) [.int .i64 (y251.length : Int)] (fun _ => True) (fun _ => False) rfl rfl ?aP (fun _ hk => hk.elim) ?aF ?aO ?aB ?aS ?aL ?_; (case aP => exact rfl); (case aB => exact (by repeat (first | (with_reducible first | exact HB.out | apply below_alloc | apply pw_below_drewN | apply below_drew1) | exact HB.out))); (case aF => exact (fun _ _ => trivial)); (case aO => exact (by (with_reducible repeat (first | apply Kd.R_alloc | apply Kd.R_drewN | apply Kd.R_drew)); exact HO_6.out)); (case aS => exact (below_size (by repeat (first | (with_reducible first | exact HB.out | apply below_alloc | apply pw_below_drewN | apply below_drew1) | exact HB.out)))); (case aL => have := LMc10.out; omega); intro v255 w16 ho hb hg hat; rw [← Ny254.out] at ho; have n0_ := Aside0.mk (Kd.R_over' (by (with_reducible repeat (first | apply Kd.R_alloc | apply Kd.R_drewN | apply Kd.R_drew)); exact HO250.out) (Kd.R_typed (by (with_reducible repeat (first | apply Kd.R_alloc | apply Kd.R_drewN | apply Kd.R_drew)); exact HO_6.out)) (by decide) hg); have n1_ := Aside0.mk (Kd.R_over' (by (with_reducible repeat (first | apply Kd.R_alloc | apply Kd.R_drewN | apply Kd.R_drew)); exact HO253.out) (Kd.R_typed (by (with_reducible repeat (first | apply Kd.R_alloc | apply Kd.R_drewN | apply Kd.R_drew)); exact HO_6.out)) (by decide) hg); have n2_ := Aside0.mk (hb); have n3_ := Aside0.mk (ho); clear HO250; clear HO253; clear HB; clear HO_6; have HO250 := n0_; have HO253 := n1_; have HB := n2_; have HO256 := n3_; clear n0_ n1_ n2_ n3_; clear ho hb hg hat))
                  go_roundg k1
                  case measure => have := HK1.out; omega
                  case rel => exact ⟨(y251), (y254), (wrap64 (x7_1 + 1)), (by first | rfl | (simp; done) | (simp [*]; done)), H', ⟨by have := HK1.out; omega⟩, ⟨by (with_reducible repeat (first | apply Kd.R_alloc | apply Kd.R_drewN | apply Kd.R_drew)); exact Kd.R_mono HO253.out (fun _ hk => trivial)⟩, ⟨by (with_reducible repeat (first | apply Kd.R_alloc | apply Kd.R_drewN | apply Kd.R_drew)); exact HO256.out⟩, ⟨by repeat (first | (with_reducible first | exact HB.out | apply below_alloc | apply pw_below_drewN | apply below_drew1) | exact HB.out)⟩⟩
                · rw [if_neg c10] at H
                  exact absurd H (by simp)
              · rw [if_neg c9] at H
                exact absurd H (by simp)
          · rw [if_neg c5] at H
            exact absurd H (by simp)
      · rw [if_neg c2] at H
        have c2b0 : decide (x7_1 < (l0.length : Int)) = false := decide_eq_false c2
        clear c2
        simp only [Option.some.injEq, Prod.mk.injEq] at H
        obtain ⟨rfl, rfl, rfl⟩ := H
        go_wp2
        go_ret3
        exact ⟨_, _, by first | rfl | (simp [errW_none, errW_some] <;> rfl) | (simp [*, errW_none, errW_some] <;> rfl), by (with_reducible repeat (first | apply Kd.R_alloc | apply Kd.R_drewN | apply Kd.R_drew)); exact HO_5.out, by (with_reducible repeat (first | apply Kd.R_alloc | apply Kd.R_drewN | apply Kd.R_drew)); exact HO_6.out, by repeat (first | (with_reducible first | exact HB.out | apply below_alloc | apply pw_below_drewN | apply below_drew1) | exact HB.out)⟩

-- NOT PRINTED: function 6 (screelaw7_LogBack)

/-- A state of type 135 at block g of W; what its slices lead to came in by w0. -/
def IsS135 (w0 W : World) (g : Nat) (f0 : Int) : Prop := W.heap[g]? = some (.cells #[.int .i64 f0] 135 (0, 0)) ∧ w0.heap.size ≤ g
theorem IsS135.grown {w0 W : World} {g : Nat} {f0 : Int} {W1 : World} {row : Option Nat} (h : IsS135 w0 W g f0) (hw : W.grownBy W1 row) (hne : some g ≠ row) : IsS135 w0 W1 g f0 := by
  obtain ⟨hb, hg⟩ := h
  exact ⟨blk_grown hb hw hne, hg⟩
theorem IsS135.own_neN {w0 W : World} {g : Nat} {f0 : Int} {α : Type} {d : Kd α} {e : Nat} {base : Nat} {ok : Nat → Prop} {v : Value} {xs : List α} (h : IsS135 w0 W g f0) (ho : Kd.N d e W base ok v xs) (ht : e ≠ 135) : some g ≠ v.ownBlock := by
  obtain ⟨hb, hg⟩ := h
  exact Kd.N_ne ho hb ht
theorem IsS135.fresh {w0 W : World} {g : Nat} {f0 : Int} (h : IsS135 w0 W g f0) : ∀ k, W.heap.size ≤ k → k ≠ g := by
  obtain ⟨hb, hg⟩ := h
  exact Kd.freshB hb
theorem IsS135.kept {w0 W : World} {g : Nat} {f0 : Int} {W1 : World} {S : Nat → Prop} (h : IsS135 w0 W g f0) (hk : Kept W W1 S) (hne : ¬ S g) : IsS135 w0 W1 g f0 := by
  obtain ⟨hb, hg⟩ := h
  exact ⟨blk_kept hb hk hne, hg⟩
theorem IsS135.below {w0 W : World} {g : Nat} {f0 : Int} {W1 : World} (h : IsS135 w0 W g f0) (hw : Below W.heap.size W W1) : IsS135 w0 W1 g f0 := h.grown (grown_of_below hw none) (by simp)
theorem IsS135.alloc {w0 W : World} {g : Nat} {f0 : Int} (h : IsS135 w0 W g f0) (o : Obj) : IsS135 w0 (W.alloc o) g f0 := h.below (below_alloc (Below.refl _ _) o)
theorem IsS135.drewN {w0 W : World} {g : Nat} {f0 : Int} (h : IsS135 w0 W g f0) (m : Nat) : IsS135 w0 (W.drewN m) g f0 := h
theorem IsS135.drew {w0 W : World} {g : Nat} {f0 : Int} (h : IsS135 w0 W g f0) : IsS135 w0 W.drew g f0 := h
theorem IsS135.at_ {w0 W : World} {g : Nat} {f0 : Int} {w' : World} {m : Nat} (hq : W.drewN m = w') (h : IsS135 w0 W g f0) : IsS135 w0 w' g f0 := by subst hq; exact IsS135.drewN h m
theorem IsS135.apart {w0 W : World} {g : Nat} {f0 : Int} {α : Type} {d : Kd α} {e : Nat} {base : Nat} {ok : Nat → Prop} {v : Value} {xs : List α} (h : IsS135 w0 W g f0) (ho : d.R e W base ok v xs) (ht : ∀ q, q ∈ e :: d.E → q ≠ 135) : d.R e W base (fun k => ok k ∧ k ≠ g) v xs := by
  obtain ⟨hb, hg⟩ := h
  exact Kd.R_types ho hb ht
theorem IsS135.own_ne {w0 W : World} {g : Nat} {f0 : Int} {α : Type} {d : Kd α} {e : Nat} {base : Nat} {ok : Nat → Prop} {v : Value} {xs : List α} (h : IsS135 w0 W g f0) (ho : d.R e W base ok v xs) (ht : e ≠ 135) : some g ≠ v.ownBlock := by
  obtain ⟨hb, hg⟩ := h
  exact Kd.R_ne ho hb ht
theorem IsS135.apartQ {w0 W : World} {g : Nat} {f0 : Int} {α : Type} {d : Kd α} {e : Nat} {base : Nat} {ok : Nat → Prop} {v : Value} {xs : List α} (h : IsS135 w0 W g f0) (ho : d.Q e W base ok v xs) (ht : ∀ q, q ∈ e :: d.E → q ≠ 135) : d.Q e W base (fun k => ok k ∧ k ≠ g) v xs := by
  obtain ⟨hb, hg⟩ := h
  exact Kd.Q_types ho hb ht
theorem IsS135.own_neQ {w0 W : World} {g : Nat} {f0 : Int} {α : Type} {d : Kd α} {e : Nat} {base : Nat} {ok : Nat → Prop} {v : Value} {xs : List α} (h : IsS135 w0 W g f0) (ho : d.Q e W base ok v xs) (ht : e ≠ 135) : some g ≠ v.ownBlock := by
  obtain ⟨hb, hg⟩ := h
  exact Kd.Q_ne ho hb ht
theorem IsS135.apartS {w0 W : World} {g : Nat} {f0 : Int} {α : Type} {d : Kd α} {e : Nat} {base : Nat} {ok : Nat → Prop} {v : Value} {xs : List α} (h : IsS135 w0 W g f0) (ho : d.S e W base ok v xs) (ht : ∀ q, q ∈ e :: d.E → q ≠ 135) : d.S e W base (fun k => ok k ∧ k ≠ g) v xs := by
  obtain ⟨hb, hg⟩ := h
  exact Kd.S_types ho hb ht
theorem IsS135.own_neS {w0 W : World} {g : Nat} {f0 : Int} {α : Type} {d : Kd α} {e : Nat} {base : Nat} {ok : Nat → Prop} {v : Value} {xs : List α} (h : IsS135 w0 W g f0) (ho : d.S e W base ok v xs) (ht : e ≠ 135) : some g ≠ v.ownBlock := by
  obtain ⟨hb, hg⟩ := h
  exact Kd.S_ne ho hb ht
theorem IsS135.lt {w0 W : World} {g : Nat} {f0 : Int} (h : IsS135 w0 W g f0) : g < W.heap.size := by
  obtain ⟨hb, hg⟩ := h
  exact blk_lt hb
theorem IsS135.ge {w0 W : World} {g : Nat} {f0 : Int} (h : IsS135 w0 W g f0) : w0.heap.size ≤ g := by
  obtain ⟨hb, hg⟩ := h
  exact hg
theorem IsS135.ne_blk {w0 W : World} {g : Nat} {f0 : Int} {a : Nat} {cs : Array Value} {t : TypeId} {fr : Nat × Nat} (h : IsS135 w0 W g f0) (hb2 : W.heap[a]? = some (.cells cs t fr)) (ht : t ≠ 135) : g ≠ a := by
  obtain ⟨hb, hg⟩ := h
  rintro rfl
  rw [hb] at hb2
  injection hb2 with hb2
  injection hb2 with _ ht2
  exact ht ht2.symm
theorem IsS135.far {w0 W : World} {g : Nat} {f0 : Int} {p : Addr} (h : IsS135 w0 W g f0) (hne : g ≠ p.block) (u : Value) : IsS135 w0 (W.setCell p u) g f0 := by
  obtain ⟨hb, hg⟩ := h
  exact ⟨blk_far hb hne u, hg⟩
theorem cellS135_0 {W : World} {g : Nat} {f0 : Int} (h : W.heap[g]? = some (.cells #[.int .i64 f0] 135 (0, 0))) : W.cell? ⟨g, 0, none⟩ = some (.int .i64 f0) := (blk_cell h 0).trans rfl
theorem IsS135.set_0 {w0 W : World} {g : Nat} {f0 : Int} (h : IsS135 w0 W g f0) (x : Int) : IsS135 w0 (W.setCell ⟨g, 0, none⟩ (.int .i64 x)) g x := by
  obtain ⟨hb, hg⟩ := h
  exact ⟨by simpa using blk_set hb 0 (.int .i64 x), hg⟩
theorem IsS135.new (w0 W : World) (f0 : Int) (hB : Below w0.heap.size w0 W) : IsS135 w0 (W.alloc (.cells #[.int .i64 f0] 135)) W.heap.size f0 := ⟨by simpa using heap_alloc_new W _, hB.size⟩

/-! ### screeroom_Many: function 51 -/
def screeroom_Many.f (a0 : Int) : Option (Int) := some a0
set_option maxHeartbeats 8000000 in
set_option maxRecDepth 100000 in
theorem screeroom_Many.calls (a0 : Int) (r : Int) (w0 w : World) (hB : Below w0.heap.size w0 w) (h : screeroom_Many.f a0 = some r) :
    Calls Tryd.prog 51 #[.int .i64 a0] w fun e w' => ∃ g_ : Nat, e = .returned (.pointer (some ⟨g_, 0, none⟩)) ∧ IsS135 w0 w' g_ r ∧ Below w0.heap.size w0 w' ∧ Below w.heap.size w w' := by
  have hu135 := Tryd.underlying135
  have HBW := Aside0.mk (Below.refl w.heap.size w)
  have HW0 := Aside0.mk hB.size
  have HB := Aside0.mk hB
  clear hB
  have H : (some a0) = some r := h
  clear h
  obtain rfl := Option.some.inj H
  go_enter Tryd.func51, Tryd.ntmps51
  go_wp2_with (first | ((with_reducible refine gate_dst (N := 5) rfl ?_); refine box_event ?hg (N := 5) ?hd (cs := #[.int .i64 a0]) (t := 135) ?hr ?_; (case hd => rfl); (case hg => rfl); (case hr => first | (go_simp; done) | (go_simp; rfl)); intro gb257 hg w2 hbox hb; have n0_ := Aside0.mk (below_step HBW.out hb); have n1_ := Aside0.mk (below_step (by repeat (first | (with_reducible first | exact HB.out | apply below_alloc | apply pw_below_drewN | apply below_drew1) | exact HB.out)) hb); have n2_ := Aside0.mk (hbox); have n3_ := Aside0.mk ((by rw [hg]; exact (below_size (by repeat (first | (with_reducible first | exact HBW.out | apply below_alloc | apply pw_below_drewN | apply below_drew1) | exact HBW.out))) : w.heap.size ≤ gb257)); have n4_ := Aside0.mk ((Nat.le_trans HW0.out (by rw [hg]; exact (below_size (by repeat (first | (with_reducible first | exact HBW.out | apply below_alloc | apply pw_below_drewN | apply below_drew1) | exact HBW.out))) : w.heap.size ≤ gb257) : w0.heap.size ≤ gb257)); clear HBW; clear HB; have HBW := n0_; have HB := n1_; have BK257 := n2_; have GW257 := n3_; have GE257 := n4_; clear n0_ n1_ n2_ n3_ n4_; clear hb hbox hg))
  go_ret
  exact ⟨_, rfl, (show IsS135 w0 _ gb257 a0 from ⟨by (with_reducible repeat (first | refine blk_drewN ?_ _ | refine blk_drew ?_ | refine blk_alloc ?_ _)); exact BK257.out, GE257.out⟩), by repeat (first | (with_reducible first | exact HB.out | apply below_alloc | apply pw_below_drewN | apply below_drew1 | refine below_set ?_ GE257.out) | exact HB.out), by repeat (first | (with_reducible first | exact HBW.out | apply below_alloc | apply pw_below_drewN | apply below_drew1 | refine below_set ?_ GW257.out) | exact HBW.out)⟩

/-! ### screeroom_Count_Ok: function 53 -/
def screeroom_Count_Ok.f (s0_0 : Int) : Option (Bool × Int) := some (decide (s0_0 ≥ 0), s0_0)
set_option maxHeartbeats 8000000 in
set_option maxRecDepth 100000 in
theorem screeroom_Count_Ok.calls (g : Nat) (s0_0 : Int) (r1 : Bool) (r2 : Int) (w0 w : World) (hI : IsS135 w0 w g s0_0) (hB : Below w0.heap.size w0 w) (h : screeroom_Count_Ok.f s0_0 = some (r1, r2)) :
    Calls Tryd.prog 53 #[.pointer (some ⟨g, 0, none⟩)] w fun e w' => e = .returned (.bool r1) ∧ IsS135 w0 w' g r2 ∧ Below w0.heap.size w0 w' ∧ KeepBut w w' g none := by
  have HI0 := Aside0.mk hI
  have HK := Aside0.mk (KeepBut.refl w g none)
  have HL := Aside0.mk hB.size
  clear hI
  have HW0 := Aside0.mk hB.size
  have HB := Aside0.mk hB
  clear hB
  have H : (some (decide (s0_0 ≥ 0), s0_0)) = some (r1, r2) := h
  clear h
  simp only [Option.some.injEq, Prod.mk.injEq] at H
  obtain ⟨rfl, rfl⟩ := H
  obtain ⟨HGz2, hgz2⟩ := HI0.out
  have hcz2_0 := cellS135_0 HGz2
  have hfz2_0 := blk_frozen HGz2 0
  clear HGz2 hgz2
  go_enter Tryd.func53, Tryd.ntmps53
  go_wp2
  go_ret
  exact ⟨by first | rfl | (simp [errW_none, errW_some] <;> rfl) | (simp [*, errW_none, errW_some] <;> rfl), by repeat (first | (with_reducible first | exact HI0.out | apply IsS135.alloc | apply IsS135.drewN | apply IsS135.drew | apply IsS135.set_0) | exact HI0.out), by repeat (first | (with_reducible first | exact HB.out | apply below_alloc | apply pw_below_drewN | apply below_drew1 | refine below_set ?_ (IsS135.ge HI0.out)) | exact HB.out), by repeat (first | (with_reducible first | exact HK.out | apply KeepBut.set_ | apply keep_drewN | apply keep_drew | apply keep_alloc) | exact HK.out)⟩

/-! ### screeroom_Count_Add: function 67 -/
def screeroom_Count_Add.f (s0_0 : Int) (a1 : Int) : Option (Bool × Int) := if s0_0 ≥ 0 then (some (decide ((wrap64 (s0_0 - a1)) ≥ 0), wrap64 (s0_0 - a1))) else (some (decide (s0_0 ≥ 0), s0_0))
set_option maxHeartbeats 8000000 in
set_option maxRecDepth 100000 in
theorem screeroom_Count_Add.calls (g : Nat) (s0_0 : Int) (a1 : Int) (r1 : Bool) (r2 : Int) (w0 w : World) (hI : IsS135 w0 w g s0_0) (hB : Below w0.heap.size w0 w) (h : screeroom_Count_Add.f s0_0 a1 = some (r1, r2)) :
    Calls Tryd.prog 67 #[.pointer (some ⟨g, 0, none⟩), .int .i64 a1] w fun e w' => e = .returned (.bool r1) ∧ IsS135 w0 w' g r2 ∧ Below w0.heap.size w0 w' ∧ KeepBut w w' g none := by
  have HI0 := Aside0.mk hI
  have HK := Aside0.mk (KeepBut.refl w g none)
  have HL := Aside0.mk hB.size
  clear hI
  have HW0 := Aside0.mk hB.size
  have HB := Aside0.mk hB
  clear hB
  have H : (if s0_0 ≥ 0 then (some (decide ((wrap64 (s0_0 - a1)) ≥ 0), wrap64 (s0_0 - a1))) else (some (decide (s0_0 ≥ 0), s0_0))) = some (r1, r2) := h
  clear h
  by_cases c3 : s0_0 ≥ 0
  · rw [if_pos c3] at H
    have c3b0 : decide (0 ≤ s0_0) = true := decide_eq_true c3
    clear c3
    simp only [Option.some.injEq, Prod.mk.injEq] at H
    obtain ⟨rfl, rfl⟩ := H
    obtain ⟨HGz4, hgz4⟩ := HI0.out
    have hcz4_0 := cellS135_0 HGz4
    have hfz4_0 := blk_frozen HGz4 0
    clear HGz4 hgz4
    go_enter Tryd.func67, Tryd.ntmps67
    go_wp2
    go_ret
    exact ⟨by first | rfl | (simp [errW_none, errW_some] <;> rfl) | (simp [*, errW_none, errW_some] <;> rfl), by repeat (first | (with_reducible first | exact HI0.out | apply IsS135.alloc | apply IsS135.drewN | apply IsS135.drew | apply IsS135.set_0) | exact HI0.out), by repeat (first | (with_reducible first | exact HB.out | apply below_alloc | apply pw_below_drewN | apply below_drew1 | refine below_set ?_ (IsS135.ge HI0.out)) | exact HB.out), by repeat (first | (with_reducible first | exact HK.out | apply KeepBut.set_ | apply keep_drewN | apply keep_drew | apply keep_alloc) | exact HK.out)⟩
  · rw [if_neg c3] at H
    have c3b0 : decide (0 ≤ s0_0) = false := decide_eq_false c3
    clear c3
    simp only [Option.some.injEq, Prod.mk.injEq] at H
    obtain ⟨rfl, rfl⟩ := H
    obtain ⟨HGz5, hgz5⟩ := HI0.out
    have hcz5_0 := cellS135_0 HGz5
    have hfz5_0 := blk_frozen HGz5 0
    clear HGz5 hgz5
    go_enter Tryd.func67, Tryd.ntmps67
    go_wp2
    go_ret
    exact ⟨by first | rfl | (simp [errW_none, errW_some] <;> rfl) | (simp [*, errW_none, errW_some] <;> rfl), by repeat (first | (with_reducible first | exact HI0.out | apply IsS135.alloc | apply IsS135.drewN | apply IsS135.drew | apply IsS135.set_0) | exact HI0.out), by repeat (first | (with_reducible first | exact HB.out | apply below_alloc | apply pw_below_drewN | apply below_drew1 | refine below_set ?_ (IsS135.ge HI0.out)) | exact HB.out), by repeat (first | (with_reducible first | exact HK.out | apply KeepBut.set_ | apply keep_drewN | apply keep_drew | apply keep_alloc) | exact HK.out)⟩

/-! ### screeroom_Count_Text: function 73 -/
def screeroom_Count_Text.f (s0_0 : Int) (a1 : ByteArray) : Option (Int) := (screeroom_Count_Add.f s0_0 (wrap64 (1 + (a1.size : Int)))).bind fun bt258 => (some bt258.2)
set_option maxHeartbeats 8000000 in
set_option maxRecDepth 100000 in
theorem screeroom_Count_Text.calls (g : Nat) (s0_0 : Int) (a1 : ByteArray) (r : Int) (w0 w : World) (hI : IsS135 w0 w g s0_0) (hB : Below w0.heap.size w0 w) (h : screeroom_Count_Text.f s0_0 a1 = some r) :
    Calls Tryd.prog 73 #[.pointer (some ⟨g, 0, none⟩), .string a1] w fun e w' => e = .returned (.tuple #[]) ∧ IsS135 w0 w' g r ∧ Below w0.heap.size w0 w' ∧ KeepBut w w' g none := by
  have HI0 := Aside0.mk hI
  have HK := Aside0.mk (KeepBut.refl w g none)
  have HL := Aside0.mk hB.size
  clear hI
  have HW0 := Aside0.mk hB.size
  have HB := Aside0.mk hB
  clear hB
  have H : ((screeroom_Count_Add.f s0_0 (wrap64 (1 + (a1.size : Int)))).bind fun bt258 => (some bt258.2)) = some r := h
  clear h
  replace H := Option.bind_eq_some_iff.mp H
  obtain ⟨⟨t258, t259⟩, A30, H⟩ := H
  replace H : (some t259) = some r := H
  have A3 := Aside0.mk A30
  clear A30
  obtain rfl := Option.some.inj H
  go_enter Tryd.func73, Tryd.ntmps73
  go_wp2_with (first | ((with_reducible refine gate_callee (f := 67) rfl ?_); refine goesL_ (some 8) rfl rfl Tryd.func67 (by kernel_rfl) rfl #[.pointer (some ⟨g, 0, none⟩), .int .i64 (wrap64 (1 + (a1.size : Int)))] rfl (by (try simp only [List.map_toArray, List.map_cons, List.map_nil]); first | done | rfl | (simp only [List.length_drop, List.length_take]; rfl)) ?_; (with_reducible refine (screeroom_Count_Add.calls g s0_0 (wrap64 (1 + (a1.size : Int))) t258 t259 w0 _ ?side1 ?side2 A3.out).mono ?_); (case side1 => repeat (first | (with_reducible first | exact HI0.out | apply IsS135.alloc | apply IsS135.drewN | apply IsS135.drew | apply IsS135.set_0) | exact HI0.out)); (case side2 => repeat (first | (with_reducible first | exact HB.out | apply below_alloc | apply pw_below_drewN | apply below_drew1 | refine below_set ?_ (IsS135.ge HI0.out)) | exact HB.out)); rintro e w4 ⟨rfl, hi, hb, hk⟩; refine ⟨_, rfl, ?_⟩; have n0_ := Aside0.mk (KeepBut.trans (by repeat (first | (with_reducible first | exact HK.out | apply KeepBut.set_ | apply keep_drewN | apply keep_drew | apply keep_alloc) | exact HK.out)) hk (.inl rfl)); have n1_ := Aside0.mk (hb); have n2_ := Aside0.mk (hi); clear HK; clear HB; clear HI0; have HK := n0_; have HB := n1_; have HI0 := n2_; clear n0_ n1_ n2_; (try clear hb); (try clear hb2); (try clear hk); (try clear hi)))
  first | go_end0 | ((try simp only [Exit.inBlock, Exit.then]); refine bodyPost_ret (results_none rfl _ _ _) rfl ?_)
  exact ⟨by first | rfl | (simp [errW_none, errW_some] <;> rfl) | (simp [*, errW_none, errW_some] <;> rfl), by repeat (first | (with_reducible first | exact HI0.out | apply IsS135.alloc | apply IsS135.drewN | apply IsS135.drew | apply IsS135.set_0) | exact HI0.out), by repeat (first | (with_reducible first | exact HB.out | apply below_alloc | apply pw_below_drewN | apply below_drew1 | refine below_set ?_ (IsS135.ge HI0.out)) | exact HB.out), by repeat (first | (with_reducible first | exact HK.out | apply KeepBut.set_ | apply keep_drewN | apply keep_drew | apply keep_alloc) | exact HK.out)⟩

end Go.Proofs.YtnamanalacjhnaaDoor.QBk
-- Printed by a program of this claim's own out of the translation.
namespace Go.Proofs.YtnamanalacjhnaaDoor.QBk
open Go.Proofs.YtnamanalacjhnaaDoor.Own
open Go.RowKit Go.Proofs.YtnamanalacjhnaaDoorW.PrintWords Go.Proofs.YtnamanalacjhnaaDoorW.PrintLast Go.Proofs.YtnamanalacjhnaaDoorW.PrintMore
attribute [local go_sem] max2_int min2_int max_two min_two max_three min_three max_four min_four   -- for this text's walks alone
set_option linter.unusedVariables false
set_option linter.unusedSimpArgs false

/-! ### screeroom_Count_Writes: function 68 -/
mutual
def screeroom_Count_Writes.l0 : Nat → List (S67) → Int → Int → Option (Int)
  | 0, _, _, _ => none
  | k + 1, x1, x4, x1000 => if x4 < (x1.length : Int) then ((screeroom_Count_Ok.f x1000).bind fun bt260 => (screeroom_Count_Writes.j1 k x1 x4 bt260.1 bt260.2)) else (screeroom_Count_Writes.j1 k x1 x4 false x1000)
def screeroom_Count_Writes.j1 : Nat → List (S67) → Int → Bool → Int → Option (Int)
  | 0, _, _, _, _ => none
  | k + 1, x1, x4, x12, x1000 => if x12 = true then (if 0 ≤ x4 then (if x4 < (x1.length : Int) then ((screeroom_Count_Text.f x1000 ((rd_T67 x1 x4).f0)).bind fun t263 => ((screeroom_Count_Add.f t263 (((rd_T67 x1 x4).f2).size : Int)).bind fun bt265 => (screeroom_Count_Writes.l0 k x1 (wrap64 (x4 + 1)) bt265.2))) else (none)) else (none)) else (some x1000)
end
def screeroom_Count_Writes.f (k : Nat) (s0_0 : Int) (l1 : List (S67)) : Option (Int) := screeroom_Count_Writes.l0 k l1 0 s0_0
theorem screeroom_Count_Writes.mono_l : ∀ k, (∀ y0 y1 y2, LeO (screeroom_Count_Writes.l0 k y0 y1 y2) (screeroom_Count_Writes.l0 (k + 1) y0 y1 y2)) ∧ (∀ y0 y1 y2 y3, LeO (screeroom_Count_Writes.j1 k y0 y1 y2 y3) (screeroom_Count_Writes.j1 (k + 1) y0 y1 y2 y3))
  | 0 => ⟨fun _ _ _ r h => by simp [screeroom_Count_Writes.l0] at h, fun _ _ _ _ r h => by simp [screeroom_Count_Writes.j1] at h⟩
  | k + 1 => by
    obtain ⟨ih0, ih1⟩ := screeroom_Count_Writes.mono_l k
    refine ⟨?_, ?_⟩
    · intro y0 y1 y2
      unfold screeroom_Count_Writes.l0
      repeat' first
      | (with_reducible exact ih0 _ _ _)
      | (with_reducible exact ih1 _ _ _ _)
      | (with_reducible exact LeO.refl _)
      | (with_reducible exact LeO.none _)
      | (with_reducible refine LeO.ite ?_ ?_)
      | (with_reducible refine LeO.bind ?_ (fun _ => ?_))
      | exact ih0 _ _ _
      | exact ih1 _ _ _ _
      | exact LeO.none _
      | refine LeO.ite ?_ ?_
      | refine LeO.bind ?_ (fun _ => ?_)
    · intro y0 y1 y2 y3
      unfold screeroom_Count_Writes.j1
      repeat' first
      | (with_reducible exact ih0 _ _ _)
      | (with_reducible exact ih1 _ _ _ _)
      | (with_reducible exact LeO.refl _)
      | (with_reducible exact LeO.none _)
      | (with_reducible refine LeO.ite ?_ ?_)
      | (with_reducible refine LeO.bind ?_ (fun _ => ?_))
      | exact ih0 _ _ _
      | exact ih1 _ _ _ _
      | exact LeO.none _
      | refine LeO.ite ?_ ?_
      | refine LeO.bind ?_ (fun _ => ?_)
theorem screeroom_Count_Writes.mono : ∀ a0 a1 k, LeO (screeroom_Count_Writes.f k a0 a1) (screeroom_Count_Writes.f (k + 1) a0 a1) := by
  intro a0 a1 k
  obtain ⟨ih0, ih1⟩ := screeroom_Count_Writes.mono_l k
  unfold screeroom_Count_Writes.f
  repeat' first
      | (with_reducible exact ih0 _ _ _)
      | (with_reducible exact ih1 _ _ _ _)
      | (with_reducible exact LeO.refl _)
      | (with_reducible exact LeO.none _)
      | (with_reducible refine LeO.ite ?_ ?_)
      | (with_reducible refine LeO.bind ?_ (fun _ => ?_))
      | exact ih0 _ _ _
      | exact ih1 _ _ _ _
      | exact LeO.none _
      | refine LeO.ite ?_ ?_
      | refine LeO.bind ?_ (fun _ => ?_)
set_option maxHeartbeats 8000000 in
set_option maxRecDepth 100000 in
theorem screeroom_Count_Writes.calls (k : Nat) (g : Nat) (s0_0 : Int) (A1 : Option Addr) (c1 : Nat) (l1 : List (S67)) (r : Int) (w0 w : World) (hI : IsS135 w0 w g s0_0) (hB : Below w0.heap.size w0 w) (hr1 : ∀ W_, KeepBut w W_ g none → Kd.C k67 W_ A1 l1.length l1) (hc1 : l1.length ≤ c1) (h : screeroom_Count_Writes.f k s0_0 l1 = some r) :
    Calls Tryd.prog 68 #[.pointer (some ⟨g, 0, none⟩), .slice A1 l1.length c1] w fun e w' => e = .returned (.tuple #[]) ∧ IsS135 w0 w' g r ∧ Below w0.heap.size w0 w' ∧ KeepBut w w' g none := by
  have HR1 := Aside0.mk hr1
  have HC1 := Aside0.mk hc1
  clear hr1 hc1
  have HI0 := Aside0.mk hI
  have HK := Aside0.mk (KeepBut.refl w g none)
  have HL := Aside0.mk hB.size
  clear hI
  have HW0 := Aside0.mk hB.size
  have HB := Aside0.mk hB
  clear hB
  have H : (screeroom_Count_Writes.l0 k l1 0 s0_0) = some r := h
  clear h
  have H' := Aside0.mk H
  clear H
  go_enter Tryd.func68, Tryd.ntmps68
  go_wp2
  go_loopg [4] k (fun kq v4 w' => ∃ (x4_1 : Int) (x1000_1 : Int), v4 = .int .i64 x4_1 ∧ Aside0 (screeroom_Count_Writes.l0 kq l1 x4_1 x1000_1 = some r) ∧ Aside0 (kq ≤ k) ∧ Aside0 (IsS135 w0 w' g x1000_1) ∧ Aside0 (KeepBut w w' g none) ∧ Aside0 (Below w0.heap.size w0 w'))
  case atStart => exact ⟨(0), (s0_0), (by first | rfl | (simp; done) | (simp [*]; done)), H', ⟨Nat.le_refl _⟩, ⟨by repeat (first | (with_reducible first | exact HI0.out | apply IsS135.alloc | apply IsS135.drewN | apply IsS135.drew | apply IsS135.set_0) | exact HI0.out)⟩, ⟨by repeat (first | (with_reducible first | exact HK.out | apply KeepBut.set_ | apply keep_drewN | apply keep_drew | apply keep_alloc) | exact HK.out)⟩, ⟨by repeat (first | (with_reducible first | exact HB.out | apply below_alloc | apply pw_below_drewN | apply below_drew1 | refine below_set ?_ (IsS135.ge HI0.out)) | exact HB.out)⟩⟩
  case round =>
    clear H'
    try clear c1
    try clear p2
    obtain ⟨x4_1, x1000_1, rfl, HA, HK1, HI0, HK, HB⟩ := hrel
    cases gk with
    | zero => exact absurd HA.out (by simp [screeroom_Count_Writes.l0])
    | succ k1 =>
      have H := HA.out
      clear HA
      simp only [screeroom_Count_Writes.l0] at H
      have HC3 := Aside0.mk H
      clear H
      go_upto_region 1 with (fail)
      (try (obtain ⟨tb1_, hTB1_⟩ : ∃ tb_ : Bool, (decide (x4_1 < (l1.length : Int))) = tb_ := ⟨_, rfl⟩; simp only [hTB1_]; have TB1_ := Aside0.mk hTB1_; clear hTB1_))
      go_cut [12] (fun v12 wc => ∃ (kq : Nat) (x12_2 : Bool) (x1000_2 : Int), v12 = .bool x12_2 ∧ Aside0 (screeroom_Count_Writes.j1 kq l1 x4_1 x12_2 x1000_2 = some r) ∧ Aside0 (kq ≤ k1) ∧ Aside0 (IsS135 w0 wc g x1000_2) ∧ Aside0 (KeepBut w wc g none) ∧ Aside0 (Below w0.heap.size w0 wc))
      case first =>
        have H := HC3.out
        clear HC3
        by_cases c4 : x4_1 < (l1.length : Int)
        · rw [if_pos c4] at H
          have c4b0 : decide (x4_1 < (l1.length : Int)) = true := decide_eq_true c4
          (try (obtain rfl := TB1_.out.symm.trans c4b0))
          clear c4
          (first | rw [c4b0] | (simp only [i64_w, i32_w]; rw [c4b0]) | skip)
          replace H := Option.bind_eq_some_iff.mp H
          obtain ⟨⟨t260, t261⟩, A50, H⟩ := H
          replace H : (screeroom_Count_Writes.j1 k1 l1 x4_1 t260 t261) = some r := H
          have A5 := Aside0.mk A50
          clear A50
          have H' := Aside0.mk H
          clear H
          go_wp2_with (first | (go_at_call 53; (with_reducible refine (screeroom_Count_Ok.calls g x1000_1 t260 t261 w0 _ ?side1 ?side2 A5.out).mono ?_); (case side1 => repeat (first | (with_reducible first | exact HI0.out | apply IsS135.alloc | apply IsS135.drewN | apply IsS135.drew | apply IsS135.set_0) | exact HI0.out)); (case side2 => repeat (first | (with_reducible first | exact HB.out | apply below_alloc | apply pw_below_drewN | apply below_drew1 | refine below_set ?_ (IsS135.ge HI0.out)) | exact HB.out)); rintro e w6 ⟨rfl, hi, hb, hk⟩; have n0_ := Aside0.mk (KeepBut.trans (by repeat (first | (with_reducible first | exact HK.out | apply KeepBut.set_ | apply keep_drewN | apply keep_drew | apply keep_alloc) | exact HK.out)) hk (.inl rfl)); have n1_ := Aside0.mk (hb); have n2_ := Aside0.mk (hi); clear HK; clear HB; clear HI0; have HK := n0_; have HB := n1_; have HI0 := n2_; clear n0_ n1_ n2_; (try clear hb); (try clear hb2); (try clear hk); (try clear hi)))
          go_meet
          case rel => exact ⟨_, (t260), (t261), (by first | rfl | (simp; done) | (simp [*]; done)), H', ⟨by have := HK1.out; first | omega | exact Nat.le_refl _⟩, ⟨by repeat (first | (with_reducible first | exact HI0.out | apply IsS135.alloc | apply IsS135.drewN | apply IsS135.drew | apply IsS135.set_0) | exact HI0.out)⟩, ⟨by repeat (first | (with_reducible first | exact HK.out | apply KeepBut.set_ | apply keep_drewN | apply keep_drew | apply keep_alloc) | exact HK.out)⟩, ⟨by repeat (first | (with_reducible first | exact HB.out | apply below_alloc | apply pw_below_drewN | apply below_drew1 | refine below_set ?_ (IsS135.ge HI0.out)) | exact HB.out)⟩⟩
        · rw [if_neg c4] at H
          have c4b0 : decide (x4_1 < (l1.length : Int)) = false := decide_eq_false c4
          (try (obtain rfl := TB1_.out.symm.trans c4b0))
          clear c4
          (first | rw [c4b0] | (simp only [i64_w, i32_w]; rw [c4b0]) | skip)
          have H' := Aside0.mk H
          clear H
          go_wp2
          go_meet
          case rel => exact ⟨_, (false), (x1000_1), (by first | rfl | (simp; done) | (simp [*]; done)), H', ⟨by have := HK1.out; first | omega | exact Nat.le_refl _⟩, ⟨by repeat (first | (with_reducible first | exact HI0.out | apply IsS135.alloc | apply IsS135.drewN | apply IsS135.drew | apply IsS135.set_0) | exact HI0.out)⟩, ⟨by repeat (first | (with_reducible first | exact HK.out | apply KeepBut.set_ | apply keep_drewN | apply keep_drew | apply keep_alloc) | exact HK.out)⟩, ⟨by repeat (first | (with_reducible first | exact HB.out | apply below_alloc | apply pw_below_drewN | apply below_drew1 | refine below_set ?_ (IsS135.ge HI0.out)) | exact HB.out)⟩⟩
      case rest =>
        clear HC3
        try clear c1
        try clear p2
        try clear c4
        try clear c4b0
        try clear c6
        try clear p2
        obtain ⟨kq, x12_2, x1000_2, rfl, HA, HJ2, HI0, HK, HB⟩ := hcut
        cases kq with
        | zero => exact absurd HA.out (by simp [screeroom_Count_Writes.j1])
        | succ kj2 =>
          have H := HA.out
          clear HA
          simp only [screeroom_Count_Writes.j1] at H
          by_cases c7 : x12_2 = true
          · subst c7
            have H1 : (if 0 ≤ x4_1 then (if x4_1 < (l1.length : Int) then ((screeroom_Count_Text.f x1000_2 ((rd_T67 l1 x4_1).f0)).bind fun t263 => ((screeroom_Count_Add.f t263 (((rd_T67 l1 x4_1).f2).size : Int)).bind fun bt265 => (screeroom_Count_Writes.l0 kj2 l1 (wrap64 (x4_1 + 1)) bt265.2))) else (none)) else (none)) = some r := by rw [if_pos rfl] at H; exact H
            clear H
            have H := H1
            clear H1
            by_cases c8 : 0 ≤ x4_1
            · rw [if_pos c8] at H
              have c8b0 : decide (0 ≤ x4_1) = true := decide_eq_true c8
              clear c8
              by_cases c9 : x4_1 < (l1.length : Int)
              · rw [if_pos c9] at H
                have c9b0 : decide (x4_1 < (l1.length : Int)) = true := decide_eq_true c9
                clear c9
                replace H := Option.bind_eq_some_iff.mp H
                obtain ⟨t263, A100, H⟩ := H
                replace H : ((screeroom_Count_Add.f t263 (((rd_T67 l1 x4_1).f2).size : Int)).bind fun bt265 => (screeroom_Count_Writes.l0 kj2 l1 (wrap64 (x4_1 + 1)) bt265.2)) = some r := H
                have A10 := Aside0.mk A100
                clear A100
                replace H := Option.bind_eq_some_iff.mp H
                obtain ⟨⟨t265, t266⟩, A110, H⟩ := H
                replace H : (screeroom_Count_Writes.l0 kj2 l1 (wrap64 (x4_1 + 1)) t266) = some r := H
                have A11 := Aside0.mk A110
                clear A110
                have H' := Aside0.mk H
                clear H
                have p262 : 0 ≤ (x4_1 : Int) := of_decide_eq_true (by first | (with_reducible assumption) | assumption)
                have q262 : x4_1 < (l1.length : Int) := of_decide_eq_true (by first | (with_reducible assumption) | assumption)
                obtain ⟨ad262, e262, hx262_0, hx262_1, hx262_2⟩ := at_T67 (Kd.C_foot_now HR1.out HK.out) x4_1 p262 q262
                cases e262
                replace p262 := eq_true p262
                replace q262 := eq_true q262
                go_wp2_with (first | ((with_reducible refine gate_callee (f := 73) rfl ?_); refine goesL_ (some 21) rfl rfl Tryd.func73 (by kernel_rfl) rfl #[.pointer (some ⟨g, 0, none⟩), .string ((rd_T67 l1 x4_1).f0)] rfl (by (try simp only [List.map_toArray, List.map_cons, List.map_nil]); first | done | rfl | (simp only [List.length_drop, List.length_take]; rfl)) ?_; (with_reducible refine (screeroom_Count_Text.calls g x1000_2 ((rd_T67 l1 x4_1).f0) t263 w0 _ ?side1 ?side2 A10.out).mono ?_); (case side1 => repeat (first | (with_reducible first | exact HI0.out | apply IsS135.alloc | apply IsS135.drewN | apply IsS135.drew | apply IsS135.set_0) | exact HI0.out)); (case side2 => repeat (first | (with_reducible first | exact HB.out | apply below_alloc | apply pw_below_drewN | apply below_drew1 | refine below_set ?_ (IsS135.ge HI0.out)) | exact HB.out)); rintro e w12 ⟨rfl, hi, hb, hk⟩; refine ⟨_, rfl, ?_⟩; have n0_ := Aside0.mk (KeepBut.trans (by repeat (first | (with_reducible first | exact HK.out | apply KeepBut.set_ | apply keep_drewN | apply keep_drew | apply keep_alloc) | exact HK.out)) hk (.inl rfl)); have n1_ := Aside0.mk (hb); have n2_ := Aside0.mk (hi); clear HK; clear HB; clear HI0; have HK := n0_; have HB := n1_; have HI0 := n2_; clear n0_ n1_ n2_; (try clear hb); (try clear hb2); (try clear hk); (try clear hi); have p264 : 0 ≤ (x4_1 : Int) := of_decide_eq_true (by first | (with_reducible assumption) | assumption); have q264 : x4_1 < (l1.length : Int) := of_decide_eq_true (by first | (with_reducible assumption) | assumption); obtain ⟨ad264, e264, hx264_0, hx264_1, hx264_2⟩ := at_T67 (Kd.C_foot_now HR1.out HK.out) x4_1 p264 q264; obtain rfl : ad262 = ad264 := (by injection e264); replace p264 := eq_true p264; replace q264 := eq_true q264) | ((with_reducible refine gate_callee (f := 67) rfl ?_); refine goesL_ (some 29) rfl rfl Tryd.func67 (by kernel_rfl) rfl #[.pointer (some ⟨g, 0, none⟩), .int .i64 (((rd_T67 l1 x4_1).f2).size : Int)] rfl (by (try simp only [List.map_toArray, List.map_cons, List.map_nil]); first | done | rfl | (simp only [List.length_drop, List.length_take]; rfl)) ?_; (with_reducible refine (screeroom_Count_Add.calls g t263 (((rd_T67 l1 x4_1).f2).size : Int) t265 t266 w0 _ ?side1 ?side2 A11.out).mono ?_); (case side1 => repeat (first | (with_reducible first | exact HI0.out | apply IsS135.alloc | apply IsS135.drewN | apply IsS135.drew | apply IsS135.set_0) | exact HI0.out)); (case side2 => repeat (first | (with_reducible first | exact HB.out | apply below_alloc | apply pw_below_drewN | apply below_drew1 | refine below_set ?_ (IsS135.ge HI0.out)) | exact HB.out)); rintro e w13 ⟨rfl, hi, hb, hk⟩; refine ⟨_, rfl, ?_⟩; have n0_ := Aside0.mk (KeepBut.trans (by repeat (first | (with_reducible first | exact HK.out | apply KeepBut.set_ | apply keep_drewN | apply keep_drew | apply keep_alloc) | exact HK.out)) hk (.inl rfl)); have n1_ := Aside0.mk (hb); have n2_ := Aside0.mk (hi); clear HK; clear HB; clear HI0; have HK := n0_; have HB := n1_; have HI0 := n2_; clear n0_ n1_ n2_; (try clear hb); (try clear hb2); (try clear hk); (try clear hi)))
                go_roundg kj2
                case measure => have := HK1.out; have := HJ2.out; omega
                case rel => exact ⟨(wrap64 (x4_1 + 1)), (t266), (by first | rfl | (simp; done) | (simp [*]; done)), H', ⟨by have := HK1.out; have := HJ2.out; omega⟩, ⟨by repeat (first | (with_reducible first | exact HI0.out | apply IsS135.alloc | apply IsS135.drewN | apply IsS135.drew | apply IsS135.set_0) | exact HI0.out)⟩, ⟨by repeat (first | (with_reducible first | exact HK.out | apply KeepBut.set_ | apply keep_drewN | apply keep_drew | apply keep_alloc) | exact HK.out)⟩, ⟨by repeat (first | (with_reducible first | exact HB.out | apply below_alloc | apply pw_below_drewN | apply below_drew1 | refine below_set ?_ (IsS135.ge HI0.out)) | exact HB.out)⟩⟩
              · rw [if_neg c9] at H
                exact absurd H (by simp)
            · rw [if_neg c8] at H
              exact absurd H (by simp)
          · replace c7 := Bool.eq_false_iff.mpr c7
            subst c7
            have H1 : (some x1000_2) = some r := by rw [if_neg (show ¬ (false = true) by decide)] at H; exact H
            clear H
            have H := H1
            clear H1
            obtain rfl := Option.some.inj H
            go_wp2
            first | go_end0 | ((try simp only [Exit.inBlock, Exit.then]); refine bodyPost_ret (results_none rfl _ _ _) rfl ?_)
            exact ⟨by first | rfl | (simp [errW_none, errW_some] <;> rfl) | (simp [*, errW_none, errW_some] <;> rfl), by repeat (first | (with_reducible first | exact HI0.out | apply IsS135.alloc | apply IsS135.drewN | apply IsS135.drew | apply IsS135.set_0) | exact HI0.out), by repeat (first | (with_reducible first | exact HB.out | apply below_alloc | apply pw_below_drewN | apply below_drew1 | refine below_set ?_ (IsS135.ge HI0.out)) | exact HB.out), by repeat (first | (with_reducible first | exact HK.out | apply KeepBut.set_ | apply keep_drewN | apply keep_drew | apply keep_alloc) | exact HK.out)⟩

-- NOT PRINTED: function 52 (screeroom_Count_Groups)

-- NOT PRINTED: function 22 (screelaw7_small)

/-! ### ikey_Check: function 54 -/
def ikey_Check.f (a0 : ByteArray) : Option (Int) := if a0.toList = ([] : List UInt8) then (some 10) else (if (a0.size : Int) > 64 then (some 11) else (some 0))
set_option maxHeartbeats 8000000 in
set_option maxRecDepth 100000 in
theorem ikey_Check.calls (a0 : ByteArray) (r : Int) (w : World) (h : ikey_Check.f a0 = some r) :
    Calls Tryd.prog 54 #[.string a0] w fun e w' => e = .returned (.int .i64 r) ∧ Drawn0 w w' := by
  have H : (if a0.toList = ([] : List UInt8) then (some 10) else (if (a0.size : Int) > 64 then (some 11) else (some 0))) = some r := h
  clear h
  by_cases c2 : a0.toList = ([] : List UInt8)
  · rw [if_pos c2] at H
    have c2b0 : (a0.toList == ([] : List UInt8)) = true := beq_iff_eq.mpr c2
    have c2b1 : (a0.toList != ([] : List UInt8)) = false := bne_eq_false_iff_eq.mpr c2
    clear c2
    obtain rfl := Option.some.inj H
    go_enter Tryd.func54, Tryd.ntmps54
    go_wp2
    go_ret
    exact ⟨by first | rfl | (simp; done) | (simp [*]; done), by repeat (first | exact Drawn0.refl _ | apply Drawn0.step)⟩
  · rw [if_neg c2] at H
    have c2b0 : (a0.toList == ([] : List UInt8)) = false := beq_eq_false_iff_ne.mpr c2
    have c2b1 : (a0.toList != ([] : List UInt8)) = true := bne_iff_ne.mpr c2
    by_cases c3 : (a0.size : Int) > 64
    · rw [if_pos c3] at H
      have c3b0 : decide (64 < (a0.size : Int)) = true := decide_eq_true c3
      have c3b1 : decide (64 < a0.size) = true := decide_eq_true (by omega)
      clear c3
      obtain rfl := Option.some.inj H
      go_enter Tryd.func54, Tryd.ntmps54
      go_wp2
      go_ret
      exact ⟨by first | rfl | (simp; done) | (simp [*]; done), by repeat (first | exact Drawn0.refl _ | apply Drawn0.step)⟩
    · rw [if_neg c3] at H
      have c3b0 : decide (64 < (a0.size : Int)) = false := decide_eq_false c3
      have c3b1 : decide (64 < a0.size) = false := decide_eq_false (by omega)
      clear c3
      obtain rfl := Option.some.inj H
      go_enter Tryd.func54, Tryd.ntmps54
      go_wp2
      go_ret
      exact ⟨by first | rfl | (simp; done) | (simp [*]; done), by repeat (first | exact Drawn0.refl _ | apply Drawn0.step)⟩

/-! ### ikey_CheckBatch: function 23 -/
def ikey_CheckBatch.l0 : Nat → List (S67) → Int → Int → Option (Int)
  | 0, _, _, _ => none
  | k + 1, x9, x10, x11 => if x11 < x10 then (if 0 ≤ x11 then (if x11 < (x9.length : Int) then ((ikey_Check.f ((rd_T67 x9 x11).f0)).bind fun t277 => (if t277 = 0 then (if ((rd_T67 x9 x11).f1 = true) then (ikey_CheckBatch.l0 k x9 x10 (wrap64 (x11 + 1))) else (if (((rd_T67 x9 x11).f2).size : Int) > 512 then (some 12) else (ikey_CheckBatch.l0 k x9 x10 (wrap64 (x11 + 1))))) else (some t277))) else (none)) else (none)) else (some 0)
def ikey_CheckBatch.f (k : Nat) (l0 : List (S67)) : Option (Int) := if (l0.length : Int) > 16 then (some 13) else (ikey_CheckBatch.l0 k l0 (l0.length : Int) 0)
theorem ikey_CheckBatch.mono_l : ∀ k, (∀ y0 y1 y2, LeO (ikey_CheckBatch.l0 k y0 y1 y2) (ikey_CheckBatch.l0 (k + 1) y0 y1 y2))
  | 0 => fun _ _ _ r h => by simp [ikey_CheckBatch.l0] at h
  | k + 1 => by
    have ih0 := ikey_CheckBatch.mono_l k
    · intro y0 y1 y2
      unfold ikey_CheckBatch.l0
      repeat' first
      | (with_reducible exact ih0 _ _ _)
      | (with_reducible exact LeO.refl _)
      | (with_reducible exact LeO.none _)
      | (with_reducible refine LeO.ite ?_ ?_)
      | (with_reducible refine LeO.bind ?_ (fun _ => ?_))
      | exact ih0 _ _ _
      | exact LeO.none _
      | refine LeO.ite ?_ ?_
      | refine LeO.bind ?_ (fun _ => ?_)
theorem ikey_CheckBatch.mono : ∀ a0 k, LeO (ikey_CheckBatch.f k a0) (ikey_CheckBatch.f (k + 1) a0) := by
  intro a0 k
  have ih0 := ikey_CheckBatch.mono_l k
  unfold ikey_CheckBatch.f
  repeat' first
      | (with_reducible exact ih0 _ _ _)
      | (with_reducible exact LeO.refl _)
      | (with_reducible exact LeO.none _)
      | (with_reducible refine LeO.ite ?_ ?_)
      | (with_reducible refine LeO.bind ?_ (fun _ => ?_))
      | exact ih0 _ _ _
      | exact LeO.none _
      | refine LeO.ite ?_ ?_
      | refine LeO.bind ?_ (fun _ => ?_)
set_option maxHeartbeats 8000000 in
set_option maxRecDepth 100000 in
theorem ikey_CheckBatch.calls (k : Nat) (A0 : Option Addr) (c0 : Nat) (l0 : List (S67)) (r : Int) (w : World) (hr0 : Kd.C k67 w A0 l0.length l0) (hc0 : l0.length ≤ c0) (h : ikey_CheckBatch.f k l0 = some r) :
    Calls Tryd.prog 23 #[.slice A0 l0.length c0] w fun e w' => e = .returned (.int .i64 r) ∧ Below w.heap.size w w' := by
  have hu67 := Tryd.underlying67
  have HR0 := Aside0.mk hr0
  have HC0 := Aside0.mk hc0
  clear hr0 hc0
  have HB := Aside0.mk (Below.refl w.heap.size w)
  have H : (if (l0.length : Int) > 16 then (some 13) else (ikey_CheckBatch.l0 k l0 (l0.length : Int) 0)) = some r := h
  clear h
  by_cases c2 : (l0.length : Int) > 16
  · rw [if_pos c2] at H
    have c2b0 : decide (16 < (l0.length : Int)) = true := decide_eq_true c2
    have c2b1 : decide (16 < l0.length) = true := decide_eq_true (by omega)
    clear c2
    obtain rfl := Option.some.inj H
    go_enter Tryd.func23, Tryd.ntmps23
    go_wp2
    go_ret
    exact ⟨by first | rfl | (simp [errW_none, errW_some] <;> rfl) | (simp [*, errW_none, errW_some] <;> rfl), by repeat (first | (with_reducible first | exact HB.out | apply below_alloc | apply pw_below_drewN | apply below_drew1) | exact HB.out)⟩
  · rw [if_neg c2] at H
    have c2b0 : decide (16 < (l0.length : Int)) = false := decide_eq_false c2
    have c2b1 : decide (16 < l0.length) = false := decide_eq_false (by omega)
    clear c2
    have H' := Aside0.mk H
    clear H
    go_enter Tryd.func23, Tryd.ntmps23
    go_wp2
    go_loopg [11] k (fun kq v11 w' => ∃ (x11_1 : Int), v11 = .int .i64 x11_1 ∧ Aside0 (ikey_CheckBatch.l0 kq l0 (l0.length : Int) x11_1 = some r) ∧ Aside0 (kq ≤ k) ∧ Aside0 (Below w.heap.size w w'))
    case atStart => exact ⟨(0), (by first | rfl | (simp; done) | (simp [*]; done)), H', ⟨Nat.le_refl _⟩, ⟨by repeat (first | (with_reducible first | exact HB.out | apply below_alloc | apply pw_below_drewN | apply below_drew1) | exact HB.out)⟩⟩
    case round =>
      clear H'
      try clear c2
      try clear c2b0
      try clear c2b1
      try clear p2
      obtain ⟨x11_1, rfl, HA, HK1, HB⟩ := hrel
      cases gk with
      | zero => exact absurd HA.out (by simp [ikey_CheckBatch.l0])
      | succ k1 =>
        have H := HA.out
        clear HA
        simp only [ikey_CheckBatch.l0] at H
        by_cases c3 : x11_1 < (l0.length : Int)
        · rw [if_pos c3] at H
          have c3b0 : decide (x11_1 < (l0.length : Int)) = true := decide_eq_true c3
          clear c3
          by_cases c4 : 0 ≤ x11_1
          · rw [if_pos c4] at H
            have c4b0 : decide (0 ≤ x11_1) = true := decide_eq_true c4
            clear c4
            by_cases c5 : x11_1 < (l0.length : Int)
            · rw [if_pos c5] at H
              have c5b0 : decide (x11_1 < (l0.length : Int)) = true := decide_eq_true c5
              clear c5
              replace H := Option.bind_eq_some_iff.mp H
              obtain ⟨t277, A60, H⟩ := H
              replace H : (if t277 = 0 then (if ((rd_T67 l0 x11_1).f1 = true) then (ikey_CheckBatch.l0 k1 l0 (l0.length : Int) (wrap64 (x11_1 + 1))) else (if (((rd_T67 l0 x11_1).f2).size : Int) > 512 then (some 12) else (ikey_CheckBatch.l0 k1 l0 (l0.length : Int) (wrap64 (x11_1 + 1))))) else (some t277)) = some r := H
              have A6 := Aside0.mk A60
              clear A60
              by_cases c7 : t277 = 0
              · rw [if_pos c7] at H
                have c7b0 : (t277 == 0) = true := beq_iff_eq.mpr c7
                have c7b1 : (t277 != 0) = false := bne_eq_false_iff_eq.mpr c7
                clear c7
                obtain ⟨bq8, hbq8⟩ : ∃ b_ : Bool, b_ = ((rd_T67 l0 x11_1).f1) := ⟨_, rfl⟩
                replace H : (if (bq8 = true) then (ikey_CheckBatch.l0 k1 l0 (l0.length : Int) (wrap64 (x11_1 + 1))) else (if (((rd_T67 l0 x11_1).f2).size : Int) > 512 then (some 12) else (ikey_CheckBatch.l0 k1 l0 (l0.length : Int) (wrap64 (x11_1 + 1))))) = some r := by rw [← hbq8] at H; exact H
                have Nbq8 := Aside0.mk hbq8
                clear hbq8
                by_cases c9 : (bq8 = true)
                · subst c9
                  have H1 : (ikey_CheckBatch.l0 k1 l0 (l0.length : Int) (wrap64 (x11_1 + 1))) = some r := by rw [if_pos rfl] at H; exact H
                  clear H
                  have H := H1
                  clear H1
                  have H' := Aside0.mk H
                  clear H
                  have p275 : 0 ≤ (x11_1 : Int) := of_decide_eq_true (by first | (with_reducible assumption) | assumption)
                  have q275 : x11_1 < (l0.length : Int) := of_decide_eq_true (by first | (with_reducible assumption) | assumption)
                  obtain ⟨ad275, e275, hx275_0, hx275_1, hx275_2⟩ := at_T67 HR0.out x11_1 p275 q275
                  (try rw [← Nbq8.out] at hx275_1)
                  cases e275
                  replace hx275_0 := (HB.out.cell (World.block_lt_of_cell? w _ hx275_0)).trans hx275_0
                  replace hx275_1 := (HB.out.cell (World.block_lt_of_cell? w _ hx275_1)).trans hx275_1
                  replace hx275_2 := (HB.out.cell (World.block_lt_of_cell? w _ hx275_2)).trans hx275_2
                  replace p275 := eq_true p275
                  replace q275 := eq_true q275
                  go_wp2_with (first | ((with_reducible refine gate_dst (N := 4) rfl ?_); (try (refine gate_guard (by rfl) ?_; dsimp only)); refine box_event ?hg (N := 4) ?hd (cs := #[.string (⟨#[]⟩ : ByteArray), .bool false, .string (⟨#[]⟩ : ByteArray)]) (t := 67) ?hr ?_; (case hd => rfl); (case hg => rfl); (case hr => first | (go_simp; done) | (go_simp; rfl)); intro gb276 hg w10 hbox hb; have n0_ := Aside0.mk (below_step (by repeat (first | (with_reducible first | exact HB.out | apply below_alloc | apply pw_below_drewN | apply below_drew1) | exact HB.out)) hb); have n1_ := Aside0.mk (hbox); have n2_ := Aside0.mk ((by rw [hg]; exact (below_size (by repeat (first | (with_reducible first | exact HB.out | apply below_alloc | apply pw_below_drewN | apply below_drew1) | exact HB.out))) : w.heap.size ≤ gb276)); have n3_ := Aside0.mk ((by rw [hg]; exact (below_size (by repeat (first | (with_reducible first | exact HB.out | apply below_alloc | apply pw_below_drewN | apply below_drew1) | exact HB.out))) : w.heap.size ≤ gb276)); clear HB; have HB := n0_; have BK276 := n1_; have GW276 := n2_; have GE276 := n3_; clear n0_ n1_ n2_ n3_; clear hb hbox hg; have hcz11_0 : w10.cell? ⟨gb276, 0, none⟩ = some (.string (⟨#[]⟩ : ByteArray)) := (blk_cell BK276.out 0).trans rfl; have hcz11_1 : w10.cell? ⟨gb276, 1, none⟩ = some (.bool false) := (blk_cell BK276.out 1).trans rfl; have hcz11_2 : w10.cell? ⟨gb276, 2, none⟩ = some (.string (⟨#[]⟩ : ByteArray)) := (blk_cell BK276.out 2).trans rfl; have hfz11_0 := blk_frozen BK276.out 0; have hfz11_1 := blk_frozen BK276.out 1; have hfz11_2 := blk_frozen BK276.out 2) | ((with_reducible refine gate_callee (f := 54) rfl ?_); refine goesL_ (some 17) rfl rfl Tryd.func54 (by kernel_rfl) rfl #[.string ((rd_T67 l0 x11_1).f0)] rfl (by (try simp only [List.map_toArray, List.map_cons, List.map_nil]); first | done | rfl | (simp only [List.length_drop, List.length_take]; rfl)) ?_; (with_reducible refine (ikey_Check.calls ((rd_T67 l0 x11_1).f0) t277 _ A6.out).mono ?_); rintro e w' ⟨rfl, ⟨nd, rfl⟩⟩; refine ⟨_, rfl, ?_⟩))
                  go_roundg k1
                  case measure => have := HK1.out; omega
                  case rel => exact ⟨(wrap64 (x11_1 + 1)), (by first | rfl | (simp; done) | (simp [*]; done)), H', ⟨by have := HK1.out; omega⟩, ⟨by repeat (first | (with_reducible first | exact HB.out | apply below_alloc | apply pw_below_drewN | apply below_drew1 | refine below_set ?_ GE276.out) | exact HB.out)⟩⟩
                · replace c9 := Bool.eq_false_iff.mpr c9
                  subst c9
                  have H1 : (if (((rd_T67 l0 x11_1).f2).size : Int) > 512 then (some 12) else (ikey_CheckBatch.l0 k1 l0 (l0.length : Int) (wrap64 (x11_1 + 1)))) = some r := by rw [if_neg (show ¬ (false = true) by decide)] at H; exact H
                  clear H
                  have H := H1
                  clear H1
                  by_cases c12 : (((rd_T67 l0 x11_1).f2).size : Int) > 512
                  · rw [if_pos c12] at H
                    have c12b0 : decide (512 < (((rd_T67 l0 x11_1).f2).size : Int)) = true := decide_eq_true c12
                    have c12b1 : decide (512 < ((rd_T67 l0 x11_1).f2).size) = true := decide_eq_true (by omega)
                    clear c12
                    obtain rfl := Option.some.inj H
                    have p275 : 0 ≤ (x11_1 : Int) := of_decide_eq_true (by first | (with_reducible assumption) | assumption)
                    have q275 : x11_1 < (l0.length : Int) := of_decide_eq_true (by first | (with_reducible assumption) | assumption)
                    obtain ⟨ad275, e275, hx275_0, hx275_1, hx275_2⟩ := at_T67 HR0.out x11_1 p275 q275
                    (try rw [← Nbq8.out] at hx275_1)
                    cases e275
                    replace hx275_0 := (HB.out.cell (World.block_lt_of_cell? w _ hx275_0)).trans hx275_0
                    replace hx275_1 := (HB.out.cell (World.block_lt_of_cell? w _ hx275_1)).trans hx275_1
                    replace hx275_2 := (HB.out.cell (World.block_lt_of_cell? w _ hx275_2)).trans hx275_2
                    replace p275 := eq_true p275
                    replace q275 := eq_true q275
                    go_wp2_with (first | ((with_reducible refine gate_dst (N := 4) rfl ?_); (try (refine gate_guard (by rfl) ?_; dsimp only)); refine box_event ?hg (N := 4) ?hd (cs := #[.string (⟨#[]⟩ : ByteArray), .bool false, .string (⟨#[]⟩ : ByteArray)]) (t := 67) ?hr ?_; (case hd => rfl); (case hg => rfl); (case hr => first | (go_simp; done) | (go_simp; rfl)); intro gb276 hg w13 hbox hb; have n0_ := Aside0.mk (below_step (by repeat (first | (with_reducible first | exact HB.out | apply below_alloc | apply pw_below_drewN | apply below_drew1) | exact HB.out)) hb); have n1_ := Aside0.mk (hbox); have n2_ := Aside0.mk ((by rw [hg]; exact (below_size (by repeat (first | (with_reducible first | exact HB.out | apply below_alloc | apply pw_below_drewN | apply below_drew1) | exact HB.out))) : w.heap.size ≤ gb276)); have n3_ := Aside0.mk ((by rw [hg]; exact (below_size (by repeat (first | (with_reducible first | exact HB.out | apply below_alloc | apply pw_below_drewN | apply below_drew1) | exact HB.out))) : w.heap.size ≤ gb276)); clear HB; have HB := n0_; have BK276 := n1_; have GW276 := n2_; have GE276 := n3_; clear n0_ n1_ n2_ n3_; clear hb hbox hg; have hcz14_0 : w13.cell? ⟨gb276, 0, none⟩ = some (.string (⟨#[]⟩ : ByteArray)) := (blk_cell BK276.out 0).trans rfl; have hcz14_1 : w13.cell? ⟨gb276, 1, none⟩ = some (.bool false) := (blk_cell BK276.out 1).trans rfl; have hcz14_2 : w13.cell? ⟨gb276, 2, none⟩ = some (.string (⟨#[]⟩ : ByteArray)) := (blk_cell BK276.out 2).trans rfl; have hfz14_0 := blk_frozen BK276.out 0; have hfz14_1 := blk_frozen BK276.out 1; have hfz14_2 := blk_frozen BK276.out 2) | ((with_reducible refine gate_callee (f := 54) rfl ?_); refine goesL_ (some 17) rfl rfl Tryd.func54 (by kernel_rfl) rfl #[.string ((rd_T67 l0 x11_1).f0)] rfl (by (try simp only [List.map_toArray, List.map_cons, List.map_nil]); first | done | rfl | (simp only [List.length_drop, List.length_take]; rfl)) ?_; (with_reducible refine (ikey_Check.calls ((rd_T67 l0 x11_1).f0) t277 _ A6.out).mono ?_); rintro e w' ⟨rfl, ⟨nd, rfl⟩⟩; refine ⟨_, rfl, ?_⟩))
                    go_ret
                    exact ⟨by first | rfl | (simp [errW_none, errW_some] <;> rfl) | (simp [*, errW_none, errW_some] <;> rfl), by repeat (first | (with_reducible first | exact HB.out | apply below_alloc | apply pw_below_drewN | apply below_drew1 | refine below_set ?_ GE276.out) | exact HB.out)⟩
                  · rw [if_neg c12] at H
                    have c12b0 : decide (512 < (((rd_T67 l0 x11_1).f2).size : Int)) = false := decide_eq_false c12
                    have c12b1 : decide (512 < ((rd_T67 l0 x11_1).f2).size) = false := decide_eq_false (by omega)
                    clear c12
                    have H' := Aside0.mk H
                    clear H
                    have p275 : 0 ≤ (x11_1 : Int) := of_decide_eq_true (by first | (with_reducible assumption) | assumption)
                    have q275 : x11_1 < (l0.length : Int) := of_decide_eq_true (by first | (with_reducible assumption) | assumption)
                    obtain ⟨ad275, e275, hx275_0, hx275_1, hx275_2⟩ := at_T67 HR0.out x11_1 p275 q275
                    (try rw [← Nbq8.out] at hx275_1)
                    cases e275
                    replace hx275_0 := (HB.out.cell (World.block_lt_of_cell? w _ hx275_0)).trans hx275_0
                    replace hx275_1 := (HB.out.cell (World.block_lt_of_cell? w _ hx275_1)).trans hx275_1
                    replace hx275_2 := (HB.out.cell (World.block_lt_of_cell? w _ hx275_2)).trans hx275_2
                    replace p275 := eq_true p275
                    replace q275 := eq_true q275
                    go_wp2_with (first | ((with_reducible refine gate_dst (N := 4) rfl ?_); (try (refine gate_guard (by rfl) ?_; dsimp only)); refine box_event ?hg (N := 4) ?hd (cs := #[.string (⟨#[]⟩ : ByteArray), .bool false, .string (⟨#[]⟩ : ByteArray)]) (t := 67) ?hr ?_; (case hd => rfl); (case hg => rfl); (case hr => first | (go_simp; done) | (go_simp; rfl)); intro gb276 hg w15 hbox hb; have n0_ := Aside0.mk (below_step (by repeat (first | (with_reducible first | exact HB.out | apply below_alloc | apply pw_below_drewN | apply below_drew1) | exact HB.out)) hb); have n1_ := Aside0.mk (hbox); have n2_ := Aside0.mk ((by rw [hg]; exact (below_size (by repeat (first | (with_reducible first | exact HB.out | apply below_alloc | apply pw_below_drewN | apply below_drew1) | exact HB.out))) : w.heap.size ≤ gb276)); have n3_ := Aside0.mk ((by rw [hg]; exact (below_size (by repeat (first | (with_reducible first | exact HB.out | apply below_alloc | apply pw_below_drewN | apply below_drew1) | exact HB.out))) : w.heap.size ≤ gb276)); clear HB; have HB := n0_; have BK276 := n1_; have GW276 := n2_; have GE276 := n3_; clear n0_ n1_ n2_ n3_; clear hb hbox hg; have hcz16_0 : w15.cell? ⟨gb276, 0, none⟩ = some (.string (⟨#[]⟩ : ByteArray)) := (blk_cell BK276.out 0).trans rfl; have hcz16_1 : w15.cell? ⟨gb276, 1, none⟩ = some (.bool false) := (blk_cell BK276.out 1).trans rfl; have hcz16_2 : w15.cell? ⟨gb276, 2, none⟩ = some (.string (⟨#[]⟩ : ByteArray)) := (blk_cell BK276.out 2).trans rfl; have hfz16_0 := blk_frozen BK276.out 0; have hfz16_1 := blk_frozen BK276.out 1; have hfz16_2 := blk_frozen BK276.out 2) | ((with_reducible refine gate_callee (f := 54) rfl ?_); refine goesL_ (some 17) rfl rfl Tryd.func54 (by kernel_rfl) rfl #[.string ((rd_T67 l0 x11_1).f0)] rfl (by (try simp only [List.map_toArray, List.map_cons, List.map_nil]); first | done | rfl | (simp only [List.length_drop, List.length_take]; rfl)) ?_; (with_reducible refine (ikey_Check.calls ((rd_T67 l0 x11_1).f0) t277 _ A6.out).mono ?_); rintro e w' ⟨rfl, ⟨nd, rfl⟩⟩; refine ⟨_, rfl, ?_⟩))
                    go_roundg k1
                    case measure => have := HK1.out; omega
                    case rel => exact ⟨(wrap64 (x11_1 + 1)), (by first | rfl | (simp; done) | (simp [*]; done)), H', ⟨by have := HK1.out; omega⟩, ⟨by repeat (first | (with_reducible first | exact HB.out | apply below_alloc | apply pw_below_drewN | apply below_drew1 | refine below_set ?_ GE276.out) | exact HB.out)⟩⟩
              · rw [if_neg c7] at H
                have c7b0 : (t277 == 0) = false := beq_eq_false_iff_ne.mpr c7
                have c7b1 : (t277 != 0) = true := bne_iff_ne.mpr c7
                obtain rfl := Option.some.inj H
                have p275 : 0 ≤ (x11_1 : Int) := of_decide_eq_true (by first | (with_reducible assumption) | assumption)
                have q275 : x11_1 < (l0.length : Int) := of_decide_eq_true (by first | (with_reducible assumption) | assumption)
                obtain ⟨ad275, e275, hx275_0, hx275_1, hx275_2⟩ := at_T67 HR0.out x11_1 p275 q275
                cases e275
                replace hx275_0 := (HB.out.cell (World.block_lt_of_cell? w _ hx275_0)).trans hx275_0
                replace hx275_1 := (HB.out.cell (World.block_lt_of_cell? w _ hx275_1)).trans hx275_1
                replace hx275_2 := (HB.out.cell (World.block_lt_of_cell? w _ hx275_2)).trans hx275_2
                replace p275 := eq_true p275
                replace q275 := eq_true q275
                go_wp2_with (first | ((with_reducible refine gate_dst (N := 4) rfl ?_); (try (refine gate_guard (by rfl) ?_; dsimp only)); refine box_event ?hg (N := 4) ?hd (cs := #[.string (⟨#[]⟩ : ByteArray), .bool false, .string (⟨#[]⟩ : ByteArray)]) (t := 67) ?hr ?_; (case hd => rfl); (case hg => rfl); (case hr => first | (go_simp; done) | (go_simp; rfl)); intro gb276 hg w17 hbox hb; have n0_ := Aside0.mk (below_step (by repeat (first | (with_reducible first | exact HB.out | apply below_alloc | apply pw_below_drewN | apply below_drew1) | exact HB.out)) hb); have n1_ := Aside0.mk (hbox); have n2_ := Aside0.mk ((by rw [hg]; exact (below_size (by repeat (first | (with_reducible first | exact HB.out | apply below_alloc | apply pw_below_drewN | apply below_drew1) | exact HB.out))) : w.heap.size ≤ gb276)); have n3_ := Aside0.mk ((by rw [hg]; exact (below_size (by repeat (first | (with_reducible first | exact HB.out | apply below_alloc | apply pw_below_drewN | apply below_drew1) | exact HB.out))) : w.heap.size ≤ gb276)); clear HB; have HB := n0_; have BK276 := n1_; have GW276 := n2_; have GE276 := n3_; clear n0_ n1_ n2_ n3_; clear hb hbox hg; have hcz18_0 : w17.cell? ⟨gb276, 0, none⟩ = some (.string (⟨#[]⟩ : ByteArray)) := (blk_cell BK276.out 0).trans rfl; have hcz18_1 : w17.cell? ⟨gb276, 1, none⟩ = some (.bool false) := (blk_cell BK276.out 1).trans rfl; have hcz18_2 : w17.cell? ⟨gb276, 2, none⟩ = some (.string (⟨#[]⟩ : ByteArray)) := (blk_cell BK276.out 2).trans rfl; have hfz18_0 := blk_frozen BK276.out 0; have hfz18_1 := blk_frozen BK276.out 1; have hfz18_2 := blk_frozen BK276.out 2) | ((with_reducible refine gate_callee (f := 54) rfl ?_); refine goesL_ (some 17) rfl rfl Tryd.func54 (by kernel_rfl) rfl #[.string ((rd_T67 l0 x11_1).f0)] rfl (by (try simp only [List.map_toArray, List.map_cons, List.map_nil]); first | done | rfl | (simp only [List.length_drop, List.length_take]; rfl)) ?_; (with_reducible refine (ikey_Check.calls ((rd_T67 l0 x11_1).f0) t277 _ A6.out).mono ?_); rintro e w' ⟨rfl, ⟨nd, rfl⟩⟩; refine ⟨_, rfl, ?_⟩))
                go_ret
                exact ⟨by first | rfl | (simp [errW_none, errW_some] <;> rfl) | (simp [*, errW_none, errW_some] <;> rfl), by repeat (first | (with_reducible first | exact HB.out | apply below_alloc | apply pw_below_drewN | apply below_drew1 | refine below_set ?_ GE276.out) | exact HB.out)⟩
            · rw [if_neg c5] at H
              exact absurd H (by simp)
          · rw [if_neg c4] at H
            exact absurd H (by simp)
        · rw [if_neg c3] at H
          have c3b0 : decide (x11_1 < (l0.length : Int)) = false := decide_eq_false c3
          clear c3
          obtain rfl := Option.some.inj H
          go_wp2
          go_ret
          exact ⟨by first | rfl | (simp [errW_none, errW_some] <;> rfl) | (simp [*, errW_none, errW_some] <;> rfl), by repeat (first | (with_reducible first | exact HB.out | apply below_alloc | apply pw_below_drewN | apply below_drew1) | exact HB.out)⟩

-- NOT PRINTED: function 7 (screelaw7_LogGroup)

/-! ### ikey_charge: function 59 -/
def ikey_charge.f (a0 : ByteArray) (a1 : Bool) (a2 : ByteArray) : Option (Int) := if a1 = true then (some (wrap64 ((wrap64 (2 * (a0.size : Int))) + 448))) else (some (wrap64 ((wrap64 ((wrap64 (2 * (a0.size : Int))) + 448)) + (a2.size : Int))))
set_option maxHeartbeats 8000000 in
set_option maxRecDepth 100000 in
theorem ikey_charge.calls (a0 : ByteArray) (a1 : Bool) (a2 : ByteArray) (r : Int) (w : World) (h : ikey_charge.f a0 a1 a2 = some r) :
    Calls Tryd.prog 59 #[.string a0, .bool a1, .string a2] w fun e w' => e = .returned (.int .i64 r) ∧ Drawn0 w w' := by
  have H : (if a1 = true then (some (wrap64 ((wrap64 (2 * (a0.size : Int))) + 448))) else (some (wrap64 ((wrap64 ((wrap64 (2 * (a0.size : Int))) + 448)) + (a2.size : Int))))) = some r := h
  clear h
  by_cases c4 : a1 = true
  · subst c4
    have H1 : (some (wrap64 ((wrap64 (2 * (a0.size : Int))) + 448))) = some r := by rw [if_pos rfl] at H; exact H
    clear H
    have H := H1
    clear H1
    obtain rfl := Option.some.inj H
    go_enter Tryd.func59, Tryd.ntmps59
    go_wp2
    go_ret
    exact ⟨by first | rfl | (simp; done) | (simp [*]; done), by repeat (first | exact Drawn0.refl _ | apply Drawn0.step)⟩
  · replace c4 := Bool.eq_false_iff.mpr c4
    subst c4
    have H1 : (some (wrap64 ((wrap64 ((wrap64 (2 * (a0.size : Int))) + 448)) + (a2.size : Int)))) = some r := by rw [if_neg (show ¬ (false = true) by decide)] at H; exact H
    clear H
    have H := H1
    clear H1
    obtain rfl := Option.some.inj H
    go_enter Tryd.func59, Tryd.ntmps59
    go_wp2
    go_ret
    exact ⟨by first | rfl | (simp; done) | (simp [*]; done), by repeat (first | exact Drawn0.refl _ | apply Drawn0.step)⟩

/-! ### ikey_BatchWeight: function 27 -/
def ikey_BatchWeight.l0 : Nat → Int → List (S67) → Int → Int → Option (Int)
  | 0, _, _, _, _ => none
  | k + 1, x3, x6, x7, x8 => if x8 < x7 then (if 0 ≤ x8 then (if x8 < (x6.length : Int) then ((ikey_charge.f ((rd_T67 x6 x8).f0) ((rd_T67 x6 x8).f1) ((rd_T67 x6 x8).f2)).bind fun t280 => (ikey_BatchWeight.l0 k (wrap64 (x3 + t280)) x6 x7 (wrap64 (x8 + 1)))) else (none)) else (none)) else (some x3)
def ikey_BatchWeight.f (k : Nat) (l0 : List (S67)) : Option (Int) := ikey_BatchWeight.l0 k 0 l0 (l0.length : Int) 0
theorem ikey_BatchWeight.mono_l : ∀ k, (∀ y0 y1 y2 y3, LeO (ikey_BatchWeight.l0 k y0 y1 y2 y3) (ikey_BatchWeight.l0 (k + 1) y0 y1 y2 y3))
  | 0 => fun _ _ _ _ r h => by simp [ikey_BatchWeight.l0] at h
  | k + 1 => by
    have ih0 := ikey_BatchWeight.mono_l k
    · intro y0 y1 y2 y3
      unfold ikey_BatchWeight.l0
      repeat' first
      | (with_reducible exact ih0 _ _ _ _)
      | (with_reducible exact LeO.refl _)
      | (with_reducible exact LeO.none _)
      | (with_reducible refine LeO.ite ?_ ?_)
      | (with_reducible refine LeO.bind ?_ (fun _ => ?_))
      | exact ih0 _ _ _ _
      | exact LeO.none _
      | refine LeO.ite ?_ ?_
      | refine LeO.bind ?_ (fun _ => ?_)
theorem ikey_BatchWeight.mono : ∀ a0 k, LeO (ikey_BatchWeight.f k a0) (ikey_BatchWeight.f (k + 1) a0) := by
  intro a0 k
  have ih0 := ikey_BatchWeight.mono_l k
  unfold ikey_BatchWeight.f
  repeat' first
      | (with_reducible exact ih0 _ _ _ _)
      | (with_reducible exact LeO.refl _)
      | (with_reducible exact LeO.none _)
      | (with_reducible refine LeO.ite ?_ ?_)
      | (with_reducible refine LeO.bind ?_ (fun _ => ?_))
      | exact ih0 _ _ _ _
      | exact LeO.none _
      | refine LeO.ite ?_ ?_
      | refine LeO.bind ?_ (fun _ => ?_)
set_option maxHeartbeats 8000000 in
set_option maxRecDepth 100000 in
theorem ikey_BatchWeight.calls (k : Nat) (A0 : Option Addr) (c0 : Nat) (l0 : List (S67)) (r : Int) (w : World) (hr0 : Kd.C k67 w A0 l0.length l0) (hc0 : l0.length ≤ c0) (h : ikey_BatchWeight.f k l0 = some r) :
    Calls Tryd.prog 27 #[.slice A0 l0.length c0] w fun e w' => e = .returned (.int .i64 r) ∧ Below w.heap.size w w' := by
  have hu67 := Tryd.underlying67
  have HR0 := Aside0.mk hr0
  have HC0 := Aside0.mk hc0
  clear hr0 hc0
  have HB := Aside0.mk (Below.refl w.heap.size w)
  have H : (ikey_BatchWeight.l0 k 0 l0 (l0.length : Int) 0) = some r := h
  clear h
  have H' := Aside0.mk H
  clear H
  go_enter Tryd.func27, Tryd.ntmps27
  go_wp2
  go_loopg [3, 8] k (fun kq v3 v8 w' => ∃ (x3_1 : Int) (x8_1 : Int), v3 = .int .i64 x3_1 ∧ v8 = .int .i64 x8_1 ∧ Aside0 (ikey_BatchWeight.l0 kq x3_1 l0 (l0.length : Int) x8_1 = some r) ∧ Aside0 (kq ≤ k) ∧ Aside0 (Below w.heap.size w w'))
  case atStart => exact ⟨(0), (0), (by first | rfl | (simp; done) | (simp [*]; done)), (by first | rfl | (simp; done) | (simp [*]; done)), H', ⟨Nat.le_refl _⟩, ⟨by repeat (first | (with_reducible first | exact HB.out | apply below_alloc | apply pw_below_drewN | apply below_drew1) | exact HB.out)⟩⟩
  case round =>
    clear H'
    obtain ⟨x3_1, x8_1, rfl, rfl, HA, HK1, HB⟩ := hrel
    cases gk with
    | zero => exact absurd HA.out (by simp [ikey_BatchWeight.l0])
    | succ k1 =>
      have H := HA.out
      clear HA
      simp only [ikey_BatchWeight.l0] at H
      by_cases c2 : x8_1 < (l0.length : Int)
      · rw [if_pos c2] at H
        have c2b0 : decide (x8_1 < (l0.length : Int)) = true := decide_eq_true c2
        clear c2
        by_cases c3 : 0 ≤ x8_1
        · rw [if_pos c3] at H
          have c3b0 : decide (0 ≤ x8_1) = true := decide_eq_true c3
          clear c3
          by_cases c4 : x8_1 < (l0.length : Int)
          · rw [if_pos c4] at H
            have c4b0 : decide (x8_1 < (l0.length : Int)) = true := decide_eq_true c4
            clear c4
            replace H := Option.bind_eq_some_iff.mp H
            obtain ⟨t280, A50, H⟩ := H
            replace H : (ikey_BatchWeight.l0 k1 (wrap64 (x3_1 + t280)) l0 (l0.length : Int) (wrap64 (x8_1 + 1))) = some r := H
            have A5 := Aside0.mk A50
            clear A50
            have H' := Aside0.mk H
            clear H
            have p278 : 0 ≤ (x8_1 : Int) := of_decide_eq_true (by first | (with_reducible assumption) | assumption)
            have q278 : x8_1 < (l0.length : Int) := of_decide_eq_true (by first | (with_reducible assumption) | assumption)
            obtain ⟨ad278, e278, hx278_0, hx278_1, hx278_2⟩ := at_T67 HR0.out x8_1 p278 q278
            cases e278
            replace hx278_0 := (HB.out.cell (World.block_lt_of_cell? w _ hx278_0)).trans hx278_0
            replace hx278_1 := (HB.out.cell (World.block_lt_of_cell? w _ hx278_1)).trans hx278_1
            replace hx278_2 := (HB.out.cell (World.block_lt_of_cell? w _ hx278_2)).trans hx278_2
            replace p278 := eq_true p278
            replace q278 := eq_true q278
            go_wp2_with (first | ((with_reducible refine gate_dst (N := 5) rfl ?_); refine box_event ?hg (N := 5) ?hd (cs := #[.string (⟨#[]⟩ : ByteArray), .bool false, .string (⟨#[]⟩ : ByteArray)]) (t := 67) ?hr ?_; (case hd => rfl); (case hg => rfl); (case hr => first | (go_simp; done) | (go_simp; rfl)); intro gb279 hg w6 hbox hb; have n0_ := Aside0.mk (below_step (by repeat (first | (with_reducible first | exact HB.out | apply below_alloc | apply pw_below_drewN | apply below_drew1) | exact HB.out)) hb); have n1_ := Aside0.mk (hbox); have n2_ := Aside0.mk ((by rw [hg]; exact (below_size (by repeat (first | (with_reducible first | exact HB.out | apply below_alloc | apply pw_below_drewN | apply below_drew1) | exact HB.out))) : w.heap.size ≤ gb279)); have n3_ := Aside0.mk ((by rw [hg]; exact (below_size (by repeat (first | (with_reducible first | exact HB.out | apply below_alloc | apply pw_below_drewN | apply below_drew1) | exact HB.out))) : w.heap.size ≤ gb279)); clear HB; have HB := n0_; have BK279 := n1_; have GW279 := n2_; have GE279 := n3_; clear n0_ n1_ n2_ n3_; clear hb hbox hg; have hcz7_0 : w6.cell? ⟨gb279, 0, none⟩ = some (.string (⟨#[]⟩ : ByteArray)) := (blk_cell BK279.out 0).trans rfl; have hcz7_1 : w6.cell? ⟨gb279, 1, none⟩ = some (.bool false) := (blk_cell BK279.out 1).trans rfl; have hcz7_2 : w6.cell? ⟨gb279, 2, none⟩ = some (.string (⟨#[]⟩ : ByteArray)) := (blk_cell BK279.out 2).trans rfl; have hfz7_0 := blk_frozen BK279.out 0; have hfz7_1 := blk_frozen BK279.out 1; have hfz7_2 := blk_frozen BK279.out 2) | ((with_reducible refine gate_callee (f := 59) rfl ?_); refine goesL_ (some 19) rfl rfl Tryd.func59 (by kernel_rfl) rfl #[.string ((rd_T67 l0 x8_1).f0), .bool ((rd_T67 l0 x8_1).f1), .string ((rd_T67 l0 x8_1).f2)] rfl (by (try simp only [List.map_toArray, List.map_cons, List.map_nil]); first | done | rfl | (simp only [List.length_drop, List.length_take]; rfl)) ?_; (with_reducible refine (ikey_charge.calls ((rd_T67 l0 x8_1).f0) ((rd_T67 l0 x8_1).f1) ((rd_T67 l0 x8_1).f2) t280 _ A5.out).mono ?_); rintro e w' ⟨rfl, ⟨nd, rfl⟩⟩; refine ⟨_, rfl, ?_⟩))
            go_roundg k1
            case measure => have := HK1.out; omega
            case rel => exact ⟨(wrap64 (x3_1 + t280)), (wrap64 (x8_1 + 1)), (by first | rfl | (simp; done) | (simp [*]; done)), (by first | rfl | (simp; done) | (simp [*]; done)), H', ⟨by have := HK1.out; omega⟩, ⟨by repeat (first | (with_reducible first | exact HB.out | apply below_alloc | apply pw_below_drewN | apply below_drew1 | refine below_set ?_ GE279.out) | exact HB.out)⟩⟩
          · rw [if_neg c4] at H
            exact absurd H (by simp)
        · rw [if_neg c3] at H
          exact absurd H (by simp)
      · rw [if_neg c2] at H
        have c2b0 : decide (x8_1 < (l0.length : Int)) = false := decide_eq_false c2
        clear c2
        obtain rfl := Option.some.inj H
        go_wp2
        go_ret
        exact ⟨by first | rfl | (simp [errW_none, errW_some] <;> rfl) | (simp [*, errW_none, errW_some] <;> rfl), by repeat (first | (with_reducible first | exact HB.out | apply below_alloc | apply pw_below_drewN | apply below_drew1) | exact HB.out)⟩

-- NOT PRINTED: function 8 (screelaw7_LogFits)

end Go.Proofs.YtnamanalacjhnaaDoor.QBk
/- How a record is read (plain functions; this claim's own definitions). -/
namespace Go.Proofs.YtnamanalacjhnaaDoor.Gt
open Go.RowKit Go.Proofs.YtnamanalacjhnaaDoorW.PrintWords Go.Proofs.YtnamanalacjhnaaDoor.Own Go.Proofs.YtnamanalacjhnaaDoor.Wk Go.Proofs.YtnamanalacjhnaaDoor.QBk
set_option linter.unusedVariables false
theorem info67 : (Tryd.prog.info? 67).map (fun i => (i.zero, i.size, i.bytes)) = some (some (.agg #[(.string ⟨#[]⟩), (.bool false), (.string ⟨#[]⟩)]), 3, 40) := by kernel_rfl
theorem info65 : (Tryd.prog.info? 65).map (fun i => (i.zero, i.size, i.bytes)) = some (some (.slice none 0 0), 1, 24) := by kernel_rfl
abbrev Wr := S67
/-- What is left of a record, and the first thing that was wrong. -/
abbrev St := List Int × Nat
def numS (s : St) : Nat × St := if s.2 ≠ 0 then (0, s) else ((uintN s.1).1, (s.1.drop (uintN s.1).2.1, (uintN s.1).2.2))
def textS (m : Int) (s : St) : ByteArray × St := if s.2 ≠ 0 then ((⟨#[]⟩ : ByteArray), s) else ((textL s.1 m).1, (s.1.drop (textL s.1 m).2.1.toNat, (textL s.1 m).2.2.toNat))
def delS (s : St) : Bool × St := if s.2 ≠ 0 then (false, s) else if s.1.length = 0 then (false, (s.1, 20)) else if rd s.1 0 > 1 then (false, (s.1, 21)) else (rd s.1 0 == 1, (s.1.drop 1, 0))
def keyS (s : St) : ByteArray × St := let t := textS 64 s; if t.2.2 = 0 ∧ t.1.toList = ([] : List UInt8) then (t.1, (t.2.1, 21)) else t
def writeS (s : St) : Wr × St :=
  let d := delS s
  let t := keyS d.2
  if d.1 = true then (⟨t.1, true, (⟨#[]⟩ : ByteArray)⟩, t.2) else (⟨t.1, false, (textS 512 t.2).1⟩, (textS 512 t.2).2)
def writesS : Nat → St → List Wr × St
  | 0, s => ([], s)
  | n + 1, s => if s.2 ≠ 0 then ([], s) else ((writeS s).1 :: (writesS n (writeS s).2).1, (writesS n (writeS s).2).2)
def countS (s : St) : Nat × St := let n := numS s; if n.2.2 = 0 ∧ n.1 > 16 then (n.1, (n.2.1, 22)) else n
def batchS (s : St) : List Wr × St := writesS (countS s).1 (countS s).2
def batchesS : Nat → Nat → St → List (List Wr) × St
  | 0, _, s => ([], s)
  | f + 1, n, s => if n = 0 ∨ s.2 ≠ 0 then ([], s) else ((batchS s).1 :: (batchesS f (n - 1) (batchS s).2).1, (batchesS f (n - 1) (batchS s).2).2)
def total (g : List (List Wr)) : Nat := (g.map List.length).sum
/-- How the record ends. -/
def finS (a : Nat) (g : List (List Wr)) (s : St) : Int × List (List Wr) × Int :=
  if s.2 ≠ 0 then (0, [], (s.2 : Int)) else if s.1.length > 0 then (0, [], 21)
  else if total g > 0 ∧ (a > 72057594037927935 ∨ total g - 1 > 72057594037927935 - a) then (0, [], 22) else ((a : Int), g, 0)
def getL (l : List Int) : Int × List (List Wr) × Int :=
  let a := numS (l, 0)
  let b := numS a.2
  let g := batchesS (l.length + 1) b.1 b.2
  finS a.1 g.1 g.2
/-- A step of the reader: bytes stay bytes, nothing grows, what was wrong stays wrong. -/
def Good (s s' : St) : Prop := (Bytes s.1 → Bytes s'.1) ∧ s'.1.length ≤ s.1.length ∧ (s'.2 = 0 → s.2 = 0)
theorem Good.refl (s : St) : Good s s := ⟨id, Nat.le_refl _, id⟩
theorem Good.trans {a b c : St} (h : Good a b) (h' : Good b c) : Good a c := ⟨fun x => h'.1 (h.1 x), Nat.le_trans h'.2.1 h.2.1, fun x => h.2.2 (h'.2.2 x)⟩
theorem bytes_drop {l : List Int} (n : Nat) (h : Bytes l) : Bytes (l.drop n) := fun x hx => h x (List.mem_of_mem_drop hx)
theorem Good.cut {s : St} (k e : Nat) (h : s.2 = 0) : Good s (s.1.drop k, e) := ⟨bytes_drop k, by simp [List.length_drop], fun _ => h⟩
theorem uintR_pos (l : List Int) : ∀ i a, (uintR l i a).2.2 = 0 → i + 1 ≤ (uintR l i a).2.1 ∧ (uintR l i a).2.1 ≤ l.length + i := by
  induction l with
  | nil => intro i a h; simp [uintR] at h
  | cons c r ih =>
    intro i a h
    simp only [uintR] at h ⊢
    split at h
    · simp at h
    · rename_i h1
      rw [if_neg h1]
      split at h
      · rename_i h2
        rw [if_pos h2]
        simp only [List.length_cons]
        omega
      · rename_i h2
        rw [if_neg h2]
        have := ih _ _ h
        simp only [List.length_cons]
        omega
theorem numS_good (s : St) : Good s (numS s).2 := by
  unfold numS
  by_cases h : s.2 = 0
  · rw [if_neg (by omega)]; exact Good.cut _ _ h
  · rw [if_pos h]; exact Good.refl _
theorem numS_less {s : St} (h : (numS s).2.2 = 0) : (numS s).2.1.length < s.1.length := by
  have h0 := (numS_good s).2.2 h
  unfold numS at h ⊢
  rw [if_neg (by omega)] at h ⊢
  have := uintR_pos s.1 0 0 h
  simp only [List.length_drop]
  unfold uintN
  omega
theorem numS_lt {s : St} (hb : Bytes s.1) : (numS s).1 < 18446744073709551616 := by
  unfold numS
  by_cases h : s.2 = 0
  · rw [if_neg (by omega)]; exact (uintN_spec s.1 hb).1
  · rw [if_pos h]; exact (by decide : (0 : Nat) < 18446744073709551616)
theorem textL_form (l : List Int) (m : Int) : ∃ (b : ByteArray) (K e : Nat), textL l m = (b, (K : Int), (e : Int)) ∧ K ≤ l.length := by
  unfold textL
  simp only
  split
  · exact ⟨_, 0, _, rfl, Nat.zero_le _⟩
  · rename_i h
    split
    · exact ⟨_, 0, 22, rfl, Nat.zero_le _⟩
    · split
      · exact ⟨_, 0, 20, rfl, Nat.zero_le _⟩
      · rename_i h2 h3
        refine ⟨_, _, 0, rfl, ?_⟩
        have h4 : (uintN l).2.2 = 0 := by omega
        have := uintR_pos l 0 0 h4
        unfold uintN at h3 ⊢
        omega
theorem textS_good (m : Int) (s : St) : Good s (textS m s).2 := by
  unfold textS
  by_cases h : s.2 = 0
  · rw [if_neg (by omega)]; exact Good.cut _ _ h
  · rw [if_pos h]; exact Good.refl _
theorem delS_good (s : St) : Good s (delS s).2 := by
  unfold delS
  by_cases h : s.2 = 0
  · rw [if_neg (by omega)]
    split
    · exact ⟨id, Nat.le_refl _, fun _ => h⟩
    · split
      · exact ⟨id, Nat.le_refl _, fun _ => h⟩
      · exact Good.cut _ _ h
  · rw [if_pos h]; exact Good.refl _
theorem keyS_good (s : St) : Good s (keyS s).2 := by
  unfold keyS
  simp only
  split
  · have := textS_good 64 s
    exact ⟨this.1, this.2.1, fun h => absurd h (Nat.succ_ne_zero _)⟩
  · exact textS_good 64 s
theorem writeS_good (s : St) : Good s (writeS s).2 := by
  unfold writeS
  simp only
  split
  · exact (delS_good s).trans (keyS_good _)
  · exact ((delS_good s).trans (keyS_good _)).trans (textS_good 512 _)
theorem writesS_good : ∀ (n : Nat) (s : St), Good s (writesS n s).2
  | 0, s => Good.refl s
  | n + 1, s => by
    unfold writesS
    split
    · exact Good.refl s
    · exact (writeS_good s).trans (writesS_good n _)
theorem writesS_len : ∀ (n : Nat) (s : St), (writesS n s).2.2 = 0 → (writesS n s).1.length = n
  | 0, s, _ => rfl
  | n + 1, s, h => by
    unfold writesS at h ⊢
    split at h
    · rename_i h1; exact absurd h h1
    · rename_i h1
      rw [if_neg h1]
      simp only [List.length_cons, writesS_len n _ h]
theorem writesS_le : ∀ (n : Nat) (s : St), (writesS n s).1.length ≤ n
  | 0, s => Nat.le_refl _
  | n + 1, s => by
    unfold writesS
    split
    · exact Nat.zero_le _
    · simp only [List.length_cons]; have := writesS_le n (writeS s).2; omega
theorem writesS_bad (n : Nat) {s : St} (h : s.2 ≠ 0) : writesS n s = ([], s) := by
  cases n with
  | zero => rfl
  | succ n => unfold writesS; rw [if_pos h]
theorem countS_good (s : St) : Good s (countS s).2 := by
  unfold countS
  simp only
  split
  · have := numS_good s
    exact ⟨this.1, this.2.1, fun h => absurd h (Nat.succ_ne_zero _)⟩
  · exact numS_good s
theorem countS_ok {s : St} (h : (countS s).2.2 = 0) : countS s = numS s ∧ (numS s).1 ≤ 16 ∧ (numS s).2.2 = 0 := by
  unfold countS at h ⊢
  simp only at h ⊢
  split at h
  · exact absurd h (Nat.succ_ne_zero _)
  · rename_i h1
    rw [if_neg h1]
    refine ⟨rfl, ?_, h⟩
    omega
theorem batchS_good (s : St) : Good s (batchS s).2 := (countS_good s).trans (writesS_good _ _)
theorem batchS_less {s : St} (h : (batchS s).2.2 = 0) : (batchS s).2.1.length < s.1.length := by
  have h1 := (writesS_good (countS s).1 (countS s).2)
  have h2 := countS_ok (h1.2.2 h)
  have h3 := numS_less h2.2.2
  have h4 := h1.2.1
  rw [h2.1] at h4
  unfold batchS
  rw [h2.1]
  omega
theorem batchS_len {s : St} (h : (batchS s).2.2 = 0) : (batchS s).1.length = (numS s).1 ∧ (numS s).1 ≤ 16 ∧ (numS s).2.2 = 0 := by
  have h1 := (writesS_good (countS s).1 (countS s).2)
  have h2 := countS_ok (h1.2.2 h)
  have h3 := writesS_len _ _ h
  unfold batchS
  rw [h2.1] at h3 ⊢
  exact ⟨h3, h2.2⟩
theorem batchesS_good : ∀ (f n : Nat) (s : St), Good s (batchesS f n s).2
  | 0, n, s => Good.refl s
  | f + 1, n, s => by
    unfold batchesS
    split
    · exact Good.refl s
    · exact (batchS_good s).trans (batchesS_good f _ _)
end Go.Proofs.YtnamanalacjhnaaDoor.Gt
/- The count of a group's parts (this claim's own lemmas). -/
namespace Go.Proofs.YtnamanalacjhnaaDoor.Sm
open Go.RowKit Go.Proofs.YtnamanalacjhnaaDoorW.PrintWords Go.Proofs.YtnamanalacjhnaaDoor.Own Go.Proofs.YtnamanalacjhnaaDoor.Wk Go.Proofs.YtnamanalacjhnaaDoor.QBk
set_option linter.unusedVariables false
abbrev Wr := S67
abbrev kG : Kd (List Wr) := Kd.slice 67 k67
/-- A state of the count: so many parts more, or none. -/
def addC (s n : Int) : Int := if s ≥ 0 then s - n else s
def cntW : Int → List Wr → Int
  | s, [] => s
  | s, x :: l => if s ≥ 0 then cntW (addC (addC s (1 + (x.f0.size : Int))) (x.f2.size : Int)) l else s
def cntL : Int → List (List Wr) → Int
  | s, [] => s
  | s, l :: g => if s ≥ 0 then cntL (cntW s l) g else s
def cntG (s : Int) (g : List (List Wr)) : Int := cntL (addC s (g.length : Int)) g
/-- How many parts a list of writes, a group has. -/
def parts (l : List Wr) : Nat := (l.map fun x => 1 + x.f0.size + x.f2.size).sum
def partsG (g : List (List Wr)) : Nat := g.length + (g.map parts).sum
/-- Its texts are no greater than what can be read. -/
def Fit (l : List Wr) : Prop := ∀ x ∈ l, x.f0.size ≤ 140737488351232 ∧ x.f2.size ≤ 140737488351232
def FitG (g : List (List Wr)) : Prop := ∀ l ∈ g, Fit l
def In (s : Int) : Prop := -1000000000000000 ≤ s ∧ s ≤ 32768
theorem addC_in {s n : Int} (h : In s) (h0 : 0 ≤ n) (h1 : n ≤ 140737488355328) : In (addC s n) := by
  unfold In at *; unfold addC; split <;> omega
theorem wrap_in {a : Int} (h0 : -9223372036854775808 ≤ a) (h1 : a < 9223372036854775808) : wrap64 a = a := by unfold wrap64; omega
theorem add_eq {s n : Int} (h : In s) (h0 : 0 ≤ n) (h1 : n ≤ 140737488355328) : ∃ b, screeroom_Count_Add.f s n = some (b, addC s n) := by
  unfold screeroom_Count_Add.f addC
  unfold In at h
  split
  · rw [wrap_in (by omega) (by omega)]; exact ⟨_, rfl⟩
  · exact ⟨_, rfl⟩
theorem text_eq {s : Int} {x : ByteArray} (h : In s) (hx : x.size ≤ 140737488351232) : screeroom_Count_Text.f s x = some (addC s (1 + (x.size : Int))) := by
  unfold screeroom_Count_Text.f
  rw [wrap_in (by omega) (by omega)]
  obtain ⟨b, hb⟩ := add_eq h (n := 1 + (x.size : Int)) (by omega) (by omega)
  rw [hb]
  rfl
theorem cntW_in {l : List Wr} : ∀ {s : Int}, In s → Fit l → In (cntW s l) := by
  induction l with
  | nil => intro s h _; exact h
  | cons x l ih =>
    intro s h hf
    unfold cntW
    split
    · have hx := hf x (by simp)
      exact ih (addC_in (addC_in h (by omega) (by omega)) (by omega) (by omega)) (fun y hy => hf y (by simp [hy]))
    · exact h
theorem writes_ev (l : List Wr) (hl : l.length ≤ 140737488351232) (hf : Fit l) (d : Nat) : ∀ (i : Nat) (s : Int), i + d = l.length → In s → Ev (fun k => screeroom_Count_Writes.l0 k l (i : Int) s) (cntW s (l.drop i)) := by
  induction d with
  | zero =>
    intro i s hi hs
    refine Ev.step (f := fun k => screeroom_Count_Writes.j1 k l (i : Int) false s) (fun k => ?_) (Ev.step (f := fun _ => some s) (fun k => ?_) ?_)
    · rw [screeroom_Count_Writes.l0, if_neg (by omega)]
    · rw [screeroom_Count_Writes.j1, if_neg (by decide)]
    · rw [List.drop_of_length_le (by omega)]; exact Ev.now _
  | succ d ih =>
    intro i s hi hs
    have hlt : i < l.length := by omega
    have hx : (rd_T67 l (i : Int)) = l[i] := by simp [rd_T67, List.getD_eq_getElem?_getD, hlt]
    rw [List.drop_eq_getElem_cons hlt]
    unfold cntW
    by_cases h0 : s ≥ 0
    · rw [if_pos h0]
      have hm := hf l[i] (List.getElem_mem hlt)
      have hs1 := addC_in hs (n := 1 + (l[i].f0.size : Int)) (by omega) (by omega)
      have hs2 := addC_in hs1 (n := (l[i].f2.size : Int)) (by omega) (by omega)
      obtain ⟨b, hb⟩ := add_eq hs1 (n := (l[i].f2.size : Int)) (by omega) (by omega)
      refine Ev.step (f := fun k => screeroom_Count_Writes.j1 k l (i : Int) true s) (fun k => ?_) (Ev.step (fun k => ?_) (ih (i + 1) _ (by omega) hs2))
      · rw [screeroom_Count_Writes.l0, if_pos (by omega)]
        unfold screeroom_Count_Ok.f
        rw [decide_eq_true h0]
        rfl
      · rw [screeroom_Count_Writes.j1, if_pos rfl, if_pos (by omega), if_pos (by omega), hx, text_eq hs hm.1, Option.bind_some, hb, Option.bind_some, wrap_in (by omega) (by omega)]
        rfl
    · rw [if_neg h0]
      refine Ev.step (f := fun k => screeroom_Count_Writes.j1 k l (i : Int) false s) (fun k => ?_) (Ev.step (f := fun _ => some s) (fun k => ?_) (Ev.now _))
      · rw [screeroom_Count_Writes.l0, if_pos (by omega)]
        unfold screeroom_Count_Ok.f
        rw [decide_eq_false h0]
        rfl
      · rw [screeroom_Count_Writes.j1, if_neg (by decide)]
theorem writes_eq {l : List Wr} {s : Int} (hl : l.length ≤ 140737488351232) (hf : Fit l) (hs : In s) : ∃ k, screeroom_Count_Writes.f k s l = some (cntW s l) := by
  have h := (writes_ev l hl hf l.length 0 s (by omega) hs).rounds
  exact h
theorem cntW_parts {l : List Wr} : ∀ {s : Int}, 0 ≤ cntW s l → 0 ≤ s ∧ (parts l : Int) + cntW s l = s := by
  induction l with
  | nil => intro s h; exact ⟨h, by simp [parts, cntW]⟩
  | cons x l ih =>
    intro s h
    unfold cntW at h ⊢
    by_cases h0 : s ≥ 0
    · rw [if_pos h0] at h ⊢
      obtain ⟨h1, h2⟩ := ih h
      have hp : parts (x :: l) = 1 + x.f0.size + x.f2.size + parts l := by simp [parts]
      have h3 : 0 ≤ addC s (1 + (x.f0.size : Int)) := by
        rcases Int.lt_or_le (addC s (1 + (x.f0.size : Int))) 0 with hlt | hge
        · have : addC (addC s (1 + (x.f0.size : Int))) (x.f2.size : Int) = addC s (1 + (x.f0.size : Int)) := by rw [addC, if_neg (by omega)]
          omega
        · exact hge
      have e1 : addC s (1 + (x.f0.size : Int)) = s - (1 + (x.f0.size : Int)) := by rw [addC, if_pos h0]
      have e2 : addC (addC s (1 + (x.f0.size : Int))) (x.f2.size : Int) = addC s (1 + (x.f0.size : Int)) - (x.f2.size : Int) := by rw [addC, if_pos h3]
      exact ⟨h0, by rw [hp]; omega⟩
    · rw [if_neg h0] at h
      omega
theorem cntL_parts {g : List (List Wr)} : ∀ {s : Int}, 0 ≤ cntL s g → 0 ≤ s ∧ ((g.map parts).sum : Int) ≤ s := by
  induction g with
  | nil => intro s h; exact ⟨h, by simpa [cntL] using h⟩
  | cons l g ih =>
    intro s h
    unfold cntL at h
    by_cases h0 : s ≥ 0
    · rw [if_pos h0] at h
      obtain ⟨h1, h2⟩ := ih h
      obtain ⟨h3, h4⟩ := cntW_parts h1
      refine ⟨h0, ?_⟩
      rw [List.map_cons, List.sum_cons]
      omega
    · rw [if_neg h0] at h
      omega
/-- What the count lets by is small. -/
theorem cntG_parts {g : List (List Wr)} (h : 0 ≤ cntG 32768 g) : partsG g ≤ 32768 := by
  unfold cntG at h
  obtain ⟨h1, h2⟩ := cntL_parts h
  have e : addC 32768 (g.length : Int) = 32768 - (g.length : Int) := by rw [addC, if_pos (by decide)]
  unfold partsG
  omega
theorem heapWr : Kd.Heap k67 := ⟨fun _ h => by rw [k67_open h]; exact k67_mk _ _⟩
theorem below_foot {w0 W W' : World} {g : Nat} (hb : Below w0.heap.size w0 W) (hg : w0.heap.size ≤ g) (hk : KeepBut W W' g none) : ∀ k, k < w0.heap.size → W'.heap[k]? = w0.heap[k]? := Kd.keep_heap hb hk hg
set_option maxHeartbeats 2000000 in
set_option maxRecDepth 100000 in
theorem groups_calls {w0 W : World} {g : Nat} {s : Int} {A : Option Addr} {n c : Nat} {G : List (List Wr)} (hI : IsS135 w0 W g s) (hB : Below w0.heap.size w0 W) (h : Rd kG w0 A n c G) (hs : In s) (hG : G.length ≤ 140737488351232) (hl : ∀ l ∈ G, l.length ≤ 140737488351232) (hf : FitG G) :
    Calls Tryd.prog 52 #[.pointer (some ⟨g, 0, none⟩), .slice A n c] W fun e w' => e = .returned (.tuple #[]) ∧ IsS135 w0 w' g (cntG s G) ∧ Below w0.heap.size w0 w' ∧ KeepBut W w' g none := by
  have hm := h.1
  subst hm
  have HR := Aside0.mk h
  have HI := Aside0.mk hI
  have HB := Aside0.mk hB
  have HF := Aside0.mk hf
  have HL := Aside0.mk hl
  obtain ⟨r, hr⟩ : ∃ r, r = cntG s G := ⟨_, rfl⟩
  rw [← hr]
  obtain ⟨s1, hs1⟩ : ∃ s1, s1 = addC s (G.length : Int) := ⟨_, rfl⟩
  have HS1 : Aside0 (In s1) := ⟨by rw [hs1]; exact addC_in hs (by omega) (by omega)⟩
  have HR1 : Aside0 (cntL s1 (G.drop 0) = r) := ⟨by rw [hr, hs1]; rfl⟩
  obtain ⟨b, hb⟩ := add_eq hs (n := (G.length : Int)) (by omega) (by omega)
  rw [← hs1] at hb
  have HA := Aside0.mk hb
  clear h hI hB hf hl hr hs1 hb hs
  go_enter Tryd.func52, Tryd.ntmps52
  go_wp2_with fail
  refine (screeroom_Count_Add.calls g s (G.length : Int) b s1 w0 W HI.out HB.out HA.out).mono ?_
  rintro e w1 ⟨rfl, hI1, hB1, hK1⟩
  have HI1 := Aside0.mk hI1
  have HB1 := Aside0.mk hB1
  have HK1 := Aside0.mk hK1
  clear hI1 hB1 hK1 HI HB HA
  go_wp2_with fail
  go_loopw [4] (fun vi wr => ∃ (i : Nat) (x : Int), vi = .int .i64 (i : Int) ∧ i ≤ G.length ∧ Aside0 (In x) ∧ Aside0 (cntL x (G.drop i) = r) ∧ Aside0 (IsS135 w0 wr g x) ∧ Aside0 (Below w0.heap.size w0 wr) ∧ Aside0 (KeepBut W wr g none)) (fun vi _ => G.length - (intOf vi).toNat)
  case atStart => exact ⟨0, s1, rfl, Nat.zero_le _, HS1, HR1, HI1, HB1, HK1⟩
  case round =>
    clear HS1 HR1 HI1 HB1 HK1
    obtain ⟨i, x, rfl, hi, HX, HQ, HI, HB, HK⟩ := hrel
    by_cases hlt : i < G.length
    · have hq := HQ.out
      have hgi : rd_L5 G (i : Int) = G[i] := by simp [rd_L5, List.getD_eq_getElem?_getD, hlt]
      rw [List.drop_eq_getElem_cons hlt, ← hgi] at hq
      unfold cntL at hq
      have hml : (rd_L5 G (i : Int)).length ≤ 140737488351232 := by rw [hgi]; exact HL.out _ (List.getElem_mem hlt)
      have hmf : Fit (rd_L5 G (i : Int)) := by rw [hgi]; exact HF.out _ (List.getElem_mem hlt)
      by_cases h0 : x ≥ 0
      · rw [if_pos h0] at hq
        have HOk : Aside0 (screeroom_Count_Ok.f x = some (true, x)) := ⟨by unfold screeroom_Count_Ok.f; rw [decide_eq_true h0]⟩
        obtain ⟨k, hk⟩ := writes_eq hml hmf HX.out
        have HW := Aside0.mk hk
        have HQ2 := Aside0.mk hq
        have HX2 := Aside0.mk (cntW_in HX.out hmf)
        obtain ⟨ad, A0, c0, hA, hcell, hc0, hC⟩ := at_L5 HR.out.2.2 (i : Int) (by omega) (by omega)
        subst hA
        rw [Int.toNat_natCast] at hcell
        have HC := Aside0.mk hcell
        have HCC := Aside0.mk hC
        clear hq hgi hml hmf hk hcell hC HQ
        go_wp2_with (first
          | (go_at_call 53; refine (screeroom_Count_Ok.calls g x true x w0 _ HI.out HB.out HOk.out).mono ?_; rintro e w2 ⟨rfl, hI2, hB2, hK2⟩; (have hcell2 := (hB2.cell (p := ad.add i) (World.block_lt_of_cell? w0 _ HC.out)).trans HC.out); (have HI2 := Aside0.mk hI2); (have HB2 := Aside0.mk hB2); (have HK2 := Aside0.mk (HK.out.trans hK2 (.inl rfl))); clear hI2 hB2 hK2)
          | (go_at_call 68; refine (screeroom_Count_Writes.calls k g x A0 c0 (rd_L5 G (i : Int)) _ w0 _ HI2.out HB2.out (Kd.C_foot_came heapWr HCC.out HB2.out HI2.out.2) hc0 HW.out).mono ?_; rintro e w3 ⟨rfl, hI3, hB3, hK3⟩; (have HI3 := Aside0.mk hI3); (have HB3 := Aside0.mk hB3); (have HK3 := Aside0.mk (HK2.out.trans hK3 (.inl rfl))); clear hI3 hB3 hK3 hcell2))
        go_roundw
        case rel => exact ⟨i + 1, _, by go_num, by omega, HX2, HQ2, HI3, HB3, HK3⟩
        case measure => simp [intOf]; omega
      · rw [if_neg h0] at hq
        have HOk : Aside0 (screeroom_Count_Ok.f x = some (false, x)) := ⟨by unfold screeroom_Count_Ok.f; rw [decide_eq_false h0]⟩
        have HE : Aside0 (x = r) := ⟨hq⟩
        clear hq hgi hml hmf
        go_wp2_with (first | (go_at_call 53; refine (screeroom_Count_Ok.calls g x false x w0 _ HI.out HB.out HOk.out).mono ?_; rintro e w2 ⟨rfl, hI2, hB2, hK2⟩; (have HI2 := Aside0.mk hI2); (have HB2 := Aside0.mk hB2); (have HK2 := Aside0.mk (HK.out.trans hK2 (.inl rfl))); clear hI2 hB2 hK2))
        go_end0
        exact ⟨rfl, HE.out ▸ HI2.out, HB2.out, HK2.out⟩
    · have HE : Aside0 (x = r) := ⟨by have := HQ.out; rw [List.drop_of_length_le (by omega)] at this; exact this⟩
      go_wp2_with fail
      go_end0
      exact ⟨rfl, HE.out ▸ HI.out, HB.out, HK.out⟩
set_option maxHeartbeats 1000000 in
theorem small_calls {w : World} {A : Option Addr} {n c : Nat} {G : List (List Wr)} (h : Rd kG w A n c G) (hG : G.length ≤ 140737488351232) (hl : ∀ l ∈ G, l.length ≤ 140737488351232) (hf : FitG G) :
    Calls Tryd.prog 22 #[.slice A n c] w fun e w' => e = .returned (.bool (decide (0 ≤ cntG 32768 G))) ∧ Below w.heap.size w w' := by
  have HR := Aside0.mk h
  have HF := Aside0.mk hf
  have HL := Aside0.mk hl
  obtain ⟨r, hr⟩ : ∃ r, cntG 32768 G = r := ⟨_, rfl⟩
  rw [hr]
  have HQ := Aside0.mk hr
  have HOk : Aside0 (screeroom_Count_Ok.f r = some (decide (0 ≤ r), r)) := ⟨rfl⟩
  obtain ⟨b, hb⟩ : ∃ b, decide (0 ≤ r) = b := ⟨_, rfl⟩
  rw [hb] at HOk ⊢
  clear h hf hl hr hb
  go_enter Tryd.func22, Tryd.ntmps22
  go_wp2_with fail
  refine (screeroom_Many.calls 32768 32768 w w (Below.refl _ _) rfl).mono ?_
  rintro e w1 ⟨g, rfl, hI1, hB1, -⟩
  have HI1 := Aside0.mk hI1
  have HB1 := Aside0.mk hB1
  clear hI1 hB1
  go_wp2_with fail
  refine (groups_calls HI1.out HB1.out HR.out ⟨by decide, by decide⟩ hG HL.out HF.out).mono ?_
  rintro e w2 ⟨rfl, hI2, hB2, -⟩
  rw [HQ.out] at hI2
  have HI2 := Aside0.mk hI2
  have HB2 := Aside0.mk hB2
  clear hI2 hB2 HI1 HB1
  go_wp2_with fail
  refine (screeroom_Count_Ok.calls g r b r w w2 HI2.out HB2.out HOk.out).mono ?_
  rintro e w3 ⟨rfl, -, hB3, -⟩
  have HB3 := Aside0.mk hB3
  clear hB3
  go_wp2_with fail
  go_ret
  exact ⟨rfl, HB3.out⟩
end Go.Proofs.YtnamanalacjhnaaDoor.Sm
/- A number, a text that was laid is read again (plain laws; this claim's own lemmas). -/
namespace Go.Proofs.YtnamanalacjhnaaDoor.U
open Go.RowKit Go.Proofs.YtnamanalacjhnaaDoorW.PrintWords Go.Proofs.YtnamanalacjhnaaDoor.Own
set_option linter.unusedVariables false
theorem uintR_numL (n : Nat) : ∀ (i a : Nat) (more : List Int), n * 128 ^ i < 18446744073709551616 → i ≤ 9 → (0 < i → 0 < n) → uintR (numL n ++ more) i a = (a + n * 128 ^ i, i + (numL n).length, 0) := by
  induction n using Nat.strongRecOn with
  | _ n ih =>
    intro i a more hn hi h0
    by_cases h : n < 128
    · rw [numL_small h]
      simp only [List.singleton_append, uintR, List.length_singleton]
      have h9 : ¬ (((n : Int) = 0 ∧ 0 < i) ∨ (i = 9 ∧ (n : Int) ≠ 1)) := by
        rintro (⟨h1, h2⟩ | ⟨rfl, h2⟩)
        · have := h0 h2; omega
        · have := h0 (by omega)
          simp only [Nat.reducePow] at hn
          omega
      rw [if_neg h9, if_pos (by omega), Int.toNat_natCast, Nat.mod_eq_of_lt h]
    · rw [numL_big h]
      simp only [List.cons_append, uintR, List.length_cons]
      have h9 : ¬ ((((n % 128 + 128 : Nat) : Int) = 0 ∧ 0 < i) ∨ (i = 9 ∧ ((n % 128 + 128 : Nat) : Int) ≠ 1)) := by
        rintro (⟨h1, h2⟩ | ⟨rfl, h2⟩)
        · omega
        · simp only [Nat.reducePow] at hn
          omega
      have hi9 : i ≠ 9 := by
        rintro rfl
        simp only [Nat.reducePow] at hn
        omega
      rw [if_neg h9, if_neg (by omega), Int.toNat_natCast, show (n % 128 + 128) % 128 = n % 128 by omega]
      have hp : 128 ^ (i + 1) = 128 * 128 ^ i := by rw [Nat.pow_succ, Nat.mul_comm]
      have hq : n * 128 ^ i = n % 128 * 128 ^ i + n / 128 * 128 ^ (i + 1) := by
        rw [hp, ← Nat.mul_assoc, ← Nat.add_mul]
        congr 1
        omega
      rw [ih (n / 128) (by omega) (i + 1) _ more (by omega) (by omega) (fun _ => by omega), hq]
      simp only [Prod.mk.injEq, and_true]
      omega
theorem uintN_numL (n : Nat) (more : List Int) (hn : n < 18446744073709551616) : uintN (numL n ++ more) = (n, (numL n).length, 0) := by
  unfold uintN
  rw [uintR_numL n 0 0 more (by simpa using hn) (by omega) (by omega)]
  simp
theorem str_bytes (s : ByteArray) : strOfNums (bytesOf s) = s := by
  cases s with
  | mk d =>
    unfold strOfNums bytesOf
    congr 1
    apply Array.ext'
    simp only [List.map_map]
    conv => rhs; rw [← List.map_id d.toList]
    apply List.map_congr_left
    intro b _
    simp
theorem textL_laid (s : ByteArray) (m : Int) (more : List Int) (hs : s.size < 18446744073709551616) (hm : (s.size : Int) ≤ m) : textL ((numL s.size ++ bytesOf s) ++ more) m = (s, (((numL s.size ++ bytesOf s).length : Nat) : Int), 0) := by
  unfold textL
  have hl : (bytesOf s).length = s.size := bytesOf_length s
  rw [List.append_assoc, uintN_numL _ _ hs]
  simp only
  rw [if_neg (by simp), if_neg (by omega), if_neg (by simp only [List.length_append, hl]; omega)]
  rw [← List.append_assoc, List.take_append_of_le_length (by simp only [List.length_append, hl]; omega), List.take_of_length_le (by simp only [List.length_append, hl]; omega), List.drop_left, str_bytes, List.length_append, hl]
end Go.Proofs.YtnamanalacjhnaaDoor.U
/- The record of a group, and that it is read again (plain functions and laws; this claim's own definitions). -/
namespace Go.Proofs.YtnamanalacjhnaaDoor.Pu
open Go.RowKit Go.Proofs.YtnamanalacjhnaaDoorW.PrintWords Go.Proofs.YtnamanalacjhnaaDoor.Own Go.Proofs.YtnamanalacjhnaaDoor.U Go.Proofs.YtnamanalacjhnaaDoor.QBk
open Go.Proofs.YtnamanalacjhnaaDoor.Gt (numS textS delS keyS writeS writesS countS batchS batchesS total finS getL)
open Go.Proofs.YtnamanalacjhnaaDoor.Sm (parts partsG)
set_option linter.unusedVariables false
abbrev Wr := S67
def txL (s : ByteArray) : List Int := numL s.size ++ bytesOf s
def wrL (x : Wr) : List Int := if x.f1 = true then 1 :: txL x.f0 else 0 :: (txL x.f0 ++ txL x.f2)
def batL (l : List Wr) : List Int := numL l.length ++ l.flatMap wrL
def putL (a : Nat) (g : List (List Wr)) : List Int := numL a ++ (numL g.length ++ g.flatMap batL)
/-- A delete's value counts as empty. -/
def clr (x : Wr) : Wr := if x.f1 = true then ⟨x.f0, true, (⟨#[]⟩ : ByteArray)⟩ else x
def OkW (x : Wr) : Prop := 1 ≤ x.f0.size ∧ x.f0.size ≤ 64 ∧ (x.f1 = false → x.f2.size ≤ 512)
def OkB (l : List Wr) : Prop := l.length ≤ 16 ∧ ∀ x ∈ l, OkW x
theorem tx_len (s : ByteArray) : (txL s).length = (numL s.size).length + s.size := by unfold txL; rw [List.length_append, bytesOf_length]
theorem tx_bytes (s : ByteArray) : Bytes (txL s) := fun x hx => by
  rcases List.mem_append.1 hx with h | h
  · exact numL_bytes _ x h
  · simp only [bytesOf, List.mem_map] at h
    obtain ⟨b, _, rfl⟩ := h
    have := b.toNat_lt
    omega
theorem cons_bytes {a : Int} {l : List Int} (h0 : 0 ≤ a ∧ a ≤ 255) (h : Bytes l) : Bytes (a :: l) := fun x hx => by
  rcases List.mem_cons.1 hx with rfl | hx
  · exact h0
  · exact h x hx
theorem app_bytes {l m : List Int} (hl : Bytes l) (hm : Bytes m) : Bytes (l ++ m) := fun x hx => by
  rcases List.mem_append.1 hx with h | h
  · exact hl x h
  · exact hm x h
theorem wr_bytes (x : Wr) : Bytes (wrL x) := by
  unfold wrL
  split
  · exact cons_bytes (by decide) (tx_bytes _)
  · exact cons_bytes (by decide) (app_bytes (tx_bytes _) (tx_bytes _))
theorem flat_bytes {α : Type} {f : α → List Int} (h : ∀ x, Bytes (f x)) (l : List α) : Bytes (l.flatMap f) := fun y hy => by
  obtain ⟨x, _, hx⟩ := List.mem_flatMap.1 hy
  exact h x y hx
theorem bat_bytes (l : List Wr) : Bytes (batL l) := app_bytes (numL_bytes _) (flat_bytes wr_bytes l)
theorem put_bytes (a : Nat) (g : List (List Wr)) : Bytes (putL a g) := app_bytes (numL_bytes _) (app_bytes (numL_bytes _) (flat_bytes bat_bytes g))
theorem wr_len (x : Wr) (h0 : x.f0.size ≤ 32768) (h2 : x.f2.size ≤ 32768) : (wrL x).length ≤ 21 * (1 + x.f0.size + x.f2.size) := by
  have e0 := numL_len10 (n := x.f0.size) (by omega)
  have e2 := numL_len10 (n := x.f2.size) (by omega)
  unfold wrL
  split
  · rw [List.length_cons, tx_len]; omega
  · rw [List.length_cons, List.length_append, tx_len, tx_len]; omega
theorem wrs_len (l : List Wr) : parts l ≤ 32768 → (l.flatMap wrL).length ≤ 21 * parts l := by
  induction l with
  | nil => intro _; simp
  | cons x l ih =>
    intro h
    have hp : parts (x :: l) = 1 + x.f0.size + x.f2.size + parts l := by simp [parts]
    have h1 := wr_len x (by omega) (by omega)
    have h2 := ih (by omega)
    rw [List.flatMap_cons, List.length_append, hp]
    omega
theorem len_parts (l : List Wr) : l.length ≤ parts l := by
  induction l with
  | nil => simp
  | cons x l ih =>
    have hp : parts (x :: l) = 1 + x.f0.size + x.f2.size + parts l := by simp [parts]
    rw [hp, List.length_cons]
    omega
theorem mem_parts {l : List Wr} {x : Wr} (h : x ∈ l) : 1 + x.f0.size + x.f2.size ≤ parts l := by
  induction l with
  | nil => cases h
  | cons y l ih =>
    have hp : parts (y :: l) = 1 + y.f0.size + y.f2.size + parts l := by simp [parts]
    rcases List.mem_cons.1 h with rfl | h
    · omega
    · have := ih h; omega
theorem mem_partsG {g : List (List Wr)} {l : List Wr} (h : l ∈ g) : parts l ≤ (g.map parts).sum := by
  induction g with
  | nil => cases h
  | cons y g ih =>
    rw [List.map_cons, List.sum_cons]
    rcases List.mem_cons.1 h with rfl | h
    · omega
    · have := ih h; omega
theorem bats_len (g : List (List Wr)) : (g.map parts).sum ≤ 32768 → g.length ≤ 32768 → (g.flatMap batL).length ≤ 31 * (g.length + (g.map parts).sum) := by
  induction g with
  | nil => intro _ _; simp
  | cons l g ih =>
    intro h hg
    rw [List.map_cons, List.sum_cons] at h
    have h1 := wrs_len l (by omega)
    have h2 := len_parts l
    have h3 := numL_len10 (n := l.length) (by omega)
    have h4 := ih (by omega) (by simp only [List.length_cons] at hg; omega)
    rw [List.flatMap_cons, List.length_append, List.map_cons, List.sum_cons, List.length_cons]
    unfold batL at h4 ⊢
    rw [List.length_append]
    omega
theorem put_len (a : Nat) (g : List (List Wr)) (ha : a < 18446744073709551616) (h : partsG g ≤ 32768) : (putL a g).length ≤ 2000000 := by
  unfold partsG at h
  have h1 := numL_len10 ha
  have h2 := numL_len10 (n := g.length) (by omega)
  have h3 := bats_len g (by omega) (by omega)
  unfold putL
  simp only [List.length_append]
  omega
/-! ### Read again -/
theorem num_again (n : Nat) (r : List Int) (hn : n < 18446744073709551616) : numS (numL n ++ r, 0) = (n, (r, 0)) := by
  unfold numS
  simp only
  rw [if_neg (by decide), uintN_numL n r hn]
  simp only [List.drop_left]
theorem text_again (s : ByteArray) (m : Int) (r : List Int) (hs : s.size < 1000) (hm : (s.size : Int) ≤ m) : textS m (txL s ++ r, 0) = (s, (r, 0)) := by
  unfold textS txL
  simp only
  rw [if_neg (by decide), textL_laid s m r (by omega) hm]
  simp only [Int.toNat_natCast, List.drop_left]
  rfl
theorem del_again (b : Bool) (r : List Int) : delS ((if b = true then 1 else 0) :: r, 0) = (b, (r, 0)) := by
  unfold delS
  simp only
  rw [if_neg (by decide), if_neg (by simp)]
  cases b
  · have e : rd ((if false = true then (1 : Int) else 0) :: r) 0 = 0 := rfl
    rw [e, if_neg (by decide)]
    rfl
  · have e : rd ((if true = true then (1 : Int) else 0) :: r) 0 = 1 := rfl
    rw [e, if_neg (by decide)]
    rfl
theorem list_ne {s : ByteArray} (h : 1 ≤ s.size) : s.toList ≠ ([] : List UInt8) := fun e => by
  rw [ByteArray.toList_eq] at e
  have h2 : s.data.toList.length = s.size := Array.length_toList
  rw [e, List.length_nil] at h2
  omega
theorem key_again (s : ByteArray) (r : List Int) (h1 : 1 ≤ s.size) (h64 : s.size ≤ 64) : keyS (txL s ++ r, 0) = (s, (r, 0)) := by
  unfold keyS
  simp only
  rw [text_again s 64 r (by omega) (by omega), if_neg (fun h => list_ne h1 h.2)]
theorem write_again (x : Wr) (r : List Int) (h : OkW x) : writeS (wrL x ++ r, 0) = (clr x, (r, 0)) := by
  obtain ⟨h1, h2, h3⟩ := h
  obtain ⟨k, b, v⟩ := x
  simp only at h1 h2 h3
  unfold writeS wrL clr
  simp only
  cases b with
  | true =>
    have hd := del_again true (txL k ++ r)
    simp only [if_true] at hd ⊢
    rw [List.cons_append, hd]
    simp only
    rw [key_again k r h1 h2]
    simp
  | false =>
    have hd := del_again false (txL k ++ (txL v ++ r))
    simp only [Bool.false_eq_true, if_false] at hd ⊢
    rw [List.cons_append, List.append_assoc, hd]
    simp only
    rw [key_again k _ h1 h2]
    simp only
    rw [text_again v 512 r (by have := h3 rfl; omega) (by have := h3 rfl; omega)]
    simp
theorem writes_again (l : List Wr) : ∀ r : List Int, (∀ x ∈ l, OkW x) → writesS l.length (l.flatMap wrL ++ r, 0) = (l.map clr, (r, 0)) := by
  induction l with
  | nil => intro r _; rfl
  | cons x l ih =>
    intro r h
    rw [List.length_cons, writesS]
    simp only
    rw [if_neg (by decide), List.flatMap_cons, List.append_assoc, write_again x _ (h x (by simp))]
    simp only
    rw [ih r (fun y hy => h y (by simp [hy]))]
    rfl
theorem batch_again (l : List Wr) (r : List Int) (h : OkB l) : batchS (batL l ++ r, 0) = (l.map clr, (r, 0)) := by
  unfold batchS countS batL
  simp only
  rw [List.append_assoc, num_again _ _ (by have := h.1; omega)]
  simp only
  rw [if_neg (by have := h.1; omega)]
  exact writes_again l r h.2
theorem batches_again (g : List (List Wr)) : ∀ (f : Nat) (r : List Int), g.length ≤ f → (∀ l ∈ g, OkB l) → batchesS f g.length (g.flatMap batL ++ r, 0) = (g.map (List.map clr), (r, 0)) := by
  induction g with
  | nil =>
    intro f r _ _
    cases f with
    | zero => rfl
    | succ f => rw [batchesS, List.length_nil, if_pos (.inl rfl)]; rfl
  | cons l g ih =>
    intro f r hf h
    obtain ⟨f, rfl⟩ : ∃ m, f = m + 1 := ⟨f - 1, by simp only [List.length_cons] at hf; omega⟩
    rw [List.length_cons, batchesS]
    simp only
    rw [if_neg (by simp), List.flatMap_cons, List.append_assoc, batch_again l _ (h l (by simp))]
    simp only [Nat.add_sub_cancel]
    rw [ih f r (by simp only [List.length_cons] at hf; omega) (fun y hy => h y (by simp [hy]))]
    rfl
theorem total_clr (g : List (List Wr)) : total (g.map (List.map clr)) = total g := by
  unfold total
  rw [List.map_map]
  congr 1
  apply List.map_congr_left
  intro l _
  simp
theorem flat_pos (g : List (List Wr)) : g.length ≤ (g.flatMap batL).length := by
  induction g with
  | nil => simp
  | cons l g ih =>
    rw [List.flatMap_cons, List.length_append, List.length_cons]
    have := numL_pos l.length
    unfold batL at ih ⊢
    rw [List.length_append]
    omega
/-- What Put answers Get takes. -/
theorem get_put (a : Nat) (g : List (List Wr)) (ha : a < 18446744073709551616) (hg : g.length ≤ 32768) (h : ∀ l ∈ g, OkB l) (hn : ¬ (total g > 0 ∧ (a > 72057594037927935 ∨ total g - 1 > 72057594037927935 - a))) : getL (putL a g) = ((a : Int), g.map (List.map clr), 0) := by
  unfold getL putL
  simp only
  rw [num_again a _ ha]
  simp only
  rw [num_again g.length _ (by omega)]
  simp only
  have hb := batches_again g ((numL a ++ (numL g.length ++ g.flatMap batL)).length + 1) [] (by have := flat_pos g; simp only [List.length_append]; omega) h
  rw [List.append_nil] at hb
  rw [hb]
  unfold finS
  simp only
  rw [if_neg (by decide), if_neg (by simp), total_clr, if_neg hn]
end Go.Proofs.YtnamanalacjhnaaDoor.Pu
/- What the printed functions answer of groups (this claim's own lemmas). -/
namespace Go.Proofs.YtnamanalacjhnaaDoor.Pu
open Go.RowKit Go.Proofs.YtnamanalacjhnaaDoorW.PrintWords Go.Proofs.YtnamanalacjhnaaDoor.Own Go.Proofs.YtnamanalacjhnaaDoor.U Go.Proofs.YtnamanalacjhnaaDoor.QBk
open Go.Proofs.YtnamanalacjhnaaDoor.Sm (parts partsG)
set_option linter.unusedVariables false
theorem ww (n : Nat) (h : n < 4294967295) : wrap64 ((n : Int) + 1) = ((n + 1 : Nat) : Int) := by unfold wrap64; omega
theorem rdT (l : List Wr) (i : Nat) (h : i < l.length) : rd_T67 l (i : Int) = l[i] := by simp [rd_T67, List.getD_eq_getElem?_getD, h]
theorem rdG (g : List (List Wr)) (i : Nat) (h : i < g.length) : rd_L5 g (i : Int) = g[i] := by simp [rd_L5, List.getD_eq_getElem?_getD, h]
theorem putUint_eq (n : Nat) (h : n < 18446744073709551616) : codec_PutUint.f ([] : List Int) (n : Int) = some (numL n) := by
  unfold codec_PutUint.f
  rw [if_pos ⟨by omega, by omega, by simp⟩]
  simp
theorem putLen_eq (n : Nat) (h : n < 18446744073709551616) : codec_PutUint.f ([] : List Int) (IntKind.u64.wrap (n : Int)) = some (numL n) := by rw [u64_nat h]; exact putUint_eq n h
theorem putText_eq (s : ByteArray) (h : s.size ≤ 32768) : codec_PutText.f ([] : List Int) s = some (txL s) := by
  unfold codec_PutText.f
  rw [if_pos (by simp; omega)]
  rfl
theorem put_inner (G : List (List Wr)) (n i : Nat) (l : List Wr) (hl : l.length ≤ 32768) (hp : parts l ≤ 32768) (R : List Int) (d : Nat) : ∀ (j : Nat) (acc : List Int), j + d = l.length → (acc ++ (l.drop j).flatMap wrL).length ≤ 1000000000 →
    Ev (fun k => log_Put.l0 k (acc ++ (l.drop j).flatMap wrL) G (n : Int) (wrap64 ((i : Int) + 1))) R → Ev (fun k => log_Put.l1 k acc G (n : Int) (i : Int) l (l.length : Int) (j : Int)) R := by
  induction d with
  | zero =>
    intro j acc hj hb h
    rw [List.drop_of_length_le (by omega), List.flatMap_nil, List.append_nil] at h
    exact Ev.step (fun k => by rw [log_Put.l1, if_neg (by omega)]) h
  | succ d ih =>
    intro j acc hj hb h
    have hlt : j < l.length := by omega
    have hm := mem_parts (List.getElem_mem hlt)
    rw [List.drop_eq_getElem_cons hlt, List.flatMap_cons, ← List.append_assoc] at hb h
    have hx := rdT l j hlt
    have hb' := hb
    rw [List.length_append, List.length_append] at hb'
    refine Ev.step (fun k => ?_) (ih (j + 1) (acc ++ wrL l[j]) (by omega) hb h)
    rw [log_Put.l1, if_pos (show (j : Int) < (l.length : Int) by omega), if_pos (show (0 : Int) ≤ (j : Int) by omega), if_pos (show (j : Int) < (l.length : Int) by omega), hx, ww j (by omega)]
    by_cases hd : l[j].f1 = true
    · have e : wrL l[j] = 1 :: txL l[j].f0 := by unfold wrL; rw [if_pos hd]
      rw [e, List.length_cons] at hb'
      rw [if_pos hd, if_pos (show acc.length < 140737488355328 by omega), Option.bind_some, putText_eq _ (by omega), Option.bind_some, if_pos (by rw [List.length_append]; simp; omega), List.append_assoc, e]
      rfl
    · have e : wrL l[j] = 0 :: (txL l[j].f0 ++ txL l[j].f2) := by unfold wrL; rw [if_neg hd]
      rw [e, List.length_cons, List.length_append] at hb'
      rw [if_neg hd, if_pos (show acc.length < 140737488355328 by omega), Option.bind_some, putText_eq _ (by omega), Option.bind_some, if_pos (by rw [List.length_append]; simp; omega), Option.bind_some, putText_eq _ (by omega), Option.bind_some, if_pos (by rw [List.length_append, List.length_append]; simp; omega), List.append_assoc, List.append_assoc, e]
      rfl
theorem put_outer (G : List (List Wr)) (hG : partsG G ≤ 32768) (d : Nat) : ∀ (i : Nat) (acc : List Int), i + d = G.length → (acc ++ (G.drop i).flatMap batL).length ≤ 1000000000 →
    Ev (fun k => log_Put.l0 k acc G (G.length : Int) (i : Int)) (acc ++ (G.drop i).flatMap batL) := by
  induction d with
  | zero =>
    intro i acc hi hb
    rw [List.drop_of_length_le (by omega), List.flatMap_nil, List.append_nil]
    exact Ev.step (f := fun _ => some acc) (fun k => by rw [log_Put.l0, if_neg (by omega)]) (Ev.now _)
  | succ d ih =>
    intro i acc hi hb
    have hlt : i < G.length := by omega
    unfold partsG at hG
    have hm := mem_partsG (List.getElem_mem hlt)
    have hl := len_parts G[i]
    rw [List.drop_eq_getElem_cons hlt, List.flatMap_cons, ← List.append_assoc] at hb ⊢
    have hx := rdG G i hlt
    have hb' := hb
    rw [List.length_append, List.length_append] at hb'
    unfold batL at hb'
    rw [List.length_append] at hb'
    have hin := put_inner G G.length i G[i] (by omega) (by omega) (acc ++ batL G[i] ++ (G.drop (i + 1)).flatMap batL) G[i].length 0 (acc ++ numL G[i].length) (by omega) (by rw [List.drop_zero]; simp only [List.length_append]; omega) (by
      rw [List.drop_zero, ww i (by omega), List.append_assoc, show numL G[i].length ++ G[i].flatMap wrL = batL G[i] from rfl]
      exact ih (i + 1) (acc ++ batL G[i]) (by omega) hb)
    refine Ev.step (fun k => ?_) hin
    rw [log_Put.l0, if_pos (show (i : Int) < (G.length : Int) by omega), if_pos (show (0 : Int) ≤ (i : Int) by omega), if_pos (show (i : Int) < (G.length : Int) by omega), hx, putLen_eq _ (by omega), Option.bind_some, if_pos (by omega)]
    rfl
theorem put_ev (a : Nat) (G : List (List Wr)) (ha : a < 18446744073709551616) (hG : partsG G ≤ 32768) : Ev (fun k => log_Put.f k (a : Int) G) (putL a G) := by
  have hlen := put_len a G ha hG
  have hgl : G.length ≤ 32768 := by unfold partsG at hG; omega
  unfold putL at hlen ⊢
  have hb := hlen
  simp only [List.length_append] at hb
  have h := put_outer G hG G.length 0 (numL a ++ numL G.length) (by omega) (by rw [List.drop_zero]; simp only [List.length_append]; omega)
  rw [List.drop_zero, List.append_assoc] at h
  refine Ev.congr (fun k => ?_) h
  unfold log_Put.f
  rw [putUint_eq a ha, Option.bind_some, putLen_eq _ (by omega), Option.bind_some, if_pos (by omega)]
  rfl
/-! ### Batches -/
theorem check_eq (s : ByteArray) : ∃ r : Int, ikey_Check.f s = some r ∧ (r = 0 → 1 ≤ s.size ∧ s.size ≤ 64) := by
  unfold ikey_Check.f
  by_cases h : s.toList = ([] : List UInt8)
  · rw [if_pos h]
    exact ⟨10, rfl, fun h => absurd h (by decide)⟩
  · rw [if_neg h]
    have h1 : 1 ≤ s.size := by
      rcases Nat.eq_zero_or_pos s.size with h0 | h0
      · refine absurd ?_ h
        rw [ByteArray.toList_eq]
        exact List.eq_nil_of_length_eq_zero (Array.length_toList.trans h0)
      · exact h0
    by_cases h2 : (s.size : Int) > 64
    · rw [if_pos h2]
      exact ⟨11, rfl, fun h => absurd h (by decide)⟩
    · rw [if_neg h2]
      exact ⟨0, rfl, fun _ => ⟨h1, by omega⟩⟩
theorem batch_loop (l : List Wr) (hl : l.length ≤ 16) (d : Nat) : ∀ i : Nat, i + d = l.length → ∃ r : Int, Ev (fun k => ikey_CheckBatch.l0 k l (l.length : Int) (i : Int)) r ∧ (r = 0 → ∀ x ∈ l.drop i, OkW x) := by
  induction d with
  | zero =>
    intro i hi
    refine ⟨0, Ev.step (f := fun _ => some 0) (fun k => by rw [ikey_CheckBatch.l0, if_neg (by omega)]) (Ev.now _), fun _ x hx => ?_⟩
    rw [List.drop_of_length_le (by omega)] at hx
    cases hx
  | succ d ih =>
    intro i hi
    have hlt : i < l.length := by omega
    have hx := rdT l i hlt
    obtain ⟨c, hc, hc0⟩ := check_eq l[i].f0
    obtain ⟨r, hr, hr0⟩ := ih (i + 1) (by omega)
    have step : ∀ k, ikey_CheckBatch.l0 (k + 1) l (l.length : Int) (i : Int) = if c = 0 then (if l[i].f1 = true then ikey_CheckBatch.l0 k l (l.length : Int) ((i + 1 : Nat) : Int) else if (l[i].f2.size : Int) > 512 then some 12 else ikey_CheckBatch.l0 k l (l.length : Int) ((i + 1 : Nat) : Int)) else some c := fun k => by
      rw [ikey_CheckBatch.l0, if_pos (show (i : Int) < (l.length : Int) by omega), if_pos (show (0 : Int) ≤ (i : Int) by omega), if_pos (show (i : Int) < (l.length : Int) by omega), hx, hc, Option.bind_some, ww i (by omega)]
    by_cases h0 : c = 0
    · by_cases hd : l[i].f1 = true
      · refine ⟨r, Ev.step (fun k => by rw [step, if_pos h0, if_pos hd]) hr, fun h => ?_⟩
        rw [List.drop_eq_getElem_cons hlt]
        intro x hxm
        rcases List.mem_cons.1 hxm with rfl | hxm
        · exact ⟨(hc0 h0).1, (hc0 h0).2, fun hf => by rw [hd] at hf; cases hf⟩
        · exact hr0 h x hxm
      · by_cases hv : (l[i].f2.size : Int) > 512
        · exact ⟨12, Ev.step (f := fun _ => some 12) (fun k => by rw [step, if_pos h0, if_neg hd, if_pos hv]) (Ev.now _), fun h => absurd h (by decide)⟩
        · refine ⟨r, Ev.step (fun k => by rw [step, if_pos h0, if_neg hd, if_neg hv]) hr, fun h => ?_⟩
          rw [List.drop_eq_getElem_cons hlt]
          intro x hxm
          rcases List.mem_cons.1 hxm with rfl | hxm
          · exact ⟨(hc0 h0).1, (hc0 h0).2, fun _ => by omega⟩
          · exact hr0 h x hxm
    · exact ⟨c, Ev.step (f := fun _ => some c) (fun k => by rw [step, if_neg h0]) (Ev.now _), fun h => absurd h h0⟩
theorem batch_ev (l : List Wr) : ∃ r : Int, Ev (fun k => ikey_CheckBatch.f k l) r ∧ (r = 0 → OkB l) := by
  unfold ikey_CheckBatch.f
  by_cases h : (l.length : Int) > 16
  · refine ⟨13, Ev.congr (fun k => by rw [if_pos h]) (Ev.now _), fun h => absurd h (by decide)⟩
  · obtain ⟨r, hr, h0⟩ := batch_loop l (by omega) l.length 0 (by omega)
    refine ⟨r, Ev.congr (fun k => by rw [if_neg h]; rfl) hr, fun he => ⟨by omega, ?_⟩⟩
    have := h0 he
    rwa [List.drop_zero] at this
def wtW (x : Wr) : Nat := 2 * x.f0.size + 448 + (if x.f1 = true then 0 else x.f2.size)
def wtB (l : List Wr) : Nat := (l.map wtW).sum
theorem charge_eq (x : Wr) (h : OkW x) : ikey_charge.f x.f0 x.f1 x.f2 = some (wtW x : Int) := by
  obtain ⟨h1, h2, h3⟩ := h
  unfold ikey_charge.f wtW
  by_cases hd : x.f1 = true
  · rw [if_pos hd, if_pos hd]
    congr 1
    unfold wrap64
    omega
  · rw [if_neg hd, if_neg hd]
    have := h3 (Bool.eq_false_iff.2 hd)
    congr 1
    unfold wrap64
    omega
theorem wt_le (x : Wr) (h : OkW x) : wtW x ≤ 1088 ∧ 450 ≤ wtW x := by
  obtain ⟨h1, h2, h3⟩ := h
  unfold wtW
  split
  · omega
  · rename_i hd
    have := h3 (Bool.eq_false_iff.2 hd)
    omega
theorem weight_ev (l : List Wr) (h : OkB l) (d : Nat) : ∀ (i a : Nat), i + d = l.length → a ≤ 1088 * i → Ev (fun k => ikey_BatchWeight.l0 k (a : Int) l (l.length : Int) (i : Int)) ((a + wtB (l.drop i) : Nat) : Int) := by
  induction d with
  | zero =>
    intro i a hi ha
    rw [List.drop_of_length_le (by omega)]
    exact Ev.step (f := fun _ => some (a : Int)) (fun k => by rw [ikey_BatchWeight.l0, if_neg (by omega)]) (Ev.now _)
  | succ d ih =>
    intro i a hi ha
    have hlt : i < l.length := by omega
    have hx := rdT l i hlt
    have hw := h.2 l[i] (List.getElem_mem hlt)
    have hle := wt_le _ hw
    have h16 := h.1
    have := ih (i + 1) (a + wtW l[i]) (by omega) (by omega)
    rw [List.drop_eq_getElem_cons hlt]
    have e : a + wtB (l[i] :: l.drop (i + 1)) = a + wtW l[i] + wtB (l.drop (i + 1)) := by unfold wtB; rw [List.map_cons, List.sum_cons]; omega
    rw [e]
    refine Ev.step (fun k => ?_) this
    rw [ikey_BatchWeight.l0, if_pos (show (i : Int) < (l.length : Int) by omega), if_pos (show (0 : Int) ≤ (i : Int) by omega), if_pos (show (i : Int) < (l.length : Int) by omega), hx, charge_eq _ hw, Option.bind_some, ww i (by omega), show wrap64 ((a : Int) + (wtW l[i] : Int)) = ((a + wtW l[i] : Nat) : Int) by unfold wrap64; omega]
theorem wtB_le (l : List Wr) (h : OkB l) : wtB l ≤ 1088 * 16 := by
  obtain ⟨h1, h2⟩ := h
  have : ∀ m : List Wr, (∀ x ∈ m, OkW x) → wtB m ≤ 1088 * m.length := by
    intro m
    induction m with
    | nil => intro _; simp [wtB]
    | cons x m ih =>
      intro hm
      have := ih (fun y hy => hm y (by simp [hy]))
      have := (wt_le x (hm x (by simp))).1
      unfold wtB at *
      rw [List.map_cons, List.sum_cons, List.length_cons]
      omega
  have := this l h2
  omega
theorem weigh_ev (l : List Wr) (h : OkB l) : Ev (fun k => ikey_BatchWeight.f k l) (wtB l : Int) := by
  have := weight_ev l h l.length 0 0 (by omega) (by omega)
  rw [List.drop_zero, Nat.zero_add] at this
  exact this
/-! ### The same -/
theorem same_inner (G : List (List Wr)) (i : Nat) (hi : i < G.length) (hG : G.length < 4294967295) (hr : (rd_L5 G (i : Int)).length < 4294967295) (h : Ev (fun k => screelaw7_sameGroups.l0 k G G ((i + 1 : Nat) : Int)) true) (d : Nat) : ∀ j : Nat, j + d = (rd_L5 G (i : Int)).length → Ev (fun k => screelaw7_sameGroups.l1 k G G (i : Int) (j : Int)) true := by
  induction d with
  | zero =>
    intro j hj
    refine Ev.step (fun k => ?_) h
    rw [screelaw7_sameGroups.l1, if_pos (show (0 : Int) ≤ (i : Int) by omega), if_pos (show (i : Int) < (G.length : Int) by omega), if_neg (show ¬ (j : Int) < ((rd_L5 G (i : Int)).length : Int) by omega), ww i (by omega)]
  | succ d ih =>
    intro j hj
    refine Ev.step (fun k => ?_) (ih (j + 1) (by omega))
    rw [screelaw7_sameGroups.l1, if_pos (show (0 : Int) ≤ (i : Int) by omega), if_pos (show (i : Int) < (G.length : Int) by omega), if_pos (show (j : Int) < ((rd_L5 G (i : Int)).length : Int) by omega), if_pos (show (0 : Int) ≤ (j : Int) by omega), if_pos (show (i : Int) < (G.length : Int) by omega), if_pos (show (j : Int) < ((rd_L5 G (i : Int)).length : Int) by omega), if_neg (by simp), ww j (by omega)]
theorem same_outer (G : List (List Wr)) (hG : G.length < 4294967295) (hr : ∀ i : Nat, (rd_L5 G (i : Int)).length < 4294967295) (d : Nat) : ∀ i : Nat, i + d = G.length → Ev (fun k => screelaw7_sameGroups.l0 k G G (i : Int)) true := by
  induction d with
  | zero =>
    intro i hi
    exact Ev.step (f := fun _ => some true) (fun k => by rw [screelaw7_sameGroups.l0, if_neg (show ¬ (i : Int) < (G.length : Int) by omega)]) (Ev.now _)
  | succ d ih =>
    intro i hi
    refine Ev.step (fun k => ?_) (same_inner G i (by omega) hG (hr i) (ih (i + 1) (by omega)) (rd_L5 G (i : Int)).length 0 (by omega))
    rw [screelaw7_sameGroups.l0, if_pos (show (i : Int) < (G.length : Int) by omega), if_pos (show (0 : Int) ≤ (i : Int) by omega), if_pos (show (i : Int) < (G.length : Int) by omega), if_pos rfl]
    rfl
theorem groups_ev (G : List (List Wr)) (hG : G.length < 4294967295) (hr : ∀ r ∈ G, r.length < 4294967295) : Ev (fun k => screelaw7_sameGroups.f k G G) true := by
  have h := same_outer G hG (fun i => by
    unfold rd_L5
    rw [Int.toNat_natCast, List.getD_eq_getElem?_getD]
    cases h : G[i]? with
    | none => simp
    | some r => exact hr r (List.mem_of_getElem? h)) G.length 0 (by omega)
  exact Ev.congr (fun k => by unfold screelaw7_sameGroups.f; rw [if_pos rfl]; rfl) h
end Go.Proofs.YtnamanalacjhnaaDoor.Pu
