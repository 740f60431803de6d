-- Printed by a program of this claim's own out of the translation.
import Derived.Test.YtipefhadafildaaDoorQFramesx0
import Derived.Test.YtipefhadafildaaDoorQFramesx1
import Derived.Test.YtipefhadafildaaDoorQFramesx2
namespace Go.Proofs.YtipefhadafildaaDoor.QFrames
open Go.Proofs.YtipefhadafildaaDoor.Own
open Go.RowKit Go.Proofs.YtipefhadafildaaDoorW.PrintWords Go.Proofs.YtipefhadafildaaDoorW.PrintLast Go.Proofs.YtipefhadafildaaDoorW.PrintMore
attribute [local go_sem] max2_int min2_int max_two min_two max_three min_three max_four min_four   -- for this text's walks alone
set_option linter.unusedVariables false
set_option linter.unusedSimpArgs false

/-! ### screeref2_Uint_p: function 48 -/
mutual
def screeref2_Uint_p.l0 : Nat → List Int → Int → Int → Option (Int × Int × Int)
  | 0, _, _, _ => none
  | k + 1, x0, x5, x6 => if x6 < (x0.length : Int) then (if 0 ≤ x6 then (if x6 > 0 then (if (rd x0 x6) = 0 then (screeref2_Uint_p.j1 k x0 x5 x6 (rd x0 x6) true) else (if x6 = 9 then (screeref2_Uint_p.j1 k x0 x5 x6 (rd x0 x6) ((rd x0 x6) != 1)) else (screeref2_Uint_p.j1 k x0 x5 x6 (rd x0 x6) false))) else (if x6 = 9 then (screeref2_Uint_p.j1 k x0 x5 x6 (rd x0 x6) ((rd x0 x6) != 1)) else (screeref2_Uint_p.j1 k x0 x5 x6 (rd x0 x6) false))) else (none)) else (some (0, 0, 20))
def screeref2_Uint_p.j1 : Nat → List Int → Int → Int → Int → Bool → Option (Int × Int × Int)
  | 0, _, _, _, _, _ => none
  | k + 1, x0, x5, x6, x7, x31 => if x31 = true then (some (0, 0, 21)) else (if 0 ≤ (IntKind.u64.wrap (wrap64 (7 * x6))) then (if x7 < 128 then (some (Go.bits .or .u64 x5 (shl .u64 (IntKind.u64.wrap (Int.tmod x7 128)) (IntKind.u64.wrap (wrap64 (7 * x6)))), wrap64 (x6 + 1), 0)) else (screeref2_Uint_p.l0 k x0 (Go.bits .or .u64 x5 (shl .u64 (IntKind.u64.wrap (Int.tmod x7 128)) (IntKind.u64.wrap (wrap64 (7 * x6))))) (wrap64 (x6 + 1)))) else (none))
end
def screeref2_Uint_p.f (k : Nat) (l0 : List Int) : Option (Int × Int × Int) := screeref2_Uint_p.l0 k l0 0 0
theorem screeref2_Uint_p.mono_l : ∀ k, (∀ y0 y1 y2, LeO (screeref2_Uint_p.l0 k y0 y1 y2) (screeref2_Uint_p.l0 (k + 1) y0 y1 y2)) ∧ (∀ y0 y1 y2 y3 y4, LeO (screeref2_Uint_p.j1 k y0 y1 y2 y3 y4) (screeref2_Uint_p.j1 (k + 1) y0 y1 y2 y3 y4))
  | 0 => ⟨fun _ _ _ r h => by simp [screeref2_Uint_p.l0] at h, fun _ _ _ _ _ r h => by simp [screeref2_Uint_p.j1] at h⟩
  | k + 1 => by
    obtain ⟨ih0, ih1⟩ := screeref2_Uint_p.mono_l k
    refine ⟨?_, ?_⟩
    · intro y0 y1 y2
      unfold screeref2_Uint_p.l0
      repeat' first
      | (with_reducible exact ih0 _ _ _)
      | (with_reducible exact ih1 _ _ _ _ _)
      | (with_reducible exact LeO.refl _)
      | (with_reducible exact LeO.none _)
      | (with_reducible refine LeO.ite ?_ ?_)
      | (with_reducible refine LeO.bind ?_ (fun _ => ?_))
      | exact ih0 _ _ _
      | exact ih1 _ _ _ _ _
      | exact LeO.none _
      | refine LeO.ite ?_ ?_
      | refine LeO.bind ?_ (fun _ => ?_)
    · intro y0 y1 y2 y3 y4
      unfold screeref2_Uint_p.j1
      repeat' first
      | (with_reducible exact ih0 _ _ _)
      | (with_reducible exact ih1 _ _ _ _ _)
      | (with_reducible exact LeO.refl _)
      | (with_reducible exact LeO.none _)
      | (with_reducible refine LeO.ite ?_ ?_)
      | (with_reducible refine LeO.bind ?_ (fun _ => ?_))
      | exact ih0 _ _ _
      | exact ih1 _ _ _ _ _
      | exact LeO.none _
      | refine LeO.ite ?_ ?_
      | refine LeO.bind ?_ (fun _ => ?_)
theorem screeref2_Uint_p.mono : ∀ a0 k, LeO (screeref2_Uint_p.f k a0) (screeref2_Uint_p.f (k + 1) a0) := by
  intro a0 k
  obtain ⟨ih0, ih1⟩ := screeref2_Uint_p.mono_l k
  unfold screeref2_Uint_p.f
  repeat' first
      | (with_reducible exact ih0 _ _ _)
      | (with_reducible exact ih1 _ _ _ _ _)
      | (with_reducible exact LeO.refl _)
      | (with_reducible exact LeO.none _)
      | (with_reducible refine LeO.ite ?_ ?_)
      | (with_reducible refine LeO.bind ?_ (fun _ => ?_))
      | exact ih0 _ _ _
      | exact ih1 _ _ _ _ _
      | exact LeO.none _
      | refine LeO.ite ?_ ?_
      | refine LeO.bind ?_ (fun _ => ?_)
set_option maxHeartbeats 8000000 in
set_option maxRecDepth 100000 in
theorem screeref2_Uint_p.calls (k : Nat) (A0 : Option Addr) (c0 : Nat) (l0 : List Int) (r1 : Int) (r2 : Int) (r3 : Int) (w : World) (hr0 : Kd.C (Kd.int .u8) w A0 l0.length l0) (hc0 : l0.length ≤ c0) (h : screeref2_Uint_p.f k l0 = some (r1, r2, r3)) :
    Calls Tryd.prog 48 #[.slice A0 l0.length c0] w fun e w' => e = .returned (.tuple #[.int .u64 r1, .int .i64 r2, .int .i64 r3]) ∧ Drawn0 w w' := by
  have HR0 := Aside0.mk hr0
  have HC0 := Aside0.mk hc0
  clear hr0 hc0
  have H : (screeref2_Uint_p.l0 k l0 0 0) = some (r1, r2, r3) := h
  clear h
  have H' := Aside0.mk H
  clear H
  go_enter Tryd.func48, Tryd.ntmps48
  go_wp2
  go_loopg [5, 6] k (fun kq v5 v6 w' => ∃ (x5_1 : Int) (x6_1 : Int), v5 = .int .u64 x5_1 ∧ v6 = .int .i64 x6_1 ∧ Aside0 (screeref2_Uint_p.l0 kq l0 x5_1 x6_1 = some (r1, r2, r3)) ∧ Aside0 (kq ≤ k) ∧ Drawn0 w w')
  case atStart => exact ⟨(0), (0), (by first | rfl | (simp; done) | (simp [*]; done)), (by first | rfl | (simp; done) | (simp [*]; done)), H', ⟨Nat.le_refl _⟩, by repeat (first | exact Drawn0.refl _ | apply Drawn0.step)⟩
  case round =>
    clear H'
    obtain ⟨x5_1, x6_1, rfl, rfl, HA, HK1, ⟨m1, rfl⟩⟩ := hrel
    cases gk with
    | zero => exact absurd HA.out (by simp [screeref2_Uint_p.l0])
    | succ k1 =>
      have H := HA.out
      clear HA
      simp only [screeref2_Uint_p.l0] at H
      by_cases c2 : x6_1 < (l0.length : Int)
      · rw [if_pos c2] at H
        have c2b0 : decide (x6_1 < (l0.length : Int)) = true := decide_eq_true c2
        clear c2
        by_cases c3 : 0 ≤ x6_1
        · rw [if_pos c3] at H
          have c3b0 : decide (0 ≤ x6_1) = true := decide_eq_true c3
          clear c3
          have HC4 := Aside0.mk H
          clear H
          have p250 : 0 ≤ (x6_1 : Int) := of_decide_eq_true (by first | (with_reducible assumption) | assumption)
          have q250 : x6_1 < (l0.length : Int) := of_decide_eq_true (by first | (with_reducible assumption) | assumption)
          obtain ⟨ad250, e250, hx250_0⟩ := Kd.at_int HR0.out x6_1 p250 q250
          cases e250
          replace p250 := eq_true p250
          replace q250 := eq_true q250
          go_upto_region 6 with (fail)
          go_cut [31] (fun v31 wc => ∃ (kq : Nat) (x31_3 : Bool), v31 = .bool x31_3 ∧ Aside0 (screeref2_Uint_p.j1 kq l0 x5_1 x6_1 (rd l0 x6_1) x31_3 = some (r1, r2, r3)) ∧ Aside0 (kq ≤ k1) ∧ Drawn0 w wc)
          case first =>
            have H := HC4.out
            clear HC4
            by_cases c5 : x6_1 > 0
            · rw [if_pos c5] at H
              have c5b0 : decide (0 < x6_1) = true := decide_eq_true c5
              clear c5
              (first | rw [c5b0] | (simp only [i64_w, i32_w]; rw [c5b0]) | skip)
              by_cases c6 : (rd l0 x6_1) = 0
              · rw [if_pos c6] at H
                have c6b0 : ((rd l0 x6_1) == 0) = true := beq_iff_eq.mpr c6
                have c6b1 : ((rd l0 x6_1) != 0) = false := bne_eq_false_iff_eq.mpr c6
                clear c6
                have H' := Aside0.mk H
                clear H
                go_wp2
                go_meet
                case rel => exact ⟨_, (true), (by first | rfl | (simp; done) | (simp [*]; done)), H', ⟨by have := HK1.out; first | omega | exact Nat.le_refl _⟩, by repeat (first | exact Drawn0.refl _ | apply Drawn0.step)⟩
              · rw [if_neg c6] at H
                have c6b0 : ((rd l0 x6_1) == 0) = false := beq_eq_false_iff_ne.mpr c6
                have c6b1 : ((rd l0 x6_1) != 0) = true := bne_iff_ne.mpr c6
                by_cases c7 : x6_1 = 9
                · rw [if_pos c7] at H
                  have c7b0 : (x6_1 == 9) = true := beq_iff_eq.mpr c7
                  have c7b1 : (x6_1 != 9) = false := bne_eq_false_iff_eq.mpr c7
                  clear c7
                  have H' := Aside0.mk H
                  clear H
                  go_wp2
                  go_meet
                  case rel => exact ⟨_, (((rd l0 x6_1) != 1)), (by first | rfl | (simp; done) | (simp [*]; done)), H', ⟨by have := HK1.out; first | omega | exact Nat.le_refl _⟩, by repeat (first | exact Drawn0.refl _ | apply Drawn0.step)⟩
                · rw [if_neg c7] at H
                  have c7b0 : (x6_1 == 9) = false := beq_eq_false_iff_ne.mpr c7
                  have c7b1 : (x6_1 != 9) = true := bne_iff_ne.mpr c7
                  have H' := Aside0.mk H
                  clear H
                  go_wp2
                  go_meet
                  case rel => exact ⟨_, (false), (by first | rfl | (simp; done) | (simp [*]; done)), H', ⟨by have := HK1.out; first | omega | exact Nat.le_refl _⟩, by repeat (first | exact Drawn0.refl _ | apply Drawn0.step)⟩
            · rw [if_neg c5] at H
              have c5b0 : decide (0 < x6_1) = false := decide_eq_false c5
              clear c5
              (first | rw [c5b0] | (simp only [i64_w, i32_w]; rw [c5b0]) | skip)
              by_cases c8 : x6_1 = 9
              · rw [if_pos c8] at H
                have c8b0 : (x6_1 == 9) = true := beq_iff_eq.mpr c8
                have c8b1 : (x6_1 != 9) = false := bne_eq_false_iff_eq.mpr c8
                clear c8
                have H' := Aside0.mk H
                clear H
                go_wp2
                go_meet
                case rel => exact ⟨_, (((rd l0 x6_1) != 1)), (by first | rfl | (simp; done) | (simp [*]; done)), H', ⟨by have := HK1.out; first | omega | exact Nat.le_refl _⟩, by repeat (first | exact Drawn0.refl _ | apply Drawn0.step)⟩
              · rw [if_neg c8] at H
                have c8b0 : (x6_1 == 9) = false := beq_eq_false_iff_ne.mpr c8
                have c8b1 : (x6_1 != 9) = true := bne_iff_ne.mpr c8
                have H' := Aside0.mk H
                clear H
                go_wp2
                go_meet
                case rel => exact ⟨_, (false), (by first | rfl | (simp; done) | (simp [*]; done)), H', ⟨by have := HK1.out; first | omega | exact Nat.le_refl _⟩, by repeat (first | exact Drawn0.refl _ | apply Drawn0.step)⟩
          case rest =>
            clear HC4
            try clear c2
            try clear c2b0
            try clear p2
            try clear q2
            try clear hx2
            try clear c3
            try clear c3b0
            try clear c4
            try clear c5
            try clear c5b0
            try clear c6
            try clear c6b0
            try clear c6b1
            try clear c7
            try clear c7b0
            try clear c7b1
            try clear c8
            try clear c8b0
            try clear c8b1
            try clear hx250_0
            try clear p250
            try clear q250
            obtain ⟨kq, x31_3, rfl, HA, HJ3, ⟨mc3, rfl⟩⟩ := hcut
            cases kq with
            | zero => exact absurd HA.out (by simp [screeref2_Uint_p.j1])
            | succ kj3 =>
              have H := HA.out
              clear HA
              simp only [screeref2_Uint_p.j1] at H
              by_cases c9 : x31_3 = true
              · subst c9
                have H1 : (some (0, 0, 21)) = some (r1, r2, r3) := by rw [if_pos rfl] at H; exact H
                clear H
                have H := H1
                clear H1
                simp only [Option.some.injEq, Prod.mk.injEq] at H
                obtain ⟨rfl, rfl, rfl⟩ := H
                go_wp2
                go_ret3
                exact ⟨by first | rfl | (simp; done) | (simp [*]; done), by repeat (first | exact Drawn0.refl _ | apply Drawn0.step)⟩
              · replace c9 := Bool.eq_false_iff.mpr c9
                subst c9
                have H1 : (if 0 ≤ (IntKind.u64.wrap (wrap64 (7 * x6_1))) then (if (rd l0 x6_1) < 128 then (some (Go.bits .or .u64 x5_1 (shl .u64 (IntKind.u64.wrap (Int.tmod (rd l0 x6_1) 128)) (IntKind.u64.wrap (wrap64 (7 * x6_1)))), wrap64 (x6_1 + 1), 0)) else (screeref2_Uint_p.l0 kj3 l0 (Go.bits .or .u64 x5_1 (shl .u64 (IntKind.u64.wrap (Int.tmod (rd l0 x6_1) 128)) (IntKind.u64.wrap (wrap64 (7 * x6_1))))) (wrap64 (x6_1 + 1)))) else (none)) = some (r1, r2, r3) := by rw [if_neg (show ¬ (false = true) by decide)] at H; exact H
                clear H
                have H := H1
                clear H1
                obtain ⟨ji10, hji10⟩ : ∃ j_ : Int, (IntKind.u64.wrap (wrap64 (7 * x6_1))) = j_ := ⟨_, rfl⟩
                replace H : (if 0 ≤ (ji10) then (if (rd l0 x6_1) < 128 then (some (Go.bits .or .u64 x5_1 (shl .u64 (IntKind.u64.wrap (Int.tmod (rd l0 x6_1) 128)) (ji10)), wrap64 (x6_1 + 1), 0)) else (screeref2_Uint_p.l0 kj3 l0 (Go.bits .or .u64 x5_1 (shl .u64 (IntKind.u64.wrap (Int.tmod (rd l0 x6_1) 128)) (ji10))) (wrap64 (x6_1 + 1)))) else (none)) = some (r1, r2, r3) := by first | (rw [hji10] at H; exact H) | (simp only [hji10] at H ⊢; exact H)
                by_cases c11 : 0 ≤ (ji10)
                · rw [if_pos c11] at H
                  have c11b0 := eq_true c11
                  have c11b1 : decide (0 ≤ (ji10)) = true := decide_eq_true c11
                  clear c11
                  obtain ⟨ji12, hji12⟩ : ∃ j_ : Int, (shl .u64 (IntKind.u64.wrap (Int.tmod (rd l0 x6_1) 128)) (ji10)) = j_ := ⟨_, rfl⟩
                  replace H : (if (rd l0 x6_1) < 128 then (some (Go.bits .or .u64 x5_1 (ji12), wrap64 (x6_1 + 1), 0)) else (screeref2_Uint_p.l0 kj3 l0 (Go.bits .or .u64 x5_1 (ji12)) (wrap64 (x6_1 + 1)))) = some (r1, r2, r3) := by first | (rw [hji12] at H; exact H) | (simp only [hji12] at H ⊢; exact H)
                  have hji12_ : (IntKind.u64.wrap ((IntKind.u64.wrap (Int.tmod (rd l0 x6_1) 128)) * 2 ^ min (ji10).toNat 64)) = ji12 := hji12
                  have hji12z : (ji10) ≤ 64 → (IntKind.u64.wrap ((IntKind.u64.wrap (Int.tmod (rd l0 x6_1) 128)) * 2 ^ (ji10).toNat)) = ji12 := shl_small hji12
                  by_cases c13 : (rd l0 x6_1) < 128
                  · rw [if_pos c13] at H
                    have c13b0 : decide ((rd l0 x6_1) < 128) = true := decide_eq_true c13
                    clear c13
                    simp only [Option.some.injEq, Prod.mk.injEq] at H
                    obtain ⟨rfl, rfl, rfl⟩ := H
                    go_wp2
                    go_ret3
                    exact ⟨by first | rfl | (simp; done) | (simp only [← hji10, ← hji12] <;> (first | rfl | simp)) | (simp [*]; done), by repeat (first | exact Drawn0.refl _ | apply Drawn0.step)⟩
                  · rw [if_neg c13] at H
                    have c13b0 : decide ((rd l0 x6_1) < 128) = false := decide_eq_false c13
                    clear c13
                    have H' := Aside0.mk H
                    clear H
                    go_wp2
                    go_roundg kj3
                    case measure => have := HK1.out; have := HJ3.out; omega
                    case rel => exact ⟨(Go.bits .or .u64 x5_1 (ji12)), (wrap64 (x6_1 + 1)), (by first | rfl | (simp; done) | (simp only [← hji12] <;> (first | rfl | simp)) | (simp [*]; done)), (by first | rfl | (simp; done) | (simp [*]; done)), H', ⟨by have := HK1.out; have := HJ3.out; omega⟩, by repeat (first | exact Drawn0.refl _ | apply Drawn0.step)⟩
                · rw [if_neg c11] at H
                  exact absurd H (by simp)
        · rw [if_neg c3] at H
          exact absurd H (by simp)
      · rw [if_neg c2] at H
        have c2b0 : decide (x6_1 < (l0.length : Int)) = false := decide_eq_false c2
        clear c2
        simp only [Option.some.injEq, Prod.mk.injEq] at H
        obtain ⟨rfl, rfl, rfl⟩ := H
        go_wp2
        go_ret3
        exact ⟨by first | rfl | (simp; done) | (simp [*]; done), by repeat (first | exact Drawn0.refl _ | apply Drawn0.step)⟩

/-! ### screeref2_Uint: function 48 -/
theorem screeref2_Uint_ev (l : List Int) (hl : Bytes l) (hm : l.length ≤ 140737488355328) (d : Nat) : ∀ (i a : Nat), i + d = l.length → i ≤ 9 → a < 128 ^ i → Ev (fun k => screeref2_Uint_p.l0 k l (a : Int) (i : Int)) (i3 (uintR (l.drop i) i a)) := by
  induction d with
  | zero =>
    intro i a hi h9 ha
    refine Ev.step (f := fun _ => some (0, 0, 20)) (fun k => ?_) (by rw [List.drop_of_length_le (by omega)]; exact Ev.now _)
    simp only [screeref2_Uint_p.l0]
    rw [if_neg (by omega)]
  | succ d ih =>
    intro i a hi h9 ha
    have hlt : i < l.length := by omega
    have hb := hl _ (List.getElem_mem hlt)
    have hrd : rd l (i : Int) = l[i] := by simp [rd, List.getD_eq_getElem?_getD, hlt]
    rw [List.drop_eq_getElem_cons hlt]
    obtain ⟨c, hc⟩ := Int.eq_ofNat_of_zero_le hb.1
    have hw : IntKind.u64.wrap (wrap64 (7 * (i : Int))) = 7 * (i : Int) := by
      rw [show wrap64 (7 * (i : Int)) = 7 * (i : Int) by unfold wrap64; omega]
      simp [IntKind.wrap, IntKind.bits, IntKind.signed]
      omega
    have hw1 : wrap64 ((i : Int) + 1) = ((i + 1 : Nat) : Int) := by unfold wrap64; omega
    have hand : IntKind.u64.wrap (Int.tmod (c : Int) 128) = ((c % 128 : Nat) : Int) := by
      rw [show Int.tmod (c : Int) 128 = ((c % 128 : Nat) : Int) from rfl]
      simp [IntKind.wrap, IntKind.bits, IntKind.signed]
      omega
    have bad : Ev (fun k => screeref2_Uint_p.j1 k l (a : Int) (i : Int) (rd l (i : Int)) true) (i3 (0, 0, 21)) := Ev.step (f := fun _ => some (0, 0, 21)) (fun k => by simp [screeref2_Uint_p.j1]) (Ev.now _)
    have good : (i ≤ 8 ∨ i = 9 ∧ c = 1) → Ev (fun k => screeref2_Uint_p.j1 k l (a : Int) (i : Int) (rd l (i : Int)) false) (i3 (if (l[i] : Int) < 128 then (a + (l[i] : Int).toNat % 128 * 128 ^ i, i + 1, 0) else uintR (l.drop (i + 1)) (i + 1) (a + (l[i] : Int).toNat % 128 * 128 ^ i))) := by
      intro h8
      rw [hrd, hc, Int.toNat_natCast]
      have hacc := acc_step a (c % 128) i ha (by omega) (by omega)
      by_cases h1 : (c : Int) < 128
      · rw [if_pos h1]
        refine Ev.step (f := fun _ => some (i3 (a + c % 128 * 128 ^ i, i + 1, 0))) (fun k => ?_) (Ev.now _)
        simp only [screeref2_Uint_p.j1]
        rw [if_neg (by decide), hw, if_pos (by omega), if_pos h1, hand, hacc.1, hw1]
        rfl
      · rw [if_neg h1]
        refine Ev.step (f := fun k => screeref2_Uint_p.l0 k l ((a + c % 128 * 128 ^ i : Nat) : Int) ((i + 1 : Nat) : Int)) (fun k => ?_) (ih (i + 1) _ (by omega) (by omega) (acc_lt a (c % 128) i ha (by omega)))
        simp only [screeref2_Uint_p.j1]
        rw [if_neg (by decide), hw, if_pos (by omega), if_neg h1, hand, hacc.1, hw1]
    simp only [uintR]
    by_cases hz : l[i] = 0 ∧ 0 < i ∨ i = 9 ∧ l[i] ≠ 1
    · rw [if_pos hz]
      refine Ev.step (fun k => ?_) bad
      simp only [screeref2_Uint_p.l0]
      rw [if_pos (by omega), if_pos (by omega)]
      by_cases hi0 : (i : Int) > 0
      · rw [if_pos hi0]
        by_cases h0 : l[i] = 0
        · rw [hrd, if_pos h0]
        · rw [hrd, if_neg h0]
          have h9' : i = 9 ∧ l[i] ≠ 1 := by omega
          rw [if_pos (by omega), bne_iff_ne.mpr h9'.2]
      · exact absurd hz (by omega)
    · rw [if_neg hz]
      refine Ev.step (fun k => ?_) (good (by omega))
      simp only [screeref2_Uint_p.l0]
      rw [if_pos (by omega), if_pos (by omega)]
      by_cases hi0 : (i : Int) > 0
      · rw [if_pos hi0, hrd, if_neg (by omega)]
        by_cases h9' : i = 9
        · rw [if_pos (by omega)]
          have h1 : l[i] = 1 := by omega
          rw [h1]
          rfl
        · rw [if_neg (by omega)]
      · rw [if_neg hi0, if_neg (by omega)]
def screeref2_Uint.f (l0 : List Int) : Option (Int × Int × Int) := if okB l0 = true ∧ l0.length ≤ 140737488355328 then some (uintL l0) else none
theorem screeref2_Uint.calls (A0 : Option Addr) (c0 : Nat) (l0 : List Int) (r1 : Int) (r2 : Int) (r3 : Int) (w : World) (hr0 : Kd.C (Kd.int .u8) w A0 l0.length l0) (hc0 : l0.length ≤ c0) (h : screeref2_Uint.f l0 = some (r1, r2, r3)) :
    Calls Tryd.prog 48 #[.slice A0 l0.length c0] w fun e w' => e = .returned (.tuple #[.int .u64 r1, .int .i64 r2, .int .i64 r3]) ∧ Drawn0 w w' := by
  unfold screeref2_Uint.f at h
  split at h
  · rename_i hh
    obtain ⟨k, hk⟩ := (screeref2_Uint_ev l0 (okB_iff.1 hh.1) hh.2 l0.length 0 0 (by omega) (by omega) (by decide)).rounds
    exact screeref2_Uint_p.calls k A0 c0 l0 r1 r2 r3 w hr0 hc0 (by rw [← h]; exact hk)
  · cases h

/-! ### screeref2_Unframe_p: function 43 -/
def screeref2_Unframe_p.l0 : Nat → List Int → Int → Int → List Int → Int → Option (List Int × Int × Int)
  | 0, _, _, _, _, _ => none
  | k + 1, x0, x6, x8, x9, x10 => if x10 < 4 then (if 0 ≤ (wrap64 (x8 + x10)) then (if (wrap64 (x8 + x10)) < (x0.length : Int) then (if 0 ≤ x10 then (if x10 < (x9.length : Int) then (if (rd x0 (wrap64 (x8 + x10))) = (rd x9 x10) then (screeref2_Unframe_p.l0 k x0 x6 x8 x9 (wrap64 (x10 + 1))) else (some (([] : List Int), 0, 23))) else (none)) else (none)) else (none)) else (none)) else (if 0 ≤ x6 then (if x6 ≤ x8 then (if x8 ≤ (x0.length : Int) then (if ([] : List Int).length + ((x0.take (x8 : Int).toNat).drop (x6 : Int).toNat).length < 140737488355328 then (some ((([] : List Int) ++ ((x0.take (x8 : Int).toNat).drop (x6 : Int).toNat)), wrap64 (x8 + 4), 0)) else (none)) else (none)) else (none)) else (none))
def screeref2_Unframe_p.f (k : Nat) (l0 : List Int) : Option (List Int × Int × Int) := (screeref2_Uint.f l0).bind fun bt251 => (if bt251.2.2 = 0 then (if bt251.1 > 262144 then (some (([] : List Int), 0, 22)) else (if (wrap64 ((wrap64 (bt251.2.1 + (wrap64 (bt251.1)))) + 4)) > (l0.length : Int) then (some (([] : List Int), 0, 20)) else (if 0 ≤ (wrap64 (bt251.2.1 + (wrap64 (bt251.1)))) then (if (wrap64 (bt251.2.1 + (wrap64 (bt251.1)))) ≤ (l0.length : Int) then ((screeref2_Sum.f (l0.take ((wrap64 (bt251.2.1 + (wrap64 (bt251.1)))) : Int).toNat)).bind fun t255 => ((screeref2_Four.f t255).bind fun t256 => (screeref2_Unframe_p.l0 k l0 bt251.2.1 (wrap64 (bt251.2.1 + (wrap64 (bt251.1)))) t256 0))) else (none)) else (none)))) else (some (([] : List Int), 0, bt251.2.2)))
theorem screeref2_Unframe_p.mono_l : ∀ k, (∀ y0 y1 y2 y3 y4, LeO (screeref2_Unframe_p.l0 k y0 y1 y2 y3 y4) (screeref2_Unframe_p.l0 (k + 1) y0 y1 y2 y3 y4))
  | 0 => fun _ _ _ _ _ r h => by simp [screeref2_Unframe_p.l0] at h
  | k + 1 => by
    have ih0 := screeref2_Unframe_p.mono_l k
    · intro y0 y1 y2 y3 y4
      unfold screeref2_Unframe_p.l0
      repeat' first
      | (with_reducible exact ih0 _ _ _ _ _)
      | (with_reducible exact LeO.refl _)
      | (with_reducible exact LeO.none _)
      | (with_reducible refine LeO.ite ?_ ?_)
      | (with_reducible refine LeO.bind ?_ (fun _ => ?_))
      | exact ih0 _ _ _ _ _
      | exact LeO.none _
      | refine LeO.ite ?_ ?_
      | refine LeO.bind ?_ (fun _ => ?_)
theorem screeref2_Unframe_p.mono : ∀ a0 k, LeO (screeref2_Unframe_p.f k a0) (screeref2_Unframe_p.f (k + 1) a0) := by
  intro a0 k
  have ih0 := screeref2_Unframe_p.mono_l k
  unfold screeref2_Unframe_p.f
  repeat' first
      | (with_reducible exact ih0 _ _ _ _ _)
      | (with_reducible exact LeO.refl _)
      | (with_reducible exact LeO.none _)
      | (with_reducible refine LeO.ite ?_ ?_)
      | (with_reducible refine LeO.bind ?_ (fun _ => ?_))
      | exact ih0 _ _ _ _ _
      | exact LeO.none _
      | refine LeO.ite ?_ ?_
      | refine LeO.bind ?_ (fun _ => ?_)
set_option maxHeartbeats 8000000 in
set_option maxRecDepth 100000 in
theorem screeref2_Unframe_p.calls (k : Nat) (A0 : Option Addr) (c0 : Nat) (l0 : List Int) (r1 : List Int) (r2 : Int) (r3 : Int) (w : World) (hr0 : Kd.C (Kd.int .u8) w A0 l0.length l0) (hc0 : l0.length ≤ c0) (h : screeref2_Unframe_p.f k l0 = some (r1, r2, r3)) :
    Calls Tryd.prog 43 #[.slice A0 l0.length c0] w fun e w' => ∃ v0_ : Value, e = .returned (.tuple #[v0_, .int .i64 r2, .int .i64 r3]) ∧ Kd.R (Kd.int .u8) 5 w' w.heap.size (fun _ => True) v0_ r1 ∧ Below w.heap.size w w' := by
  have HR0 := Aside0.mk hr0
  have HC0 := Aside0.mk hc0
  clear hr0 hc0
  have HB := Aside0.mk (Below.refl w.heap.size w)
  have H : ((screeref2_Uint.f l0).bind fun bt251 => (if bt251.2.2 = 0 then (if bt251.1 > 262144 then (some (([] : List Int), 0, 22)) else (if (wrap64 ((wrap64 (bt251.2.1 + (wrap64 (bt251.1)))) + 4)) > (l0.length : Int) then (some (([] : List Int), 0, 20)) else (if 0 ≤ (wrap64 (bt251.2.1 + (wrap64 (bt251.1)))) then (if (wrap64 (bt251.2.1 + (wrap64 (bt251.1)))) ≤ (l0.length : Int) then ((screeref2_Sum.f (l0.take ((wrap64 (bt251.2.1 + (wrap64 (bt251.1)))) : Int).toNat)).bind fun t255 => ((screeref2_Four.f t255).bind fun t256 => (screeref2_Unframe_p.l0 k l0 bt251.2.1 (wrap64 (bt251.2.1 + (wrap64 (bt251.1)))) t256 0))) else (none)) else (none)))) else (some (([] : List Int), 0, bt251.2.2)))) = some (r1, r2, r3) := h
  clear h
  replace H := Option.bind_eq_some_iff.mp H
  obtain ⟨⟨t251, t252, t253⟩, A20, H⟩ := H
  replace H : (if t253 = 0 then (if t251 > 262144 then (some (([] : List Int), 0, 22)) else (if (wrap64 ((wrap64 (t252 + (wrap64 (t251)))) + 4)) > (l0.length : Int) then (some (([] : List Int), 0, 20)) else (if 0 ≤ (wrap64 (t252 + (wrap64 (t251)))) then (if (wrap64 (t252 + (wrap64 (t251)))) ≤ (l0.length : Int) then ((screeref2_Sum.f (l0.take ((wrap64 (t252 + (wrap64 (t251)))) : Int).toNat)).bind fun t255 => ((screeref2_Four.f t255).bind fun t256 => (screeref2_Unframe_p.l0 k l0 t252 (wrap64 (t252 + (wrap64 (t251)))) t256 0))) else (none)) else (none)))) else (some (([] : List Int), 0, t253))) = some (r1, r2, r3) := H
  have A2 := Aside0.mk A20
  clear A20
  by_cases c3 : t253 = 0
  · rw [if_pos c3] at H
    have c3b0 : (t253 == 0) = true := beq_iff_eq.mpr c3
    have c3b1 : (t253 != 0) = false := bne_eq_false_iff_eq.mpr c3
    clear c3
    by_cases c4 : t251 > 262144
    · rw [if_pos c4] at H
      have c4b0 : decide (262144 < t251) = true := decide_eq_true c4
      clear c4
      simp only [Option.some.injEq, Prod.mk.injEq] at H
      obtain ⟨rfl, rfl, rfl⟩ := H
      go_enter Tryd.func43, Tryd.ntmps43
      go_wp2_with (first | (go_at_call 48; (with_reducible refine (screeref2_Uint.calls _ _ l0 t251 t252 t253 _ ?side1 ?side2 A2.out).mono ?_); (case side1 => repeat (first | exact HR0.out | (with_reducible refine Kd.C_alloc ?_ _) | (with_reducible refine Kd.C_drewN ?_ _) | (with_reducible refine Kd.C_drew ?_))); (case side2 => exact HC0.out); rintro e w' ⟨rfl, ⟨nd, rfl⟩⟩; (try first | exact ⟨rfl, _, World.drewN_drewN _ _ _⟩ | exact ⟨rfl, _, Eq.trans (World.drewN_drewN _ _ _) (congrArg (World.drewN _) (Nat.add_assoc _ _ _))⟩)))
      repeat (go_quiet (first | (go_at_call 48; (with_reducible refine (screeref2_Uint.calls _ _ l0 t251 t252 t253 _ ?side1 ?side2 A2.out).mono ?_); (case side1 => repeat (first | exact HR0.out | (with_reducible refine Kd.C_alloc ?_ _) | (with_reducible refine Kd.C_drewN ?_ _) | (with_reducible refine Kd.C_drew ?_))); (case side2 => exact HC0.out); rintro e w' ⟨rfl, ⟨nd, rfl⟩⟩; (try first | exact ⟨rfl, _, World.drewN_drewN _ _ _⟩ | exact ⟨rfl, _, Eq.trans (World.drewN_drewN _ _ _) (congrArg (World.drewN _) (Nat.add_assoc _ _ _))⟩))); try go_wp2_with (first | (go_at_call 48; (with_reducible refine (screeref2_Uint.calls _ _ l0 t251 t252 t253 _ ?side1 ?side2 A2.out).mono ?_); (case side1 => repeat (first | exact HR0.out | (with_reducible refine Kd.C_alloc ?_ _) | (with_reducible refine Kd.C_drewN ?_ _) | (with_reducible refine Kd.C_drew ?_))); (case side2 => exact HC0.out); rintro e w' ⟨rfl, ⟨nd, rfl⟩⟩; (try first | exact ⟨rfl, _, World.drewN_drewN _ _ _⟩ | exact ⟨rfl, _, Eq.trans (World.drewN_drewN _ _ _) (congrArg (World.drewN _) (Nat.add_assoc _ _ _))⟩))))
      go_ret3
      exact ⟨_, by first | rfl | (simp [errW_none, errW_some] <;> rfl) | (simp [*, errW_none, errW_some] <;> rfl), by first | exact Kd.R_nil _ _ _ _ _ | exact Kd.N_nil _ _ _ _ _ | exact Kd.V_nil _ _ _ _ _ | exact Kd.Q_nil _ _ _ _ _ | exact Kd.S_nil _ _ _ _ _, by repeat (first | (with_reducible first | exact HB.out | apply below_alloc | apply pw_below_drewN | apply below_drew1) | exact HB.out)⟩
    · rw [if_neg c4] at H
      have c4b0 : decide (262144 < t251) = false := decide_eq_false c4
      clear c4
      by_cases c5 : (wrap64 ((wrap64 (t252 + (wrap64 (t251)))) + 4)) > (l0.length : Int)
      · rw [if_pos c5] at H
        have c5b0 : decide ((l0.length : Int) < (wrap64 ((wrap64 (t252 + (wrap64 (t251)))) + 4))) = true := decide_eq_true c5
        clear c5
        simp only [Option.some.injEq, Prod.mk.injEq] at H
        obtain ⟨rfl, rfl, rfl⟩ := H
        go_enter Tryd.func43, Tryd.ntmps43
        go_wp2_with (first | (go_at_call 48; (with_reducible refine (screeref2_Uint.calls _ _ l0 t251 t252 t253 _ ?side1 ?side2 A2.out).mono ?_); (case side1 => repeat (first | exact HR0.out | (with_reducible refine Kd.C_alloc ?_ _) | (with_reducible refine Kd.C_drewN ?_ _) | (with_reducible refine Kd.C_drew ?_))); (case side2 => exact HC0.out); rintro e w' ⟨rfl, ⟨nd, rfl⟩⟩; (try first | exact ⟨rfl, _, World.drewN_drewN _ _ _⟩ | exact ⟨rfl, _, Eq.trans (World.drewN_drewN _ _ _) (congrArg (World.drewN _) (Nat.add_assoc _ _ _))⟩)))
        repeat (go_quiet (first | (go_at_call 48; (with_reducible refine (screeref2_Uint.calls _ _ l0 t251 t252 t253 _ ?side1 ?side2 A2.out).mono ?_); (case side1 => repeat (first | exact HR0.out | (with_reducible refine Kd.C_alloc ?_ _) | (with_reducible refine Kd.C_drewN ?_ _) | (with_reducible refine Kd.C_drew ?_))); (case side2 => exact HC0.out); rintro e w' ⟨rfl, ⟨nd, rfl⟩⟩; (try first | exact ⟨rfl, _, World.drewN_drewN _ _ _⟩ | exact ⟨rfl, _, Eq.trans (World.drewN_drewN _ _ _) (congrArg (World.drewN _) (Nat.add_assoc _ _ _))⟩))); try go_wp2_with (first | (go_at_call 48; (with_reducible refine (screeref2_Uint.calls _ _ l0 t251 t252 t253 _ ?side1 ?side2 A2.out).mono ?_); (case side1 => repeat (first | exact HR0.out | (with_reducible refine Kd.C_alloc ?_ _) | (with_reducible refine Kd.C_drewN ?_ _) | (with_reducible refine Kd.C_drew ?_))); (case side2 => exact HC0.out); rintro e w' ⟨rfl, ⟨nd, rfl⟩⟩; (try first | exact ⟨rfl, _, World.drewN_drewN _ _ _⟩ | exact ⟨rfl, _, Eq.trans (World.drewN_drewN _ _ _) (congrArg (World.drewN _) (Nat.add_assoc _ _ _))⟩))))
        go_ret3
        exact ⟨_, by first | rfl | (simp [errW_none, errW_some] <;> rfl) | (simp [*, errW_none, errW_some] <;> rfl), by first | exact Kd.R_nil _ _ _ _ _ | exact Kd.N_nil _ _ _ _ _ | exact Kd.V_nil _ _ _ _ _ | exact Kd.Q_nil _ _ _ _ _ | exact Kd.S_nil _ _ _ _ _, by repeat (first | (with_reducible first | exact HB.out | apply below_alloc | apply pw_below_drewN | apply below_drew1) | exact HB.out)⟩
      · rw [if_neg c5] at H
        have c5b0 : decide ((l0.length : Int) < (wrap64 ((wrap64 (t252 + (wrap64 (t251)))) + 4))) = false := decide_eq_false c5
        clear c5
        obtain ⟨ji6, hji6⟩ : ∃ j_ : Int, (wrap64 (t252 + (wrap64 (t251)))) = j_ := ⟨_, rfl⟩
        replace H : (if 0 ≤ (ji6) then (if (ji6) ≤ (l0.length : Int) then ((screeref2_Sum.f (l0.take ((ji6) : Int).toNat)).bind fun t255 => ((screeref2_Four.f t255).bind fun t256 => (screeref2_Unframe_p.l0 k l0 t252 ji6 t256 0))) else (none)) else (none)) = some (r1, r2, r3) := by first | (rw [hji6] at H; exact H) | (simp only [hji6] at H ⊢; exact H)
        (try rw [hji6] at c5b0)
        (try rw [hji6] at A2)
        have hji6w : (IntKind.i64.wrap (t252 + (wrap64 (t251)))) = ji6 := (i64_w _).trans hji6
        by_cases c7 : 0 ≤ (ji6)
        · rw [if_pos c7] at H
          have c7b0 := eq_true c7
          have c7b1 : decide (0 ≤ (ji6)) = true := decide_eq_true c7
          clear c7
          by_cases c8 : (ji6) ≤ (l0.length : Int)
          · rw [if_pos c8] at H
            have c8b0 := eq_true c8
            have c8b1 : decide ((ji6) ≤ (l0.length : Int)) = true := decide_eq_true c8
            clear c8
            replace H := Option.bind_eq_some_iff.mp H
            obtain ⟨t255, A90, H⟩ := H
            replace H : ((screeref2_Four.f t255).bind fun t256 => (screeref2_Unframe_p.l0 k l0 t252 ji6 t256 0)) = some (r1, r2, r3) := H
            have A9 := Aside0.mk A90
            clear A90
            replace H := Option.bind_eq_some_iff.mp H
            obtain ⟨t256, A100, H⟩ := H
            replace H : (screeref2_Unframe_p.l0 k l0 t252 ji6 t256 0) = some (r1, r2, r3) := H
            have A10 := Aside0.mk A100
            clear A100
            have H' := Aside0.mk H
            clear H
            go_enter Tryd.func43, Tryd.ntmps43
            go_wp2_with (first | (go_at_call 48; (with_reducible refine (screeref2_Uint.calls _ _ l0 t251 t252 t253 _ ?side1 ?side2 A2.out).mono ?_); (case side1 => repeat (first | exact HR0.out | (with_reducible refine Kd.C_alloc ?_ _) | (with_reducible refine Kd.C_drewN ?_ _) | (with_reducible refine Kd.C_drew ?_))); (case side2 => exact HC0.out); rintro e w' ⟨rfl, ⟨nd, rfl⟩⟩; (try first | exact ⟨rfl, _, World.drewN_drewN _ _ _⟩ | exact ⟨rfl, _, Eq.trans (World.drewN_drewN _ _ _) (congrArg (World.drewN _) (Nat.add_assoc _ _ _))⟩); obtain ⟨i011, hi011, _, hsz11, _⟩ := info_parts info5; obtain ⟨hcut11, hA11, hC11⟩ := print_take_of (P := Tryd.prog) (Value.int .u8) 0 22 5 .i64 Tryd.underlying22 hi011 hsz11 A0 c0 l0 (ji6) (of_decide_eq_true (by first | (with_reducible assumption) | assumption)) (of_decide_eq_true (by first | (with_reducible assumption) | assumption)) HC0.out; have HR254 := Aside0.mk (Kd.C_of_reads (h1 := fun _ => rfl) (hA11 _ (Kd.reads_of_C HR0.out))); have HC254 := Aside0.mk hC11; clear hA11 hC11 hi011 hsz11) | (go_at_call 10; (have hl_ : (l0.take ((ji6) : Int).toNat).length = ((ji6) : Int).toNat := (by rw [List.length_take]; (have h_ : (ji6 : Int) ≤ (l0.length : Int) := of_decide_eq_true (by first | (with_reducible assumption) | assumption)); omega)); rw [← hl_]; clear hl_; (with_reducible refine (screeref2_Sum.calls _ _ (l0.take ((ji6) : Int).toNat) t255 _ ?side1 ?side2 A9.out).mono ?_); (case side1 => repeat (first | exact HR254.out | (with_reducible refine Kd.C_alloc ?_ _) | (with_reducible refine Kd.C_drewN ?_ _) | (with_reducible refine Kd.C_drew ?_))); (case side2 => exact HC254.out); rintro e w' ⟨rfl, ⟨nd, rfl⟩⟩; (try first | exact ⟨rfl, _, World.drewN_drewN _ _ _⟩ | exact ⟨rfl, _, Eq.trans (World.drewN_drewN _ _ _) (congrArg (World.drewN _) (Nat.add_assoc _ _ _))⟩)) | (go_at_call 42; (with_reducible refine (screeref2_Four.calls t255 t256 _ A10.out).mono ?_); rintro e w12 ⟨v257, rfl, ho0, hb⟩; have n0_ := Aside0.mk (Kd.R_lower ho0 (below_size (by repeat (first | (with_reducible first | exact HB.out | apply below_alloc | apply pw_below_drewN | apply below_drew1) | exact HB.out)))); have n1_ := Aside0.mk (below_step (by repeat (first | (with_reducible first | exact HB.out | apply below_alloc | apply pw_below_drewN | apply below_drew1) | exact HB.out)) hb); clear HB; have HO258 := n0_; have HB := n1_; clear n0_ n1_; (try clear hb); (try clear hb2); (try clear hk); (try clear hi); (try clear ho0)))
            repeat (go_quiet (first | (go_at_call 48; (with_reducible refine (screeref2_Uint.calls _ _ l0 t251 t252 t253 _ ?side1 ?side2 A2.out).mono ?_); (case side1 => repeat (first | exact HR0.out | (with_reducible refine Kd.C_alloc ?_ _) | (with_reducible refine Kd.C_drewN ?_ _) | (with_reducible refine Kd.C_drew ?_))); (case side2 => exact HC0.out); rintro e w' ⟨rfl, ⟨nd, rfl⟩⟩; (try first | exact ⟨rfl, _, World.drewN_drewN _ _ _⟩ | exact ⟨rfl, _, Eq.trans (World.drewN_drewN _ _ _) (congrArg (World.drewN _) (Nat.add_assoc _ _ _))⟩); obtain ⟨i011, hi011, _, hsz11, _⟩ := info_parts info5; obtain ⟨hcut11, hA11, hC11⟩ := print_take_of (P := Tryd.prog) (Value.int .u8) 0 22 5 .i64 Tryd.underlying22 hi011 hsz11 A0 c0 l0 (ji6) (of_decide_eq_true (by first | (with_reducible assumption) | assumption)) (of_decide_eq_true (by first | (with_reducible assumption) | assumption)) HC0.out; have HR254 := Aside0.mk (Kd.C_of_reads (h1 := fun _ => rfl) (hA11 _ (Kd.reads_of_C HR0.out))); have HC254 := Aside0.mk hC11; clear hA11 hC11 hi011 hsz11) | (go_at_call 10; (have hl_ : (l0.take ((ji6) : Int).toNat).length = ((ji6) : Int).toNat := (by rw [List.length_take]; (have h_ : (ji6 : Int) ≤ (l0.length : Int) := of_decide_eq_true (by first | (with_reducible assumption) | assumption)); omega)); rw [← hl_]; clear hl_; (with_reducible refine (screeref2_Sum.calls _ _ (l0.take ((ji6) : Int).toNat) t255 _ ?side1 ?side2 A9.out).mono ?_); (case side1 => repeat (first | exact HR254.out | (with_reducible refine Kd.C_alloc ?_ _) | (with_reducible refine Kd.C_drewN ?_ _) | (with_reducible refine Kd.C_drew ?_))); (case side2 => exact HC254.out); rintro e w' ⟨rfl, ⟨nd, rfl⟩⟩; (try first | exact ⟨rfl, _, World.drewN_drewN _ _ _⟩ | exact ⟨rfl, _, Eq.trans (World.drewN_drewN _ _ _) (congrArg (World.drewN _) (Nat.add_assoc _ _ _))⟩)) | (go_at_call 42; (with_reducible refine (screeref2_Four.calls t255 t256 _ A10.out).mono ?_); rintro e w12 ⟨v257, rfl, ho0, hb⟩; have n0_ := Aside0.mk (Kd.R_lower ho0 (below_size (by repeat (first | (with_reducible first | exact HB.out | apply below_alloc | apply pw_below_drewN | apply below_drew1) | exact HB.out)))); have n1_ := Aside0.mk (below_step (by repeat (first | (with_reducible first | exact HB.out | apply below_alloc | apply pw_below_drewN | apply below_drew1) | exact HB.out)) hb); clear HB; have HO258 := n0_; have HB := n1_; clear n0_ n1_; (try clear hb); (try clear hb2); (try clear hk); (try clear hi); (try clear ho0))); try go_wp2_with (first | (go_at_call 48; (with_reducible refine (screeref2_Uint.calls _ _ l0 t251 t252 t253 _ ?side1 ?side2 A2.out).mono ?_); (case side1 => repeat (first | exact HR0.out | (with_reducible refine Kd.C_alloc ?_ _) | (with_reducible refine Kd.C_drewN ?_ _) | (with_reducible refine Kd.C_drew ?_))); (case side2 => exact HC0.out); rintro e w' ⟨rfl, ⟨nd, rfl⟩⟩; (try first | exact ⟨rfl, _, World.drewN_drewN _ _ _⟩ | exact ⟨rfl, _, Eq.trans (World.drewN_drewN _ _ _) (congrArg (World.drewN _) (Nat.add_assoc _ _ _))⟩); obtain ⟨i011, hi011, _, hsz11, _⟩ := info_parts info5; obtain ⟨hcut11, hA11, hC11⟩ := print_take_of (P := Tryd.prog) (Value.int .u8) 0 22 5 .i64 Tryd.underlying22 hi011 hsz11 A0 c0 l0 (ji6) (of_decide_eq_true (by first | (with_reducible assumption) | assumption)) (of_decide_eq_true (by first | (with_reducible assumption) | assumption)) HC0.out; have HR254 := Aside0.mk (Kd.C_of_reads (h1 := fun _ => rfl) (hA11 _ (Kd.reads_of_C HR0.out))); have HC254 := Aside0.mk hC11; clear hA11 hC11 hi011 hsz11) | (go_at_call 10; (have hl_ : (l0.take ((ji6) : Int).toNat).length = ((ji6) : Int).toNat := (by rw [List.length_take]; (have h_ : (ji6 : Int) ≤ (l0.length : Int) := of_decide_eq_true (by first | (with_reducible assumption) | assumption)); omega)); rw [← hl_]; clear hl_; (with_reducible refine (screeref2_Sum.calls _ _ (l0.take ((ji6) : Int).toNat) t255 _ ?side1 ?side2 A9.out).mono ?_); (case side1 => repeat (first | exact HR254.out | (with_reducible refine Kd.C_alloc ?_ _) | (with_reducible refine Kd.C_drewN ?_ _) | (with_reducible refine Kd.C_drew ?_))); (case side2 => exact HC254.out); rintro e w' ⟨rfl, ⟨nd, rfl⟩⟩; (try first | exact ⟨rfl, _, World.drewN_drewN _ _ _⟩ | exact ⟨rfl, _, Eq.trans (World.drewN_drewN _ _ _) (congrArg (World.drewN _) (Nat.add_assoc _ _ _))⟩)) | (go_at_call 42; (with_reducible refine (screeref2_Four.calls t255 t256 _ A10.out).mono ?_); rintro e w12 ⟨v257, rfl, ho0, hb⟩; have n0_ := Aside0.mk (Kd.R_lower ho0 (below_size (by repeat (first | (with_reducible first | exact HB.out | apply below_alloc | apply pw_below_drewN | apply below_drew1) | exact HB.out)))); have n1_ := Aside0.mk (below_step (by repeat (first | (with_reducible first | exact HB.out | apply below_alloc | apply pw_below_drewN | apply below_drew1) | exact HB.out)) hb); clear HB; have HO258 := n0_; have HB := n1_; clear n0_ n1_; (try clear hb); (try clear hb2); (try clear hk); (try clear hi); (try clear ho0))))
            go_loopg [10] k (fun kq v10 w' => ∃ (x10_1 : Int), v10 = .int .i64 x10_1 ∧ Aside0 (screeref2_Unframe_p.l0 kq l0 t252 ji6 t256 x10_1 = some (r1, r2, r3)) ∧ Aside0 (kq ≤ k) ∧ Aside0 (Kd.R (Kd.int .u8) 5 w' w.heap.size (fun _ => True) v257 t256) ∧ Aside0 (Below w.heap.size w w'))
            case atStart => exact ⟨(0), (by first | rfl | (simp; done) | (simp [*]; done)), H', ⟨Nat.le_refl _⟩, ⟨by (with_reducible repeat (first | apply Kd.R_alloc | apply Kd.R_drewN | apply Kd.R_drew)); exact HO258.out⟩, ⟨by repeat (first | (with_reducible first | exact HB.out | apply below_alloc | apply pw_below_drewN | apply below_drew1) | exact HB.out)⟩⟩
            case round =>
              clear H'
              try clear p2
              try clear c3
              try clear c3b0
              try clear c3b1
              try clear c4
              try clear c4b0
              try clear c5
              try clear c5b0
              try clear p6
              try clear c7
              try clear c7b0
              try clear c7b1
              try clear c8
              try clear c8b0
              try clear c8b1
              obtain ⟨x10_1, rfl, HA, HK1, HO_9, HB⟩ := hrel
              cases gk with
              | zero => exact absurd HA.out (by simp [screeref2_Unframe_p.l0])
              | succ k1 =>
                have H := HA.out
                clear HA
                simp only [screeref2_Unframe_p.l0] at H
                by_cases c13 : x10_1 < 4
                · rw [if_pos c13] at H
                  have c13b0 : decide (x10_1 < 4) = true := decide_eq_true c13
                  clear c13
                  obtain ⟨ji14, hji14⟩ : ∃ j_ : Int, (wrap64 (ji6 + x10_1)) = j_ := ⟨_, rfl⟩
                  replace H : (if 0 ≤ (ji14) then (if (ji14) < (l0.length : Int) then (if 0 ≤ x10_1 then (if x10_1 < (t256.length : Int) then (if (rd l0 (ji14)) = (rd t256 x10_1) then (screeref2_Unframe_p.l0 k1 l0 t252 ji6 t256 (wrap64 (x10_1 + 1))) else (some (([] : List Int), 0, 23))) else (none)) else (none)) else (none)) else (none)) = some (r1, r2, r3) := by first | (rw [hji14] at H; exact H) | (simp only [hji14] at H ⊢; exact H)
                  have hji14w : (IntKind.i64.wrap (ji6 + x10_1)) = ji14 := (i64_w _).trans hji14
                  by_cases c15 : 0 ≤ (ji14)
                  · rw [if_pos c15] at H
                    have c15b0 : decide (0 ≤ (ji14)) = true := decide_eq_true c15
                    clear c15
                    by_cases c16 : (ji14) < (l0.length : Int)
                    · rw [if_pos c16] at H
                      have c16b0 : decide ((ji14) < (l0.length : Int)) = true := decide_eq_true c16
                      clear c16
                      by_cases c17 : 0 ≤ x10_1
                      · rw [if_pos c17] at H
                        have c17b0 : decide (0 ≤ x10_1) = true := decide_eq_true c17
                        clear c17
                        by_cases c18 : x10_1 < (t256.length : Int)
                        · rw [if_pos c18] at H
                          have c18b0 : decide (x10_1 < (t256.length : Int)) = true := decide_eq_true c18
                          clear c18
                          by_cases c19 : (rd l0 (ji14)) = (rd t256 x10_1)
                          · rw [if_pos c19] at H
                            have c19b0 : ((rd l0 (ji14)) == (rd t256 x10_1)) = true := beq_iff_eq.mpr c19
                            have c19b1 : ((rd l0 (ji14)) != (rd t256 x10_1)) = false := bne_eq_false_iff_eq.mpr c19
                            clear c19
                            have H' := Aside0.mk H
                            clear H
                            have p259 : 0 ≤ ((ji14) : Int) := of_decide_eq_true (by first | (with_reducible assumption) | assumption)
                            have q259 : (ji14) < (l0.length : Int) := of_decide_eq_true (by first | (with_reducible assumption) | assumption)
                            obtain ⟨ad259, e259, hx259_0⟩ := Kd.at_int HR0.out (ji14) p259 q259
                            cases e259
                            replace hx259_0 := (HB.out.cell (World.block_lt_of_cell? w _ hx259_0)).trans hx259_0
                            replace p259 := eq_true p259
                            replace q259 := eq_true q259
                            obtain ⟨Ao20, co20, eo20⟩ := Kd.R_slice HO_9.out
                            subst eo20
                            have p260 : 0 ≤ (x10_1 : Int) := of_decide_eq_true (by first | (with_reducible assumption) | assumption)
                            have q260 : x10_1 < (t256.length : Int) := of_decide_eq_true (by first | (with_reducible assumption) | assumption)
                            obtain ⟨ad260, e260, hx260_0⟩ := Kd.at_int (Kd.R_reads' HO_9.out).2.2 x10_1 p260 q260
                            cases e260
                            replace p260 := eq_true p260
                            replace q260 := eq_true q260
                            go_wp2
                            repeat (go_quiet (fail); try go_wp2)
                            go_roundg k1
                            case measure => have := HK1.out; omega
                            case rel => exact ⟨(wrap64 (x10_1 + 1)), (by first | rfl | (simp; done) | (simp [*]; done)), H', ⟨by have := HK1.out; omega⟩, ⟨by (with_reducible repeat (first | apply Kd.R_alloc | apply Kd.R_drewN | apply Kd.R_drew)); exact HO_9.out⟩, ⟨by repeat (first | (with_reducible first | exact HB.out | apply below_alloc | apply pw_below_drewN | apply below_drew1) | exact HB.out)⟩⟩
                          · rw [if_neg c19] at H
                            have c19b0 : ((rd l0 (ji14)) == (rd t256 x10_1)) = false := beq_eq_false_iff_ne.mpr c19
                            have c19b1 : ((rd l0 (ji14)) != (rd t256 x10_1)) = true := bne_iff_ne.mpr c19
                            simp only [Option.some.injEq, Prod.mk.injEq] at H
                            obtain ⟨rfl, rfl, rfl⟩ := H
                            have p259 : 0 ≤ ((ji14) : Int) := of_decide_eq_true (by first | (with_reducible assumption) | assumption)
                            have q259 : (ji14) < (l0.length : Int) := of_decide_eq_true (by first | (with_reducible assumption) | assumption)
                            obtain ⟨ad259, e259, hx259_0⟩ := Kd.at_int HR0.out (ji14) p259 q259
                            cases e259
                            replace hx259_0 := (HB.out.cell (World.block_lt_of_cell? w _ hx259_0)).trans hx259_0
                            replace p259 := eq_true p259
                            replace q259 := eq_true q259
                            obtain ⟨Ao21, co21, eo21⟩ := Kd.R_slice HO_9.out
                            subst eo21
                            have p260 : 0 ≤ (x10_1 : Int) := of_decide_eq_true (by first | (with_reducible assumption) | assumption)
                            have q260 : x10_1 < (t256.length : Int) := of_decide_eq_true (by first | (with_reducible assumption) | assumption)
                            obtain ⟨ad260, e260, hx260_0⟩ := Kd.at_int (Kd.R_reads' HO_9.out).2.2 x10_1 p260 q260
                            cases e260
                            replace p260 := eq_true p260
                            replace q260 := eq_true q260
                            go_wp2
                            repeat (go_quiet (fail); try go_wp2)
                            go_ret3
                            exact ⟨_, by first | rfl | (simp [errW_none, errW_some] <;> rfl) | (simp only [← hji6, ← hji14]; first | rfl | (simp [errW_none, errW_some] <;> rfl)) | (simp [*, errW_none, errW_some] <;> rfl), by first | exact Kd.R_nil _ _ _ _ _ | exact Kd.N_nil _ _ _ _ _ | exact Kd.V_nil _ _ _ _ _ | exact Kd.Q_nil _ _ _ _ _ | exact Kd.S_nil _ _ _ _ _, by repeat (first | (with_reducible first | exact HB.out | apply below_alloc | apply pw_below_drewN | apply below_drew1) | exact HB.out)⟩
                        · rw [if_neg c18] at H
                          exact absurd H (by simp)
                      · rw [if_neg c17] at H
                        exact absurd H (by simp)
                    · rw [if_neg c16] at H
                      exact absurd H (by simp)
                  · rw [if_neg c15] at H
                    exact absurd H (by simp)
                · rw [if_neg c13] at H
                  have c13b0 : decide (x10_1 < 4) = false := decide_eq_false c13
                  clear c13
                  by_cases c22 : 0 ≤ t252
                  · rw [if_pos c22] at H
                    have c22b0 := eq_true c22
                    have c22b1 : decide (0 ≤ t252) = true := decide_eq_true c22
                    clear c22
                    by_cases c23 : t252 ≤ ji6
                    · rw [if_pos c23] at H
                      have c23b0 := eq_true c23
                      have c23b1 : decide (t252 ≤ ji6) = true := decide_eq_true c23
                      clear c23
                      by_cases c24 : ji6 ≤ (l0.length : Int)
                      · rw [if_pos c24] at H
                        have c24b0 := eq_true c24
                        have c24b1 : decide (ji6 ≤ (l0.length : Int)) = true := decide_eq_true c24
                        clear c24
                        by_cases c25 : ([] : List Int).length + ((l0.take (ji6 : Int).toNat).drop (t252 : Int).toNat).length < 140737488355328
                        · rw [if_pos c25] at H
                          have LMc25 := Aside0.mk c25
                          clear c25
                          obtain ⟨y262, hy262⟩ : ∃ y_ : List Int, y_ = (([] : List Int) ++ ((l0.take (ji6 : Int).toNat).drop (t252 : Int).toNat)) := ⟨_, rfl⟩
                          replace H : (some (y262, wrap64 (ji6 + 4), 0)) = some (r1, r2, r3) := by first | (rw [hy262]; with_reducible exact H) | (have H2_ := (Option.bind_some _ _).symm.trans H; rw [hy262]; with_reducible exact H2_) | (have H2_ := (Option.bind_some _ _).symm.trans H; with_reducible exact H2_) | with_reducible exact H | (rw [hy262]; exact H) | exact H
                          have Ny262 := Aside0.mk hy262
                          clear hy262
                          simp only [Option.some.injEq, Prod.mk.injEq] at H
                          obtain ⟨rfl, rfl, rfl⟩ := H
                          obtain ⟨i026, hi026, _, hsz26, _⟩ := info_parts info5
                          obtain ⟨A26, hcut26, hA26, hC26⟩ := print_mid_of (P := Tryd.prog) (Value.int .u8) 0 22 5 .i64 .i64 Tryd.underlying22 hi026 hsz26 A0 c0 l0 t252 ji6 (of_decide_eq_true (by first | (with_reducible assumption) | assumption)) (by first | omega | exact of_decide_eq_true (by first | (with_reducible assumption) | assumption)) (of_decide_eq_true (by first | (with_reducible assumption) | assumption)) HC0.out
                          have HR261 := Aside0.mk (Kd.C_of_reads (h1 := fun _ => rfl) (hA26 _ (Kd.reads_of_C HR0.out)))
                          have HC261 := Aside0.mk hC26
                          clear hA26 hC26 hi026 hsz26
                          go_wp2_with (first | ((with_reducible refine gate_builtin (b := .append) (xs := #[.const (.slice none 0 0), .tmp 54]) rfl ?_); at_builtin; refine Kd.R_append_rows (Kd.int .u8) (w0 := w) w.heap.size rfl (.const (.slice none 0 0)) (.tmp 54) 22 5 (.int .u8 0) 1 rfl Tryd.underlying22 info5 rfl (by decide) (by omega) (.slice none 0 0) ([] : List Int) ((l0.take (ji6 : Int).toNat).drop (t252 : Int).toNat) _ _ _ (fun k_ => some k_ ≠ (v257 : Value).ownBlock) (fun _ => False) rfl rfl ?aO ?aR (fun _ _ h => h) (fun _ h => h.elim) ?aF ?aB ?aS ?aL ?_; (case aR => first | (rw [← show ((l0.take (ji6 : Int).toNat).drop (t252 : Int).toNat).length = (ji6.toNat - t252.toNat) from (by rw [List.length_drop, List.length_take]; have h_ : (ji6 : Int) ≤ (l0.length : Int) := of_decide_eq_true (by first | (with_reducible assumption) | assumption); omega)]; repeat (first | exact (Kd.C_below HR261.out HB.out) | (with_reducible refine Kd.C_alloc ?_ _) | (with_reducible refine Kd.C_drewN ?_ _) | (with_reducible refine Kd.C_drew ?_))) | (repeat (first | exact (Kd.C_below HR261.out HB.out) | (with_reducible refine Kd.C_alloc ?_ _) | (with_reducible refine Kd.C_drewN ?_ _) | (with_reducible refine Kd.C_drew ?_)))); (case aB => exact (by repeat (first | (with_reducible first | exact HB.out | apply below_alloc | apply pw_below_drewN | apply below_drew1) | exact HB.out))); (case aF => exact (fun k_ hk => Kd.fresh' (Kd.R_lt (by (with_reducible repeat (first | apply Kd.R_alloc | apply Kd.R_drewN | apply Kd.R_drew)); exact HO_9.out)) k_ hk)); (case aO => exact ((Kd.R_nil _ _ _ _ (fun k_ => some k_ ≠ (v257 : Value).ownBlock)))); (case aS => exact (below_size (by repeat (first | (with_reducible first | exact HB.out | apply below_alloc | apply pw_below_drewN | apply below_drew1) | exact HB.out)))); (case aL => have := LMc25.out; have hlx_ := (show ((l0.take (ji6 : Int).toNat).drop (t252 : Int).toNat).length = (ji6.toNat - t252.toNat) from (by rw [List.length_drop, List.length_take]; have h_ : (ji6 : Int) ≤ (l0.length : Int) := of_decide_eq_true (by first | (with_reducible assumption) | assumption); omega)); omega); intro v263 w27 ho hb hg hat; rw [← Ny262.out] at ho; have n0_ := Aside0.mk (Kd.R_after (Kd.R_apart_nil (by (with_reducible repeat (first | apply Kd.R_alloc | apply Kd.R_drewN | apply Kd.R_drew)); exact HO_9.out)) hg hat); have n1_ := Aside0.mk (hb); have n2_ := Aside0.mk (ho); clear HO_9; clear HB; have HO_9 := n0_; have HB := n1_; have HO264 := n2_; clear n0_ n1_ n2_; clear ho hb hg hat))
                          repeat (go_quiet (first | ((with_reducible refine gate_builtin (b := .append) (xs := #[.const (.slice none 0 0), .tmp 54]) rfl ?_); at_builtin; refine Kd.R_append_rows (Kd.int .u8) (w0 := w) w.heap.size rfl (.const (.slice none 0 0)) (.tmp 54) 22 5 (.int .u8 0) 1 rfl Tryd.underlying22 info5 rfl (by decide) (by omega) (.slice none 0 0) ([] : List Int) ((l0.take (ji6 : Int).toNat).drop (t252 : Int).toNat) _ _ _ (fun k_ => some k_ ≠ (v257 : Value).ownBlock) (fun _ => False) rfl rfl ?aO ?aR (fun _ _ h => h) (fun _ h => h.elim) ?aF ?aB ?aS ?aL ?_; (case aR => first | (rw [← show ((l0.take (ji6 : Int).toNat).drop (t252 : Int).toNat).length = (ji6.toNat - t252.toNat) from (by rw [List.length_drop, List.length_take]; have h_ : (ji6 : Int) ≤ (l0.length : Int) := of_decide_eq_true (by first | (with_reducible assumption) | assumption); omega)]; repeat (first | exact (Kd.C_below HR261.out HB.out) | (with_reducible refine Kd.C_alloc ?_ _) | (with_reducible refine Kd.C_drewN ?_ _) | (with_reducible refine Kd.C_drew ?_))) | (repeat (first | exact (Kd.C_below HR261.out HB.out) | (with_reducible refine Kd.C_alloc ?_ _) | (with_reducible refine Kd.C_drewN ?_ _) | (with_reducible refine Kd.C_drew ?_)))); (case aB => exact (by repeat (first | (with_reducible first | exact HB.out | apply below_alloc | apply pw_below_drewN | apply below_drew1) | exact HB.out))); (case aF => exact (fun k_ hk => Kd.fresh' (Kd.R_lt (by (with_reducible repeat (first | apply Kd.R_alloc | apply Kd.R_drewN | apply Kd.R_drew)); exact HO_9.out)) k_ hk)); (case aO => exact ((Kd.R_nil _ _ _ _ (fun k_ => some k_ ≠ (v257 : Value).ownBlock)))); (case aS => exact (below_size (by repeat (first | (with_reducible first | exact HB.out | apply below_alloc | apply pw_below_drewN | apply below_drew1) | exact HB.out)))); (case aL => have := LMc25.out; have hlx_ := (show ((l0.take (ji6 : Int).toNat).drop (t252 : Int).toNat).length = (ji6.toNat - t252.toNat) from (by rw [List.length_drop, List.length_take]; have h_ : (ji6 : Int) ≤ (l0.length : Int) := of_decide_eq_true (by first | (with_reducible assumption) | assumption); omega)); omega); intro v263 w27 ho hb hg hat; rw [← Ny262.out] at ho; have n0_ := Aside0.mk (Kd.R_after (Kd.R_apart_nil (by (with_reducible repeat (first | apply Kd.R_alloc | apply Kd.R_drewN | apply Kd.R_drew)); exact HO_9.out)) hg hat); have n1_ := Aside0.mk (hb); have n2_ := Aside0.mk (ho); clear HO_9; clear HB; have HO_9 := n0_; have HB := n1_; have HO264 := n2_; clear n0_ n1_ n2_; clear ho hb hg hat)); try go_wp2_with (first | ((with_reducible refine gate_builtin (b := .append) (xs := #[.const (.slice none 0 0), .tmp 54]) rfl ?_); at_builtin; refine Kd.R_append_rows (Kd.int .u8) (w0 := w) w.heap.size rfl (.const (.slice none 0 0)) (.tmp 54) 22 5 (.int .u8 0) 1 rfl Tryd.underlying22 info5 rfl (by decide) (by omega) (.slice none 0 0) ([] : List Int) ((l0.take (ji6 : Int).toNat).drop (t252 : Int).toNat) _ _ _ (fun k_ => some k_ ≠ (v257 : Value).ownBlock) (fun _ => False) rfl rfl ?aO ?aR (fun _ _ h => h) (fun _ h => h.elim) ?aF ?aB ?aS ?aL ?_; (case aR => first | (rw [← show ((l0.take (ji6 : Int).toNat).drop (t252 : Int).toNat).length = (ji6.toNat - t252.toNat) from (by rw [List.length_drop, List.length_take]; have h_ : (ji6 : Int) ≤ (l0.length : Int) := of_decide_eq_true (by first | (with_reducible assumption) | assumption); omega)]; repeat (first | exact (Kd.C_below HR261.out HB.out) | (with_reducible refine Kd.C_alloc ?_ _) | (with_reducible refine Kd.C_drewN ?_ _) | (with_reducible refine Kd.C_drew ?_))) | (repeat (first | exact (Kd.C_below HR261.out HB.out) | (with_reducible refine Kd.C_alloc ?_ _) | (with_reducible refine Kd.C_drewN ?_ _) | (with_reducible refine Kd.C_drew ?_)))); (case aB => exact (by repeat (first | (with_reducible first | exact HB.out | apply below_alloc | apply pw_below_drewN | apply below_drew1) | exact HB.out))); (case aF => exact (fun k_ hk => Kd.fresh' (Kd.R_lt (by (with_reducible repeat (first | apply Kd.R_alloc | apply Kd.R_drewN | apply Kd.R_drew)); exact HO_9.out)) k_ hk)); (case aO => exact ((Kd.R_nil _ _ _ _ (fun k_ => some k_ ≠ (v257 : Value).ownBlock)))); (case aS => exact (below_size (by repeat (first | (with_reducible first | exact HB.out | apply below_alloc | apply pw_below_drewN | apply below_drew1) | exact HB.out)))); (case aL => have := LMc25.out; have hlx_ := (show ((l0.take (ji6 : Int).toNat).drop (t252 : Int).toNat).length = (ji6.toNat - t252.toNat) from (by rw [List.length_drop, List.length_take]; have h_ : (ji6 : Int) ≤ (l0.length : Int) := of_decide_eq_true (by first | (with_reducible assumption) | assumption); omega)); omega); intro v263 w27 ho hb hg hat; rw [← Ny262.out] at ho; have n0_ := Aside0.mk (Kd.R_after (Kd.R_apart_nil (by (with_reducible repeat (first | apply Kd.R_alloc | apply Kd.R_drewN | apply Kd.R_drew)); exact HO_9.out)) hg hat); have n1_ := Aside0.mk (hb); have n2_ := Aside0.mk (ho); clear HO_9; clear HB; have HO_9 := n0_; have HB := n1_; have HO264 := n2_; clear n0_ n1_ n2_; clear ho hb hg hat)))
                          go_ret3
                          exact ⟨_, by first | rfl | (simp [errW_none, errW_some] <;> rfl) | (simp only [← hji6]; first | rfl | (simp [errW_none, errW_some] <;> rfl)) | (simp [*, errW_none, errW_some] <;> rfl), by (with_reducible repeat (first | apply Kd.R_alloc | apply Kd.R_drewN | apply Kd.R_drew)); exact Kd.R_mono HO264.out (fun _ hk => trivial), by repeat (first | (with_reducible first | exact HB.out | apply below_alloc | apply pw_below_drewN | apply below_drew1) | exact HB.out)⟩
                        · rw [if_neg c25] at H
                          exact absurd H (by simp)
                      · rw [if_neg c24] at H
                        exact absurd H (by simp)
                    · rw [if_neg c23] at H
                      exact absurd H (by simp)
                  · rw [if_neg c22] at H
                    exact absurd H (by simp)
          · rw [if_neg c8] at H
            exact absurd H (by simp)
        · rw [if_neg c7] at H
          exact absurd H (by simp)
  · rw [if_neg c3] at H
    have c3b0 : (t253 == 0) = false := beq_eq_false_iff_ne.mpr c3
    have c3b1 : (t253 != 0) = true := bne_iff_ne.mpr c3
    simp only [Option.some.injEq, Prod.mk.injEq] at H
    obtain ⟨rfl, rfl, rfl⟩ := H
    go_enter Tryd.func43, Tryd.ntmps43
    go_wp2_with (first | (go_at_call 48; (with_reducible refine (screeref2_Uint.calls _ _ l0 t251 t252 t253 _ ?side1 ?side2 A2.out).mono ?_); (case side1 => repeat (first | exact HR0.out | (with_reducible refine Kd.C_alloc ?_ _) | (with_reducible refine Kd.C_drewN ?_ _) | (with_reducible refine Kd.C_drew ?_))); (case side2 => exact HC0.out); rintro e w' ⟨rfl, ⟨nd, rfl⟩⟩; (try first | exact ⟨rfl, _, World.drewN_drewN _ _ _⟩ | exact ⟨rfl, _, Eq.trans (World.drewN_drewN _ _ _) (congrArg (World.drewN _) (Nat.add_assoc _ _ _))⟩)))
    repeat (go_quiet (first | (go_at_call 48; (with_reducible refine (screeref2_Uint.calls _ _ l0 t251 t252 t253 _ ?side1 ?side2 A2.out).mono ?_); (case side1 => repeat (first | exact HR0.out | (with_reducible refine Kd.C_alloc ?_ _) | (with_reducible refine Kd.C_drewN ?_ _) | (with_reducible refine Kd.C_drew ?_))); (case side2 => exact HC0.out); rintro e w' ⟨rfl, ⟨nd, rfl⟩⟩; (try first | exact ⟨rfl, _, World.drewN_drewN _ _ _⟩ | exact ⟨rfl, _, Eq.trans (World.drewN_drewN _ _ _) (congrArg (World.drewN _) (Nat.add_assoc _ _ _))⟩))); try go_wp2_with (first | (go_at_call 48; (with_reducible refine (screeref2_Uint.calls _ _ l0 t251 t252 t253 _ ?side1 ?side2 A2.out).mono ?_); (case side1 => repeat (first | exact HR0.out | (with_reducible refine Kd.C_alloc ?_ _) | (with_reducible refine Kd.C_drewN ?_ _) | (with_reducible refine Kd.C_drew ?_))); (case side2 => exact HC0.out); rintro e w' ⟨rfl, ⟨nd, rfl⟩⟩; (try first | exact ⟨rfl, _, World.drewN_drewN _ _ _⟩ | exact ⟨rfl, _, Eq.trans (World.drewN_drewN _ _ _) (congrArg (World.drewN _) (Nat.add_assoc _ _ _))⟩))))
    go_ret3
    exact ⟨_, by first | rfl | (simp [errW_none, errW_some] <;> rfl) | (simp [*, errW_none, errW_some] <;> rfl), by first | exact Kd.R_nil _ _ _ _ _ | exact Kd.N_nil _ _ _ _ _ | exact Kd.V_nil _ _ _ _ _ | exact Kd.Q_nil _ _ _ _ _ | exact Kd.S_nil _ _ _ _ _, by repeat (first | (with_reducible first | exact HB.out | apply below_alloc | apply pw_below_drewN | apply below_drew1) | exact HB.out)⟩

/-! ### screeref2_Unframe: function 43 -/
open Go.Proofs.YtipefhadafildaaDoor.G
theorem rd_cons_drop (l : List Int) (i : Nat) (h : i < l.length) : l.drop i = rd l (i : Int) :: l.drop (i + 1) := by
  rw [List.drop_eq_getElem_cons h]
  simp [rd, List.getD_eq_getElem?_getD, h]
theorem refUnf_ev (l f g : List Int) (k e : Nat) (hf : f.length = 4) (hg : g.length = 4) (he : e + 4 ≤ l.length) (hm : l.length ≤ 140737488351232) (hk : k ≤ e) (hgl : ∀ i : Nat, i < 4 → rd l ((e + i : Nat) : Int) = rd g (i : Int)) (d : Nat) : ∀ i : Nat, i + d = 4 → Ev (fun r => screeref2_Unframe_p.l0 r l (k : Int) (e : Int) f (i : Int)) (if f.drop i = g.drop i then ((l.take e).drop k, ((e + 4 : Nat) : Int), 0) else ([], 0, 23)) := by
  induction d with
  | zero =>
    intro i hi
    rw [List.drop_of_length_le (by omega), List.drop_of_length_le (by omega), if_pos rfl]
    refine Ev.step (f := fun _ => some ((l.take e).drop k, ((e + 4 : Nat) : Int), 0)) (fun r => ?_) (Ev.now _)
    simp only [screeref2_Unframe_p.l0]
    rw [if_neg (by omega), if_pos (by omega), if_pos (by omega), if_pos (by omega), Int.toNat_natCast, Int.toNat_natCast, if_pos (by simp only [List.length_nil, List.length_drop, List.length_take]; omega), List.nil_append, show wrap64 ((e : Int) + 4) = ((e + 4 : Nat) : Int) by unfold wrap64; omega]
  | succ d ih =>
    intro i hi
    rw [rd_cons_drop f i (by omega), rd_cons_drop g i (by omega)]
    have hw : wrap64 ((e : Int) + (i : Int)) = ((e + i : Nat) : Int) := by unfold wrap64; omega
    by_cases hq : rd g (i : Int) = rd f (i : Int)
    · have h2 := ih (i + 1) (by omega)
      rw [hq]
      simp only [List.cons.injEq, true_and]
      refine Ev.step (fun r => ?_) h2
      simp only [screeref2_Unframe_p.l0]
      rw [if_pos (by omega), hw, if_pos (by omega), if_pos (by omega), if_pos (by omega), if_pos (by omega), if_pos (by rw [hgl i (by omega)]; exact hq), show wrap64 ((i : Int) + 1) = ((i + 1 : Nat) : Int) by unfold wrap64; omega]
    · rw [if_neg (by intro h; exact hq (List.cons.inj h).1.symm)]
      refine Ev.step (f := fun _ => some ([], 0, 23)) (fun r => ?_) (Ev.now _)
      simp only [screeref2_Unframe_p.l0]
      rw [if_pos (by omega), hw, if_pos (by omega), if_pos (by omega), if_pos (by omega), if_pos (by omega), if_neg (by rw [hgl i (by omega)]; exact hq)]
def screeref2_Unframe.f (l0 : List Int) : Option (List Int × Int × Int) := if okB l0 = true ∧ l0.length ≤ 140737488351232 then some (unframeL l0) else none
theorem screeref2_Unframe_rounds (l0 : List Int) (hb : okB l0 = true) (hl : l0.length ≤ 140737488351232) : ∃ r, screeref2_Unframe_p.f r l0 = some (unframeL l0) := by
  have hs := uintN_spec l0 (okB_iff.1 hb)
  have hU : screeref2_Uint.f l0 = some (uintL l0) := by unfold screeref2_Uint.f; rw [if_pos ⟨hb, by omega⟩]
  obtain ⟨n, k, e, hN, s1, s2, s3⟩ : ∃ n k e, uintN l0 = (n, k, e) ∧ n < 18446744073709551616 ∧ k ≤ l0.length ∧ k ≤ 10 := ⟨_, _, _, rfl, hs⟩
  have hL : uintL l0 = ((n : Int), (k : Int), (e : Int)) := by unfold uintL i3; rw [hN]
  rw [hL] at hU
  unfold unframeL screeref2_Unframe_p.f
  rw [hN, hU]
  simp only [Option.bind_some]
  by_cases he : e = 0
  · rw [if_neg (show ¬ e ≠ 0 by simpa using he)]
    subst he
    by_cases hbig : n > 262144
    · refine ⟨0, ?_⟩
      rw [if_pos hbig, if_pos (show ((0 : Nat) : Int) = 0 from rfl), if_pos (by omega)]
    · rw [if_neg hbig]
      have hw1 : wrap64 (n : Int) = (n : Int) := by unfold wrap64; omega
      have hw2 : wrap64 ((k : Int) + (n : Int)) = ((k + n : Nat) : Int) := by unfold wrap64; omega
      have hw3 : wrap64 (((k + n : Nat) : Int) + 4) = ((k + n + 4 : Nat) : Int) := by unfold wrap64; omega
      rw [hw1, hw2, hw3]
      by_cases hs : n + 4 > l0.length - k
      · refine ⟨0, ?_⟩
        rw [if_pos hs, if_pos (show ((0 : Nat) : Int) = 0 from rfl), if_neg (by omega), if_pos (by omega)]
      · rw [if_neg hs]
        have hbt : Bytes (l0.take (k + n)) := fun y hy => okB_iff.1 hb y (List.mem_of_mem_take hy)
        have hev := refUnf_ev l0 (fourL (sumF (l0.take (k + n)))) ((l0.take (k + n + 4)).drop (k + n)) k (k + n) rfl (by rw [List.length_drop, List.length_take]; omega) (by omega) hl (by omega) (fun i hi => by simp only [rd, Int.toNat_natCast, List.getD_eq_getElem?_getD, List.getElem?_drop, List.getElem?_take]; rw [if_pos (by omega)]) 4 0 rfl
        obtain ⟨r, hr⟩ := hev.rounds
        refine ⟨r, ?_⟩
        rw [if_pos (show ((0 : Nat) : Int) = 0 from rfl), if_neg (by omega), if_neg (by omega), if_pos (by omega), if_pos (by omega), Int.toNat_natCast]
        unfold screeref2_Sum.f screeref2_Four.f
        rw [if_pos ⟨okB_iff.2 hbt, by rw [List.length_take]; omega⟩]
        simp only [Option.bind_some]
        rw [four_eq (sumF_range hbt)]
        simp only [List.drop_zero] at hr
        exact hr
  · refine ⟨0, ?_⟩
    rw [if_pos (show e ≠ 0 from he), if_neg (show ¬ ((e : Int) = 0) by omega)]
theorem screeref2_Unframe.calls (A0 : Option Addr) (c0 : Nat) (l0 : List Int) (r1 : List Int) (r2 : Int) (r3 : Int) (w : World) (hr0 : Kd.C (Kd.int .u8) w A0 l0.length l0) (hc0 : l0.length ≤ c0) (h : screeref2_Unframe.f l0 = some (r1, r2, r3)) :
    Calls Tryd.prog 43 #[.slice A0 l0.length c0] w fun e w' => ∃ v0_ : Value, e = .returned (.tuple #[v0_, .int .i64 r2, .int .i64 r3]) ∧ Kd.R (Kd.int .u8) 5 w' w.heap.size (fun _ => True) v0_ r1 ∧ Below w.heap.size w w' := by
  unfold screeref2_Unframe.f at h
  split at h
  · rename_i hh
    obtain ⟨r, hr⟩ := screeref2_Unframe_rounds l0 hh.1 hh.2
    rw [Option.some.inj h] at hr
    exact screeref2_Unframe_p.calls r A0 c0 l0 r1 r2 r3 w hr0 hc0 hr
  · cases h

/-! ### screelaw2_frameOf: function 16 -/
def screelaw2_frameOf.f (l0 : List Int) (l1 : List Int) : Option (Bool) := (codec_Unframe.f l0).bind fun bt265 => ((screeref2_Unframe.f l1).bind fun bt270 => ((screelaw2_same.f bt265.1 bt270.1).bind fun t275 => (if t275 = true then (if bt265.2.1 = bt270.2.1 then (some (bt265.2.2 == bt270.2.2)) else (some false)) else (some false))))
set_option maxHeartbeats 8000000 in
set_option maxRecDepth 100000 in
theorem screelaw2_frameOf.calls (A0 : Option Addr) (c0 : Nat) (l0 : List Int) (A1 : Option Addr) (c1 : Nat) (l1 : List Int) (r : Bool) (w : World) (hr0 : Kd.C (Kd.int .u8) w A0 l0.length l0) (hc0 : l0.length ≤ c0) (hr1 : Kd.C (Kd.int .u8) w A1 l1.length l1) (hc1 : l1.length ≤ c1) (h : screelaw2_frameOf.f l0 l1 = some r) (hT_ : GT w) :
    Calls Tryd.prog 16 #[.slice A0 l0.length c0, .slice A1 l1.length c1] w fun e w' => e = .returned (.bool r) ∧ Below w.heap.size w w' := by
  have HT_ := Aside0.mk hT_
  clear hT_
  have HR0 := Aside0.mk hr0
  have HC0 := Aside0.mk hc0
  clear hr0 hc0
  have HR1 := Aside0.mk hr1
  have HC1 := Aside0.mk hc1
  clear hr1 hc1
  have HB := Aside0.mk (Below.refl w.heap.size w)
  have H : ((codec_Unframe.f l0).bind fun bt265 => ((screeref2_Unframe.f l1).bind fun bt270 => ((screelaw2_same.f bt265.1 bt270.1).bind fun t275 => (if t275 = true then (if bt265.2.1 = bt270.2.1 then (some (bt265.2.2 == bt270.2.2)) else (some false)) else (some false))))) = some r := h
  clear h
  replace H := Option.bind_eq_some_iff.mp H
  obtain ⟨⟨t265, t266, t267⟩, A30, H⟩ := H
  replace H : ((screeref2_Unframe.f l1).bind fun bt270 => ((screelaw2_same.f t265 bt270.1).bind fun t275 => (if t275 = true then (if t266 = bt270.2.1 then (some (t267 == bt270.2.2)) else (some false)) else (some false)))) = some r := H
  have A3 := Aside0.mk A30
  clear A30
  replace H := Option.bind_eq_some_iff.mp H
  obtain ⟨⟨t270, t271, t272⟩, A40, H⟩ := H
  replace H : ((screelaw2_same.f t265 t270).bind fun t275 => (if t275 = true then (if t266 = t271 then (some (t267 == t272)) else (some false)) else (some false))) = some r := H
  have A4 := Aside0.mk A40
  clear A40
  replace H := Option.bind_eq_some_iff.mp H
  obtain ⟨t275, A50, H⟩ := H
  replace H : (if t275 = true then (if t266 = t271 then (some (t267 == t272)) else (some false)) else (some false)) = some r := H
  have A5 := Aside0.mk A50
  clear A50
  by_cases c6 : t275 = true
  · subst c6
    have H1 : (if t266 = t271 then (some (t267 == t272)) else (some false)) = some r := by rw [if_pos rfl] at H; exact H
    clear H
    have H := H1
    clear H1
    by_cases c7 : t266 = t271
    · rw [if_pos c7] at H
      have c7b0 : (t266 == t271) = true := beq_iff_eq.mpr c7
      have c7b1 : (t266 != t271) = false := bne_eq_false_iff_eq.mpr c7
      clear c7
      obtain rfl := Option.some.inj H
      go_enter Tryd.func16, Tryd.ntmps16
      go_wp2_with (first | ((with_reducible refine gate_callee (f := 20) rfl ?_); refine goesL_ (some 13) rfl rfl Tryd.func20 (by kernel_rfl) rfl #[.slice A0 l0.length c0] rfl (by (try simp only [List.map_toArray, List.map_cons, List.map_nil]); first | done | rfl | (simp only [List.length_drop, List.length_take]; rfl)) ?_; (with_reducible refine (codec_Unframe.calls _ _ l0 t265 t266 t267 _ ?side1 ?side2 A3.out ?side3).mono ?_); (case side1 => repeat (first | exact HR0.out | (with_reducible refine Kd.C_alloc ?_ _) | (with_reducible refine Kd.C_drewN ?_ _) | (with_reducible refine Kd.C_drew ?_))); (case side2 => exact HC0.out); (case side3 => first | (with_reducible exact HT_.out) | exact GT.below HT_.out (by repeat (first | (with_reducible first | exact HB.out | apply below_alloc | apply pw_below_drewN | apply below_drew1) | exact HB.out))); rintro e w8 ⟨v268, rfl, ho0, hb⟩; refine ⟨_, rfl, ?_⟩; have n0_ := Aside0.mk (Kd.R_lower ho0 (below_size (by repeat (first | (with_reducible first | exact HB.out | apply below_alloc | apply pw_below_drewN | apply below_drew1) | exact HB.out)))); have n1_ := Aside0.mk (below_step (by repeat (first | (with_reducible first | exact HB.out | apply below_alloc | apply pw_below_drewN | apply below_drew1) | exact HB.out)) hb); clear HB; have HO269 := n0_; have HB := n1_; clear n0_ n1_; (try clear hb); (try clear hb2); (try clear hk); (try clear hi); (try clear ho0)) | ((with_reducible refine gate_callee (f := 43) rfl ?_); refine goesL_ (some 19) rfl rfl Tryd.func43 (by kernel_rfl) rfl #[.slice A1 l1.length c1] rfl (by (try simp only [List.map_toArray, List.map_cons, List.map_nil]); first | done | rfl | (simp only [List.length_drop, List.length_take]; rfl)) ?_; (with_reducible refine (screeref2_Unframe.calls _ _ l1 t270 t271 t272 _ ?side1 ?side2 A4.out).mono ?_); (case side1 => repeat (first | exact (Kd.C_below HR1.out HB.out) | (with_reducible refine Kd.C_alloc ?_ _) | (with_reducible refine Kd.C_drewN ?_ _) | (with_reducible refine Kd.C_drew ?_))); (case side2 => exact HC1.out); rintro e w9 ⟨v273, rfl, ho0, hb⟩; refine ⟨_, rfl, ?_⟩; have n0_ := Aside0.mk (Kd.R_elder' (by (with_reducible repeat (first | apply Kd.R_alloc | apply Kd.R_drewN | apply Kd.R_drew)); exact HO269.out) (Kd.R_base ho0) hb); have n1_ := Aside0.mk (Kd.R_lower (Kd.R_new' ho0 (Kd.R_lt (by (with_reducible repeat (first | apply Kd.R_alloc | apply Kd.R_drewN | apply Kd.R_drew)); exact HO269.out))) (below_size (by repeat (first | (with_reducible first | exact HB.out | apply below_alloc | apply pw_below_drewN | apply below_drew1) | exact HB.out)))); have n2_ := Aside0.mk (below_step (by repeat (first | (with_reducible first | exact HB.out | apply below_alloc | apply pw_below_drewN | apply below_drew1) | exact HB.out)) hb); clear HO269; clear HB; have HO269 := n0_; have HO274 := n1_; have HB := n2_; clear n0_ n1_ n2_; (try clear hb); (try clear hb2); (try clear hk); (try clear hi); (try clear ho0); obtain ⟨Ao10, co10, eo10⟩ := Kd.R_slice HO269.out; subst eo10; obtain ⟨Ao11, co11, eo11⟩ := Kd.R_slice HO274.out; subst eo11) | ((with_reducible refine gate_callee (f := 12) rfl ?_); refine goesL_ (some 25) rfl rfl Tryd.func12 (by kernel_rfl) rfl #[.slice Ao10 t265.length co10, .slice Ao11 t270.length co11] rfl (by (try simp only [List.map_toArray, List.map_cons, List.map_nil]); first | done | rfl | (simp only [List.length_drop, List.length_take]; rfl)) ?_; (with_reducible refine (screelaw2_same.calls _ _ t265 _ _ t270 true _ ?side1 ?side2 ?side3 ?side4 A5.out).mono ?_); (case side1 => repeat (first | exact (Kd.R_reads' HO269.out).2.2 | (with_reducible refine Kd.C_alloc ?_ _) | (with_reducible refine Kd.C_drewN ?_ _) | (with_reducible refine Kd.C_drew ?_))); (case side2 => exact (Kd.R_reads' HO269.out).2.1); (case side3 => repeat (first | exact (Kd.R_reads' HO274.out).2.2 | (with_reducible refine Kd.C_alloc ?_ _) | (with_reducible refine Kd.C_drewN ?_ _) | (with_reducible refine Kd.C_drew ?_))); (case side4 => exact (Kd.R_reads' HO274.out).2.1); rintro e w' ⟨rfl, ⟨nd, rfl⟩⟩; refine ⟨_, rfl, ?_⟩))
      go_ret
      exact ⟨by first | rfl | (simp [errW_none, errW_some] <;> rfl) | (simp [*, errW_none, errW_some] <;> rfl), by repeat (first | (with_reducible first | exact HB.out | apply below_alloc | apply pw_below_drewN | apply below_drew1) | exact HB.out)⟩
    · rw [if_neg c7] at H
      have c7b0 : (t266 == t271) = false := beq_eq_false_iff_ne.mpr c7
      have c7b1 : (t266 != t271) = true := bne_iff_ne.mpr c7
      obtain rfl := Option.some.inj H
      go_enter Tryd.func16, Tryd.ntmps16
      go_wp2_with (first | ((with_reducible refine gate_callee (f := 20) rfl ?_); refine goesL_ (some 13) rfl rfl Tryd.func20 (by kernel_rfl) rfl #[.slice A0 l0.length c0] rfl (by (try simp only [List.map_toArray, List.map_cons, List.map_nil]); first | done | rfl | (simp only [List.length_drop, List.length_take]; rfl)) ?_; (with_reducible refine (codec_Unframe.calls _ _ l0 t265 t266 t267 _ ?side1 ?side2 A3.out ?side3).mono ?_); (case side1 => repeat (first | exact HR0.out | (with_reducible refine Kd.C_alloc ?_ _) | (with_reducible refine Kd.C_drewN ?_ _) | (with_reducible refine Kd.C_drew ?_))); (case side2 => exact HC0.out); (case side3 => first | (with_reducible exact HT_.out) | exact GT.below HT_.out (by repeat (first | (with_reducible first | exact HB.out | apply below_alloc | apply pw_below_drewN | apply below_drew1) | exact HB.out))); rintro e w12 ⟨v268, rfl, ho0, hb⟩; refine ⟨_, rfl, ?_⟩; have n0_ := Aside0.mk (Kd.R_lower ho0 (below_size (by repeat (first | (with_reducible first | exact HB.out | apply below_alloc | apply pw_below_drewN | apply below_drew1) | exact HB.out)))); have n1_ := Aside0.mk (below_step (by repeat (first | (with_reducible first | exact HB.out | apply below_alloc | apply pw_below_drewN | apply below_drew1) | exact HB.out)) hb); clear HB; have HO269 := n0_; have HB := n1_; clear n0_ n1_; (try clear hb); (try clear hb2); (try clear hk); (try clear hi); (try clear ho0)) | ((with_reducible refine gate_callee (f := 43) rfl ?_); refine goesL_ (some 19) rfl rfl Tryd.func43 (by kernel_rfl) rfl #[.slice A1 l1.length c1] rfl (by (try simp only [List.map_toArray, List.map_cons, List.map_nil]); first | done | rfl | (simp only [List.length_drop, List.length_take]; rfl)) ?_; (with_reducible refine (screeref2_Unframe.calls _ _ l1 t270 t271 t272 _ ?side1 ?side2 A4.out).mono ?_); (case side1 => repeat (first | exact (Kd.C_below HR1.out HB.out) | (with_reducible refine Kd.C_alloc ?_ _) | (with_reducible refine Kd.C_drewN ?_ _) | (with_reducible refine Kd.C_drew ?_))); (case side2 => exact HC1.out); rintro e w13 ⟨v273, rfl, ho0, hb⟩; refine ⟨_, rfl, ?_⟩; have n0_ := Aside0.mk (Kd.R_elder' (by (with_reducible repeat (first | apply Kd.R_alloc | apply Kd.R_drewN | apply Kd.R_drew)); exact HO269.out) (Kd.R_base ho0) hb); have n1_ := Aside0.mk (Kd.R_lower (Kd.R_new' ho0 (Kd.R_lt (by (with_reducible repeat (first | apply Kd.R_alloc | apply Kd.R_drewN | apply Kd.R_drew)); exact HO269.out))) (below_size (by repeat (first | (with_reducible first | exact HB.out | apply below_alloc | apply pw_below_drewN | apply below_drew1) | exact HB.out)))); have n2_ := Aside0.mk (below_step (by repeat (first | (with_reducible first | exact HB.out | apply below_alloc | apply pw_below_drewN | apply below_drew1) | exact HB.out)) hb); clear HO269; clear HB; have HO269 := n0_; have HO274 := n1_; have HB := n2_; clear n0_ n1_ n2_; (try clear hb); (try clear hb2); (try clear hk); (try clear hi); (try clear ho0); obtain ⟨Ao14, co14, eo14⟩ := Kd.R_slice HO269.out; subst eo14; obtain ⟨Ao15, co15, eo15⟩ := Kd.R_slice HO274.out; subst eo15) | ((with_reducible refine gate_callee (f := 12) rfl ?_); refine goesL_ (some 25) rfl rfl Tryd.func12 (by kernel_rfl) rfl #[.slice Ao14 t265.length co14, .slice Ao15 t270.length co15] rfl (by (try simp only [List.map_toArray, List.map_cons, List.map_nil]); first | done | rfl | (simp only [List.length_drop, List.length_take]; rfl)) ?_; (with_reducible refine (screelaw2_same.calls _ _ t265 _ _ t270 true _ ?side1 ?side2 ?side3 ?side4 A5.out).mono ?_); (case side1 => repeat (first | exact (Kd.R_reads' HO269.out).2.2 | (with_reducible refine Kd.C_alloc ?_ _) | (with_reducible refine Kd.C_drewN ?_ _) | (with_reducible refine Kd.C_drew ?_))); (case side2 => exact (Kd.R_reads' HO269.out).2.1); (case side3 => repeat (first | exact (Kd.R_reads' HO274.out).2.2 | (with_reducible refine Kd.C_alloc ?_ _) | (with_reducible refine Kd.C_drewN ?_ _) | (with_reducible refine Kd.C_drew ?_))); (case side4 => exact (Kd.R_reads' HO274.out).2.1); rintro e w' ⟨rfl, ⟨nd, rfl⟩⟩; refine ⟨_, rfl, ?_⟩))
      go_ret
      exact ⟨by first | rfl | (simp [errW_none, errW_some] <;> rfl) | (simp [*, errW_none, errW_some] <;> rfl), by repeat (first | (with_reducible first | exact HB.out | apply below_alloc | apply pw_below_drewN | apply below_drew1) | exact HB.out)⟩
  · replace c6 := Bool.eq_false_iff.mpr c6
    subst c6
    have H1 : (some false) = some r := by rw [if_neg (show ¬ (false = true) by decide)] at H; exact H
    clear H
    have H := H1
    clear H1
    obtain rfl := Option.some.inj H
    go_enter Tryd.func16, Tryd.ntmps16
    go_wp2_with (first | ((with_reducible refine gate_callee (f := 20) rfl ?_); refine goesL_ (some 13) rfl rfl Tryd.func20 (by kernel_rfl) rfl #[.slice A0 l0.length c0] rfl (by (try simp only [List.map_toArray, List.map_cons, List.map_nil]); first | done | rfl | (simp only [List.length_drop, List.length_take]; rfl)) ?_; (with_reducible refine (codec_Unframe.calls _ _ l0 t265 t266 t267 _ ?side1 ?side2 A3.out ?side3).mono ?_); (case side1 => repeat (first | exact HR0.out | (with_reducible refine Kd.C_alloc ?_ _) | (with_reducible refine Kd.C_drewN ?_ _) | (with_reducible refine Kd.C_drew ?_))); (case side2 => exact HC0.out); (case side3 => first | (with_reducible exact HT_.out) | exact GT.below HT_.out (by repeat (first | (with_reducible first | exact HB.out | apply below_alloc | apply pw_below_drewN | apply below_drew1) | exact HB.out))); rintro e w16 ⟨v268, rfl, ho0, hb⟩; refine ⟨_, rfl, ?_⟩; have n0_ := Aside0.mk (Kd.R_lower ho0 (below_size (by repeat (first | (with_reducible first | exact HB.out | apply below_alloc | apply pw_below_drewN | apply below_drew1) | exact HB.out)))); have n1_ := Aside0.mk (below_step (by repeat (first | (with_reducible first | exact HB.out | apply below_alloc | apply pw_below_drewN | apply below_drew1) | exact HB.out)) hb); clear HB; have HO269 := n0_; have HB := n1_; clear n0_ n1_; (try clear hb); (try clear hb2); (try clear hk); (try clear hi); (try clear ho0)) | ((with_reducible refine gate_callee (f := 43) rfl ?_); refine goesL_ (some 19) rfl rfl Tryd.func43 (by kernel_rfl) rfl #[.slice A1 l1.length c1] rfl (by (try simp only [List.map_toArray, List.map_cons, List.map_nil]); first | done | rfl | (simp only [List.length_drop, List.length_take]; rfl)) ?_; (with_reducible refine (screeref2_Unframe.calls _ _ l1 t270 t271 t272 _ ?side1 ?side2 A4.out).mono ?_); (case side1 => repeat (first | exact (Kd.C_below HR1.out HB.out) | (with_reducible refine Kd.C_alloc ?_ _) | (with_reducible refine Kd.C_drewN ?_ _) | (with_reducible refine Kd.C_drew ?_))); (case side2 => exact HC1.out); rintro e w17 ⟨v273, rfl, ho0, hb⟩; refine ⟨_, rfl, ?_⟩; have n0_ := Aside0.mk (Kd.R_elder' (by (with_reducible repeat (first | apply Kd.R_alloc | apply Kd.R_drewN | apply Kd.R_drew)); exact HO269.out) (Kd.R_base ho0) hb); have n1_ := Aside0.mk (Kd.R_lower (Kd.R_new' ho0 (Kd.R_lt (by (with_reducible repeat (first | apply Kd.R_alloc | apply Kd.R_drewN | apply Kd.R_drew)); exact HO269.out))) (below_size (by repeat (first | (with_reducible first | exact HB.out | apply below_alloc | apply pw_below_drewN | apply below_drew1) | exact HB.out)))); have n2_ := Aside0.mk (below_step (by repeat (first | (with_reducible first | exact HB.out | apply below_alloc | apply pw_below_drewN | apply below_drew1) | exact HB.out)) hb); clear HO269; clear HB; have HO269 := n0_; have HO274 := n1_; have HB := n2_; clear n0_ n1_ n2_; (try clear hb); (try clear hb2); (try clear hk); (try clear hi); (try clear ho0); obtain ⟨Ao18, co18, eo18⟩ := Kd.R_slice HO269.out; subst eo18; obtain ⟨Ao19, co19, eo19⟩ := Kd.R_slice HO274.out; subst eo19) | ((with_reducible refine gate_callee (f := 12) rfl ?_); refine goesL_ (some 25) rfl rfl Tryd.func12 (by kernel_rfl) rfl #[.slice Ao18 t265.length co18, .slice Ao19 t270.length co19] rfl (by (try simp only [List.map_toArray, List.map_cons, List.map_nil]); first | done | rfl | (simp only [List.length_drop, List.length_take]; rfl)) ?_; (with_reducible refine (screelaw2_same.calls _ _ t265 _ _ t270 false _ ?side1 ?side2 ?side3 ?side4 A5.out).mono ?_); (case side1 => repeat (first | exact (Kd.R_reads' HO269.out).2.2 | (with_reducible refine Kd.C_alloc ?_ _) | (with_reducible refine Kd.C_drewN ?_ _) | (with_reducible refine Kd.C_drew ?_))); (case side2 => exact (Kd.R_reads' HO269.out).2.1); (case side3 => repeat (first | exact (Kd.R_reads' HO274.out).2.2 | (with_reducible refine Kd.C_alloc ?_ _) | (with_reducible refine Kd.C_drewN ?_ _) | (with_reducible refine Kd.C_drew ?_))); (case side4 => exact (Kd.R_reads' HO274.out).2.1); rintro e w' ⟨rfl, ⟨nd, rfl⟩⟩; refine ⟨_, rfl, ?_⟩))
    go_ret
    exact ⟨by first | rfl | (simp [errW_none, errW_some] <;> rfl) | (simp [*, errW_none, errW_some] <;> rfl), by repeat (first | (with_reducible first | exact HB.out | apply below_alloc | apply pw_below_drewN | apply below_drew1) | exact HB.out)⟩

-- NOT PRINTED: function 4 (screelaw2_CodecFrames)

end Go.Proofs.YtipefhadafildaaDoor.QFrames
