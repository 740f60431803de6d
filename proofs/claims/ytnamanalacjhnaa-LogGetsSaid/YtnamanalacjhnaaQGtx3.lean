-- Printed by a program of this claim's own out of the translation.
import Derived.Test.YtnamanalacjhnaaQGtx0
namespace Go.Proofs.Ytnamanalacjhnaa.QGt
open Go.Proofs.Ytnamanalacjhnaa.Own
open Go.RowKit Go.Proofs.YtnamanalacjhnaaW.PrintWords Go.Proofs.YtnamanalacjhnaaW.PrintLast Go.Proofs.YtnamanalacjhnaaW.PrintMore
attribute [local go_sem] max2_int min2_int max_two min_two max_three min_three max_four min_four   -- for this text's walks alone
set_option linter.unusedVariables false
set_option linter.unusedSimpArgs false

/-! ### codec_Uint_p: function 51 -/
mutual
def codec_Uint_p.l0 : Nat → Int → List Int → Int → Int → Option (Int × Int × Int)
  | 0, _, _, _, _ => none
  | k + 1, x5, x8, x9, x10 => if x10 < x9 then (if 0 ≤ x10 then (if x10 < (x8.length : Int) then (if (rd x8 x10) = 0 then (if x10 > 0 then (codec_Uint_p.j1 k x5 x10 (rd x8 x10) x8 x9 x10 true) else (if x10 = 9 then (codec_Uint_p.j1 k x5 x10 (rd x8 x10) x8 x9 x10 ((rd x8 x10) != 1)) else (codec_Uint_p.j1 k x5 x10 (rd x8 x10) x8 x9 x10 false))) else (if x10 = 9 then (codec_Uint_p.j1 k x5 x10 (rd x8 x10) x8 x9 x10 ((rd x8 x10) != 1)) else (codec_Uint_p.j1 k x5 x10 (rd x8 x10) x8 x9 x10 false))) else (none)) else (none)) else (some (0, 0, 20))
def codec_Uint_p.j1 : Nat → Int → Int → Int → List Int → Int → Int → Bool → Option (Int × Int × Int)
  | 0, _, _, _, _, _, _, _ => none
  | k + 1, x5, x6, x7, x8, x9, x10, x28 => if x28 = true then (some (0, 0, 21)) else (if 0 ≤ (wrap64 (7 * x6)) then (if x7 < 128 then (some (Go.bits .or .u64 x5 (shl .u64 (IntKind.u64.wrap (Go.bits .and .u8 x7 127)) (wrap64 (7 * x6))), wrap64 (x6 + 1), 0)) else (codec_Uint_p.l0 k (Go.bits .or .u64 x5 (shl .u64 (IntKind.u64.wrap (Go.bits .and .u8 x7 127)) (wrap64 (7 * x6)))) x8 x9 (wrap64 (x10 + 1)))) else (none))
end
def codec_Uint_p.f (k : Nat) (l0 : List Int) : Option (Int × Int × Int) := codec_Uint_p.l0 k 0 l0 (l0.length : Int) 0
theorem codec_Uint_p.mono_l : ∀ k, (∀ y0 y1 y2 y3, LeO (codec_Uint_p.l0 k y0 y1 y2 y3) (codec_Uint_p.l0 (k + 1) y0 y1 y2 y3)) ∧ (∀ y0 y1 y2 y3 y4 y5 y6, LeO (codec_Uint_p.j1 k y0 y1 y2 y3 y4 y5 y6) (codec_Uint_p.j1 (k + 1) y0 y1 y2 y3 y4 y5 y6))
  | 0 => ⟨fun _ _ _ _ r h => by simp [codec_Uint_p.l0] at h, fun _ _ _ _ _ _ _ r h => by simp [codec_Uint_p.j1] at h⟩
  | k + 1 => by
    obtain ⟨ih0, ih1⟩ := codec_Uint_p.mono_l k
    refine ⟨?_, ?_⟩
    · intro y0 y1 y2 y3
      unfold codec_Uint_p.l0
      repeat' first
      | (with_reducible exact ih0 _ _ _ _)
      | (with_reducible exact ih1 _ _ _ _ _ _ _)
      | (with_reducible exact LeO.refl _)
      | (with_reducible exact LeO.none _)
      | (with_reducible refine LeO.ite ?_ ?_)
      | (with_reducible refine LeO.bind ?_ (fun _ => ?_))
      | exact ih0 _ _ _ _
      | exact ih1 _ _ _ _ _ _ _
      | exact LeO.none _
      | refine LeO.ite ?_ ?_
      | refine LeO.bind ?_ (fun _ => ?_)
    · intro y0 y1 y2 y3 y4 y5 y6
      unfold codec_Uint_p.j1
      repeat' first
      | (with_reducible exact ih0 _ _ _ _)
      | (with_reducible exact ih1 _ _ _ _ _ _ _)
      | (with_reducible exact LeO.refl _)
      | (with_reducible exact LeO.none _)
      | (with_reducible refine LeO.ite ?_ ?_)
      | (with_reducible refine LeO.bind ?_ (fun _ => ?_))
      | exact ih0 _ _ _ _
      | exact ih1 _ _ _ _ _ _ _
      | exact LeO.none _
      | refine LeO.ite ?_ ?_
      | refine LeO.bind ?_ (fun _ => ?_)
theorem codec_Uint_p.mono : ∀ a0 k, LeO (codec_Uint_p.f k a0) (codec_Uint_p.f (k + 1) a0) := by
  intro a0 k
  obtain ⟨ih0, ih1⟩ := codec_Uint_p.mono_l k
  unfold codec_Uint_p.f
  repeat' first
      | (with_reducible exact ih0 _ _ _ _)
      | (with_reducible exact ih1 _ _ _ _ _ _ _)
      | (with_reducible exact LeO.refl _)
      | (with_reducible exact LeO.none _)
      | (with_reducible refine LeO.ite ?_ ?_)
      | (with_reducible refine LeO.bind ?_ (fun _ => ?_))
      | exact ih0 _ _ _ _
      | exact ih1 _ _ _ _ _ _ _
      | exact LeO.none _
      | refine LeO.ite ?_ ?_
      | refine LeO.bind ?_ (fun _ => ?_)
set_option maxHeartbeats 8000000 in
set_option maxRecDepth 100000 in
theorem codec_Uint_p.calls (k : Nat) (A0 : Option Addr) (c0 : Nat) (l0 : List Int) (r1 : Int) (r2 : Int) (r3 : Int) (w : World) (hr0 : Kd.C (Kd.int .u8) w A0 l0.length l0) (hc0 : l0.length ≤ c0) (h : codec_Uint_p.f k l0 = some (r1, r2, r3)) :
    Calls Try.prog 51 #[.slice A0 l0.length c0] w fun e w' => e = .returned (.tuple #[.int .u64 r1, .int .i64 r2, .int .i64 r3]) ∧ Drawn0 w w' := by
  have HR0 := Aside0.mk hr0
  have HC0 := Aside0.mk hc0
  clear hr0 hc0
  have H : (codec_Uint_p.l0 k 0 l0 (l0.length : Int) 0) = some (r1, r2, r3) := h
  clear h
  have H' := Aside0.mk H
  clear H
  go_enter Try.func51, Try.ntmps51
  go_wp2
  go_loopg [5, 10] k (fun kq v5 v10 w' => ∃ (x5_1 : Int) (x10_1 : Int), v5 = .int .u64 x5_1 ∧ v10 = .int .i64 x10_1 ∧ Aside0 (codec_Uint_p.l0 kq x5_1 l0 (l0.length : Int) x10_1 = some (r1, r2, r3)) ∧ Aside0 (kq ≤ k) ∧ Drawn0 w w')
  case atStart => exact ⟨(0), (0), (by first | rfl | (simp; done) | (simp [*]; done)), (by first | rfl | (simp; done) | (simp [*]; done)), H', ⟨Nat.le_refl _⟩, by repeat (first | exact Drawn0.refl _ | apply Drawn0.step)⟩
  case round =>
    clear H'
    obtain ⟨x5_1, x10_1, rfl, rfl, HA, HK1, ⟨m1, rfl⟩⟩ := hrel
    cases gk with
    | zero => exact absurd HA.out (by simp [codec_Uint_p.l0])
    | succ k1 =>
      have H := HA.out
      clear HA
      simp only [codec_Uint_p.l0] at H
      by_cases c2 : x10_1 < (l0.length : Int)
      · rw [if_pos c2] at H
        have c2b0 : decide (x10_1 < (l0.length : Int)) = true := decide_eq_true c2
        clear c2
        by_cases c3 : 0 ≤ x10_1
        · rw [if_pos c3] at H
          have c3b0 : decide (0 ≤ x10_1) = true := decide_eq_true c3
          clear c3
          by_cases c4 : x10_1 < (l0.length : Int)
          · rw [if_pos c4] at H
            have c4b0 : decide (x10_1 < (l0.length : Int)) = true := decide_eq_true c4
            clear c4
            have HC5 := Aside0.mk H
            clear H
            have p202 : 0 ≤ (x10_1 : Int) := of_decide_eq_true (by first | (with_reducible assumption) | assumption)
            have q202 : x10_1 < (l0.length : Int) := of_decide_eq_true (by first | (with_reducible assumption) | assumption)
            obtain ⟨ad202, e202, hx202_0⟩ := Kd.at_int HR0.out x10_1 p202 q202
            cases e202
            replace p202 := eq_true p202
            replace q202 := eq_true q202
            go_upto_region 5 with (fail)
            (try (obtain ⟨tb1_, hTB1_⟩ : ∃ tb_ : Bool, (((rd l0 x10_1) == 0)) = tb_ := ⟨_, rfl⟩; simp only [hTB1_]; have TB1_ := Aside0.mk hTB1_; clear hTB1_))
            go_cut [28] (fun v28 wc => ∃ (kq : Nat) (x28_4 : Bool), v28 = .bool x28_4 ∧ Aside0 (codec_Uint_p.j1 kq x5_1 x10_1 (rd l0 x10_1) l0 (l0.length : Int) x10_1 x28_4 = some (r1, r2, r3)) ∧ Aside0 (kq ≤ k1) ∧ Drawn0 w wc)
            case first =>
              have H := HC5.out
              clear HC5
              by_cases c6 : (rd l0 x10_1) = 0
              · rw [if_pos c6] at H
                have c6b0 : ((rd l0 x10_1) == 0) = true := beq_iff_eq.mpr c6
                (try (obtain rfl := TB1_.out.symm.trans c6b0))
                have c6b1 : ((rd l0 x10_1) != 0) = false := bne_eq_false_iff_eq.mpr c6
                clear c6
                (first | rw [c6b0] | (simp only [i64_w, i32_w]; rw [c6b0]) | skip)
                by_cases c7 : x10_1 > 0
                · rw [if_pos c7] at H
                  have c7b0 : decide (0 < x10_1) = true := decide_eq_true c7
                  clear c7
                  have H' := Aside0.mk H
                  clear H
                  go_wp2
                  go_meet
                  case rel => exact ⟨_, (true), (by first | rfl | (simp; done) | (simp [*]; done)), H', ⟨by have := HK1.out; first | omega | exact Nat.le_refl _⟩, by repeat (first | exact Drawn0.refl _ | apply Drawn0.step)⟩
                · rw [if_neg c7] at H
                  have c7b0 : decide (0 < x10_1) = false := decide_eq_false c7
                  clear c7
                  by_cases c8 : x10_1 = 9
                  · rw [if_pos c8] at H
                    have c8b0 : (x10_1 == 9) = true := beq_iff_eq.mpr c8
                    have c8b1 : (x10_1 != 9) = false := bne_eq_false_iff_eq.mpr c8
                    clear c8
                    have H' := Aside0.mk H
                    clear H
                    go_wp2
                    go_meet
                    case rel => exact ⟨_, (((rd l0 x10_1) != 1)), (by first | rfl | (simp; done) | (simp [*]; done)), H', ⟨by have := HK1.out; first | omega | exact Nat.le_refl _⟩, by repeat (first | exact Drawn0.refl _ | apply Drawn0.step)⟩
                  · rw [if_neg c8] at H
                    have c8b0 : (x10_1 == 9) = false := beq_eq_false_iff_ne.mpr c8
                    have c8b1 : (x10_1 != 9) = true := bne_iff_ne.mpr c8
                    have H' := Aside0.mk H
                    clear H
                    go_wp2
                    go_meet
                    case rel => exact ⟨_, (false), (by first | rfl | (simp; done) | (simp [*]; done)), H', ⟨by have := HK1.out; first | omega | exact Nat.le_refl _⟩, by repeat (first | exact Drawn0.refl _ | apply Drawn0.step)⟩
              · rw [if_neg c6] at H
                have c6b0 : ((rd l0 x10_1) == 0) = false := beq_eq_false_iff_ne.mpr c6
                (try (obtain rfl := TB1_.out.symm.trans c6b0))
                have c6b1 : ((rd l0 x10_1) != 0) = true := bne_iff_ne.mpr c6
                (first | rw [c6b0] | (simp only [i64_w, i32_w]; rw [c6b0]) | skip)
                by_cases c9 : x10_1 = 9
                · rw [if_pos c9] at H
                  have c9b0 : (x10_1 == 9) = true := beq_iff_eq.mpr c9
                  have c9b1 : (x10_1 != 9) = false := bne_eq_false_iff_eq.mpr c9
                  clear c9
                  have H' := Aside0.mk H
                  clear H
                  go_wp2
                  go_meet
                  case rel => exact ⟨_, (((rd l0 x10_1) != 1)), (by first | rfl | (simp; done) | (simp [*]; done)), H', ⟨by have := HK1.out; first | omega | exact Nat.le_refl _⟩, by repeat (first | exact Drawn0.refl _ | apply Drawn0.step)⟩
                · rw [if_neg c9] at H
                  have c9b0 : (x10_1 == 9) = false := beq_eq_false_iff_ne.mpr c9
                  have c9b1 : (x10_1 != 9) = true := bne_iff_ne.mpr c9
                  have H' := Aside0.mk H
                  clear H
                  go_wp2
                  go_meet
                  case rel => exact ⟨_, (false), (by first | rfl | (simp; done) | (simp [*]; done)), H', ⟨by have := HK1.out; first | omega | exact Nat.le_refl _⟩, by repeat (first | exact Drawn0.refl _ | apply Drawn0.step)⟩
            case rest =>
              clear HC5
              try clear c2
              try clear c2b0
              try clear p2
              try clear q2
              try clear hx2
              try clear c3
              try clear c3b0
              try clear c4
              try clear c4b0
              try clear c5
              try clear c6
              try clear c6b0
              try clear c6b1
              try clear c7
              try clear c7b0
              try clear c8
              try clear c8b0
              try clear c8b1
              try clear c9
              try clear c9b0
              try clear c9b1
              try clear hx202_0
              try clear p202
              try clear q202
              obtain ⟨kq, x28_4, rfl, HA, HJ4, ⟨mc4, rfl⟩⟩ := hcut
              cases kq with
              | zero => exact absurd HA.out (by simp [codec_Uint_p.j1])
              | succ kj4 =>
                have H := HA.out
                clear HA
                simp only [codec_Uint_p.j1] at H
                by_cases c10 : x28_4 = true
                · subst c10
                  have H1 : (some (0, 0, 21)) = some (r1, r2, r3) := by rw [if_pos rfl] at H; exact H
                  clear H
                  have H := H1
                  clear H1
                  simp only [Option.some.injEq, Prod.mk.injEq] at H
                  obtain ⟨rfl, rfl, rfl⟩ := H
                  go_wp2
                  go_ret3
                  exact ⟨by first | rfl | (simp; done) | (simp [*]; done), by repeat (first | exact Drawn0.refl _ | apply Drawn0.step)⟩
                · replace c10 := Bool.eq_false_iff.mpr c10
                  subst c10
                  have H1 : (if 0 ≤ (wrap64 (7 * x10_1)) then (if (rd l0 x10_1) < 128 then (some (Go.bits .or .u64 x5_1 (shl .u64 (IntKind.u64.wrap (Go.bits .and .u8 (rd l0 x10_1) 127)) (wrap64 (7 * x10_1))), wrap64 (x10_1 + 1), 0)) else (codec_Uint_p.l0 kj4 (Go.bits .or .u64 x5_1 (shl .u64 (IntKind.u64.wrap (Go.bits .and .u8 (rd l0 x10_1) 127)) (wrap64 (7 * x10_1)))) l0 (l0.length : Int) (wrap64 (x10_1 + 1)))) else (none)) = some (r1, r2, r3) := by rw [if_neg (show ¬ (false = true) by decide)] at H; exact H
                  clear H
                  have H := H1
                  clear H1
                  obtain ⟨ji11, hji11⟩ : ∃ j_ : Int, (wrap64 (7 * x10_1)) = j_ := ⟨_, rfl⟩
                  replace H : (if 0 ≤ (ji11) then (if (rd l0 x10_1) < 128 then (some (Go.bits .or .u64 x5_1 (shl .u64 (IntKind.u64.wrap (Go.bits .and .u8 (rd l0 x10_1) 127)) (ji11)), wrap64 (x10_1 + 1), 0)) else (codec_Uint_p.l0 kj4 (Go.bits .or .u64 x5_1 (shl .u64 (IntKind.u64.wrap (Go.bits .and .u8 (rd l0 x10_1) 127)) (ji11))) l0 (l0.length : Int) (wrap64 (x10_1 + 1)))) else (none)) = some (r1, r2, r3) := by first | (rw [hji11] at H; exact H) | (simp only [hji11] at H ⊢; exact H)
                  have hji11w : (IntKind.i64.wrap (7 * x10_1)) = ji11 := (i64_w _).trans hji11
                  by_cases c12 : 0 ≤ (ji11)
                  · rw [if_pos c12] at H
                    have c12b0 := eq_true c12
                    have c12b1 : decide (0 ≤ (ji11)) = true := decide_eq_true c12
                    clear c12
                    obtain ⟨ji13, hji13⟩ : ∃ j_ : Int, (shl .u64 (IntKind.u64.wrap (Go.bits .and .u8 (rd l0 x10_1) 127)) (ji11)) = j_ := ⟨_, rfl⟩
                    replace H : (if (rd l0 x10_1) < 128 then (some (Go.bits .or .u64 x5_1 (ji13), wrap64 (x10_1 + 1), 0)) else (codec_Uint_p.l0 kj4 (Go.bits .or .u64 x5_1 (ji13)) l0 (l0.length : Int) (wrap64 (x10_1 + 1)))) = some (r1, r2, r3) := by first | (rw [hji13] at H; exact H) | (simp only [hji13] at H ⊢; exact H)
                    have hji13_ : (IntKind.u64.wrap ((IntKind.u64.wrap (Go.bits .and .u8 (rd l0 x10_1) 127)) * 2 ^ min (ji11).toNat 64)) = ji13 := hji13
                    have hji13z : (ji11) ≤ 64 → (IntKind.u64.wrap ((IntKind.u64.wrap (Go.bits .and .u8 (rd l0 x10_1) 127)) * 2 ^ (ji11).toNat)) = ji13 := shl_small hji13
                    by_cases c14 : (rd l0 x10_1) < 128
                    · rw [if_pos c14] at H
                      have c14b0 : decide ((rd l0 x10_1) < 128) = true := decide_eq_true c14
                      clear c14
                      simp only [Option.some.injEq, Prod.mk.injEq] at H
                      obtain ⟨rfl, rfl, rfl⟩ := H
                      go_wp2
                      go_ret3
                      exact ⟨by first | rfl | (simp; done) | (simp only [← hji11, ← hji13] <;> (first | rfl | simp)) | (simp [*]; done), by repeat (first | exact Drawn0.refl _ | apply Drawn0.step)⟩
                    · rw [if_neg c14] at H
                      have c14b0 : decide ((rd l0 x10_1) < 128) = false := decide_eq_false c14
                      clear c14
                      have H' := Aside0.mk H
                      clear H
                      go_wp2
                      go_roundg kj4
                      case measure => have := HK1.out; have := HJ4.out; omega
                      case rel => exact ⟨(Go.bits .or .u64 x5_1 (ji13)), (wrap64 (x10_1 + 1)), (by first | rfl | (simp; done) | (simp only [← hji13] <;> (first | rfl | simp)) | (simp [*]; done)), (by first | rfl | (simp; done) | (simp [*]; done)), H', ⟨by have := HK1.out; have := HJ4.out; omega⟩, by repeat (first | exact Drawn0.refl _ | apply Drawn0.step)⟩
                  · rw [if_neg c12] at H
                    exact absurd H (by simp)
          · rw [if_neg c4] at H
            exact absurd H (by simp)
        · rw [if_neg c3] at H
          exact absurd H (by simp)
      · rw [if_neg c2] at H
        have c2b0 : decide (x10_1 < (l0.length : Int)) = false := decide_eq_false c2
        clear c2
        simp only [Option.some.injEq, Prod.mk.injEq] at H
        obtain ⟨rfl, rfl, rfl⟩ := H
        go_wp2
        go_ret3
        exact ⟨by first | rfl | (simp; done) | (simp [*]; done), by repeat (first | exact Drawn0.refl _ | apply Drawn0.step)⟩

/-! ### codec_Uint: function 51 -/
theorem codec_Uint_ev (l : List Int) (hl : Bytes l) (hm : l.length ≤ 140737488355328) (d : Nat) : ∀ (i a : Nat), i + d = l.length → i ≤ 9 → a < 128 ^ i → Ev (fun k => codec_Uint_p.l0 k (a : Int) l (l.length : Int) (i : Int)) (i3 (uintR (l.drop i) i a)) := by
  induction d with
  | zero =>
    intro i a hi h9 ha
    refine Ev.step (f := fun _ => some (0, 0, 20)) (fun k => ?_) (by rw [List.drop_of_length_le (by omega)]; exact Ev.now _)
    simp only [codec_Uint_p.l0]
    rw [if_neg (by omega)]
  | succ d ih =>
    intro i a hi h9 ha
    have hlt : i < l.length := by omega
    have hb := hl _ (List.getElem_mem hlt)
    have hrd : rd l (i : Int) = l[i] := by simp [rd, List.getD_eq_getElem?_getD, hlt]
    rw [List.drop_eq_getElem_cons hlt]
    obtain ⟨c, hc⟩ := Int.eq_ofNat_of_zero_le hb.1
    have hw : wrap64 (7 * (i : Int)) = 7 * (i : Int) := by unfold wrap64; omega
    have hw1 : wrap64 ((i : Int) + 1) = ((i + 1 : Nat) : Int) := by unfold wrap64; omega
    have hand : IntKind.u64.wrap (Go.bits .and .u8 (c : Int) 127) = ((c % 128 : Nat) : Int) := by
      rw [own_and127 _ ⟨by omega, by omega⟩]
      simp [IntKind.wrap, IntKind.bits, IntKind.signed]
      omega
    have bad : Ev (fun k => codec_Uint_p.j1 k (a : Int) (i : Int) (rd l (i : Int)) l (l.length : Int) (i : Int) true) (i3 (0, 0, 21)) := Ev.step (f := fun _ => some (0, 0, 21)) (fun k => by simp [codec_Uint_p.j1]) (Ev.now _)
    have good : (i ≤ 8 ∨ i = 9 ∧ c = 1) → Ev (fun k => codec_Uint_p.j1 k (a : Int) (i : Int) (rd l (i : Int)) l (l.length : Int) (i : Int) false) (i3 (if (l[i] : Int) < 128 then (a + (l[i] : Int).toNat % 128 * 128 ^ i, i + 1, 0) else uintR (l.drop (i + 1)) (i + 1) (a + (l[i] : Int).toNat % 128 * 128 ^ i))) := by
      intro h8
      rw [hrd, hc, Int.toNat_natCast]
      have hacc := acc_step a (c % 128) i ha (by omega) (by omega)
      by_cases h1 : (c : Int) < 128
      · rw [if_pos h1]
        refine Ev.step (f := fun _ => some (i3 (a + c % 128 * 128 ^ i, i + 1, 0))) (fun k => ?_) (Ev.now _)
        simp only [codec_Uint_p.j1]
        rw [if_neg (by decide), if_pos (by omega), if_pos h1, hand, hw, hacc.1, hw1]
        rfl
      · rw [if_neg h1]
        refine Ev.step (f := fun k => codec_Uint_p.l0 k ((a + c % 128 * 128 ^ i : Nat) : Int) l (l.length : Int) ((i + 1 : Nat) : Int)) (fun k => ?_) (ih (i + 1) _ (by omega) (by omega) (acc_lt a (c % 128) i ha (by omega)))
        simp only [codec_Uint_p.j1]
        rw [if_neg (by decide), if_pos (by omega), if_neg h1, hand, hw, hacc.1, hw1]
    simp only [uintR]
    by_cases hz : l[i] = 0 ∧ 0 < i ∨ i = 9 ∧ l[i] ≠ 1
    · rw [if_pos hz]
      refine Ev.step (fun k => ?_) bad
      simp only [codec_Uint_p.l0]
      rw [if_pos (by omega), if_pos (by omega), if_pos (by omega)]
      by_cases h0 : l[i] = 0
      · rw [hrd, if_pos h0]
        by_cases hi0 : (i : Int) > 0
        · rw [if_pos hi0]
        · exact absurd hz (by omega)
      · rw [hrd, if_neg h0]
        have h9' : i = 9 ∧ l[i] ≠ 1 := by omega
        rw [if_pos (by omega), bne_iff_ne.mpr h9'.2]
    · rw [if_neg hz]
      refine Ev.step (fun k => ?_) (good (by omega))
      simp only [codec_Uint_p.l0]
      rw [if_pos (by omega), if_pos (by omega), if_pos (by omega)]
      by_cases h0 : l[i] = 0
      · rw [hrd, if_pos h0, if_neg (by omega), if_neg (by omega)]
      · rw [hrd, if_neg h0]
        by_cases h9' : i = 9
        · rw [if_pos (by omega)]
          have h1 : l[i] = 1 := by omega
          rw [h1]
          rfl
        · rw [if_neg (by omega)]
def codec_Uint.f (l0 : List Int) : Option (Int × Int × Int) := if okB l0 = true ∧ l0.length ≤ 140737488355328 then some (uintL l0) else none
theorem codec_Uint.calls (A0 : Option Addr) (c0 : Nat) (l0 : List Int) (r1 : Int) (r2 : Int) (r3 : Int) (w : World) (hr0 : Kd.C (Kd.int .u8) w A0 l0.length l0) (hc0 : l0.length ≤ c0) (h : codec_Uint.f l0 = some (r1, r2, r3)) :
    Calls Try.prog 51 #[.slice A0 l0.length c0] w fun e w' => e = .returned (.tuple #[.int .u64 r1, .int .i64 r2, .int .i64 r3]) ∧ Drawn0 w w' := by
  unfold codec_Uint.f at h
  split at h
  · rename_i hh
    obtain ⟨k, hk⟩ := (codec_Uint_ev l0 (okB_iff.1 hh.1) hh.2 l0.length 0 0 (by omega) (by omega) (by decide)).rounds
    exact codec_Uint_p.calls k A0 c0 l0 r1 r2 r3 w hr0 hc0 (by rw [← h]; exact hk)
  · cases h

-- NOT PRINTED: function 40 (log_reader_number)

-- NOT PRINTED: function 55 (log_reader_del)

/-! ### codec_Text: function 57 -/
def codec_Text.f (l0 : List Int) (a1 : Int) : Option (ByteArray × Int × Int) := if okB l0 = true ∧ l0.length ≤ 140737488351232 ∧ -9223372036854775808 ≤ a1 ∧ a1 ≤ 9223372036854775807 then some (textL l0 a1) else none
set_option maxHeartbeats 1000000 in
set_option maxRecDepth 100000 in
theorem codec_Text.calls (A0 : Option Addr) (c0 : Nat) (l0 : List Int) (a1 : Int) (r1 : ByteArray) (r2 : Int) (r3 : Int) (w : World) (hr0 : Kd.C (Kd.int .u8) w A0 l0.length l0) (hc0 : l0.length ≤ c0) (h : codec_Text.f l0 a1 = some (r1, r2, r3)) :
    Calls Try.prog 57 #[.slice A0 l0.length c0, .int .i64 a1] w fun e w' => e = .returned (.tuple #[.string r1, .int .i64 r2, .int .i64 r3]) ∧ Drawn0 w w' := by
  unfold codec_Text.f at h
  split at h
  · rename_i hh
    obtain ⟨hb, hl, hm1, hm2⟩ := hh
    have h := Option.some.inj h
    have HR0 := Aside0.mk hr0
    have hs := uintN_spec l0 (okB_iff.1 hb)
    have hU : codec_Uint.f l0 = some (uintL l0) := by unfold codec_Uint.f; rw [if_pos ⟨hb, by omega⟩]
    obtain ⟨n, k, e, hN, s1, s2, s3⟩ : ∃ n k e, uintN l0 = (n, k, e) ∧ n < 18446744073709551616 ∧ k ≤ l0.length ∧ k ≤ 10 := ⟨_, _, _, rfl, hs⟩
    have hL : uintL l0 = ((n : Int), (k : Int), (e : Int)) := by unfold uintL i3; rw [hN]
    rw [hL] at hU
    have HU := Aside0.mk hU
    unfold textL at h
    rw [hN] at h
    simp only at h
    have hk : IntKind.u64.wrap (wrap64 ((l0.length : Int) - (k : Int))) = (l0.length : Int) - (k : Int) := by
      rw [show wrap64 ((l0.length : Int) - (k : Int)) = (l0.length : Int) - (k : Int) by unfold wrap64; omega]
      simp [IntKind.wrap, IntKind.bits, IntKind.signed]
      omega
    have HK := Aside0.mk hk
    clear hU hr0 hs hN hL hk
    by_cases he : e = 0
    · rw [if_neg (by simpa using he)] at h
      subst he
      by_cases hmost : a1 < 0
      · rw [if_pos (.inl hmost)] at h
        simp only [Prod.mk.injEq] at h
        obtain ⟨rfl, rfl, rfl⟩ := h
        have hd : decide (a1 < 0) = true := decide_eq_true hmost
        go_enter Try.func57, Try.ntmps57
        go_wp2_with fail
        refine (codec_Uint.calls A0 c0 l0 (n : Int) (k : Int) ((0 : Nat) : Int) w HR0.out hc0 HU.out).mono ?_
        rintro e w1 ⟨rfl, ⟨m1, rfl⟩⟩
        go_wp2
        go_ret3
        exact ⟨rfl, ⟨m1, rfl⟩⟩
      · have hge : 0 ≤ a1 := by omega
        have hd : decide (a1 < 0) = false := decide_eq_false hmost
        have hwa : IntKind.u64.wrap a1 = a1 := by simp [IntKind.wrap, IntKind.bits, IntKind.signed]; omega
        by_cases hbig : (n : Int) > a1
        · rw [if_pos (.inr hbig)] at h
          simp only [Prod.mk.injEq] at h
          obtain ⟨rfl, rfl, rfl⟩ := h
          have hd2 : decide (a1 < (n : Int)) = true := decide_eq_true hbig
          have hd3 : decide (IntKind.u64.wrap a1 < (n : Int)) = true := by rw [hwa]; exact hd2
          clear hwa
          go_enter Try.func57, Try.ntmps57
          go_wp2_with fail
          refine (codec_Uint.calls A0 c0 l0 (n : Int) (k : Int) ((0 : Nat) : Int) w HR0.out hc0 HU.out).mono ?_
          rintro e w1 ⟨rfl, ⟨m1, rfl⟩⟩
          go_wp2
          go_ret3
          exact ⟨rfl, ⟨m1, rfl⟩⟩
        · rw [if_neg (by omega)] at h
          have hd2 : decide (a1 < (n : Int)) = false := decide_eq_false (by omega)
          have hd3 : decide (IntKind.u64.wrap a1 < (n : Int)) = false := by rw [hwa]; exact hd2
          clear hwa
          by_cases hs : n > l0.length - k
          · rw [if_pos hs] at h
            simp only [Prod.mk.injEq] at h
            obtain ⟨rfl, rfl, rfl⟩ := h
            have hd4 : decide ((l0.length : Int) - (k : Int) < (n : Int)) = true := decide_eq_true (by omega)
            have hd5 : decide (IntKind.u64.wrap (wrap64 ((l0.length : Int) - (k : Int))) < (n : Int)) = true := by rw [HK.out]; exact hd4
            have hd6 : decide (IntKind.u64.wrap ((l0.length : Int) - (k : Int)) < (n : Int)) = true := by have := HK.out; rw [show wrap64 ((l0.length : Int) - (k : Int)) = (l0.length : Int) - (k : Int) by unfold wrap64; omega] at this; rw [this]; exact hd4
            go_enter Try.func57, Try.ntmps57
            go_wp2_with fail
            refine (codec_Uint.calls A0 c0 l0 (n : Int) (k : Int) ((0 : Nat) : Int) w HR0.out hc0 HU.out).mono ?_
            rintro e w1 ⟨rfl, ⟨m1, rfl⟩⟩
            go_wp2
            go_ret3
            exact ⟨rfl, ⟨m1, rfl⟩⟩
          · rw [if_neg hs] at h
            simp only [Prod.mk.injEq] at h
            obtain ⟨e1, e2, rfl⟩ := h
            have E1 := Aside0.mk e1
            have E2 := Aside0.mk e2
            clear e1 e2
            have hd4 : decide ((l0.length : Int) - (k : Int) < (n : Int)) = false := decide_eq_false (by omega)
            have hd5 : decide (IntKind.u64.wrap (wrap64 ((l0.length : Int) - (k : Int))) < (n : Int)) = false := by rw [HK.out]; exact hd4
            have hd6 : decide (IntKind.u64.wrap ((l0.length : Int) - (k : Int)) < (n : Int)) = false := by have := HK.out; rw [show wrap64 ((l0.length : Int) - (k : Int)) = (l0.length : Int) - (k : Int) by unfold wrap64; omega] at this; rw [this]; exact hd4
            obtain ⟨i012, hi012, _, hsz12, _⟩ := info_parts info5
            obtain ⟨A12, hcut12, hA12, hC12⟩ := print_mid_of (P := Try.prog) (Value.int .u8) (0 : Int) 45 5 .i64 .i64 Try.underlying45 hi012 hsz12 A0 c0 l0 (k : Int) ((k : Int) + (n : Int)) (by omega) (by omega) (by omega) hc0
            have HE : Aside0 (strOfNums ((l0.take ((k : Int) + (n : Int)).toNat).drop (k : Int).toNat) = r1) := ⟨by rw [show ((k : Int) + (n : Int)).toNat = k + n by omega, Int.toNat_natCast]; exact E1.out⟩
            generalize (l0.take ((k : Int) + (n : Int)).toNat).drop (k : Int).toNat = ys at hcut12 hA12 hC12 HE
            have hR12 := Kd.C_of_reads (h1 := fun _ => rfl) (hA12 _ (Kd.reads_of_C HR0.out))
            have HR12 := Aside0.mk hR12
            clear hA12 hC12 hi012 hsz12 hR12
            go_enter Try.func57, Try.ntmps57
            go_wp2_with fail
            refine (codec_Uint.calls A0 c0 l0 (n : Int) (k : Int) ((0 : Nat) : Int) w HR0.out hc0 HU.out).mono ?_
            rintro e w1 ⟨rfl, ⟨m1, rfl⟩⟩
            have hcv13 := Kd.C_string (P := Try.prog) (w := w.drewN m1) (A := A12) (c := (c0 - k)) Try.underlying45 Try.underlying5 Try.underlying9 HR12.out
            rw [HE.out] at hcv13
            go_wp2
            repeat (go_quiet (fail); try go_wp2)
            go_ret3
            exact ⟨by rw [← E2.out]; rfl, by repeat (first | exact Drawn0.refl _ | apply Drawn0.step)⟩
    · rw [if_pos (by simpa using he)] at h
      simp only [Prod.mk.injEq] at h
      obtain ⟨rfl, rfl, rfl⟩ := h
      have hd : ((e : Int) != 0) = true := by rw [bne_iff_ne]; omega
      go_enter Try.func57, Try.ntmps57
      go_wp2_with fail
      refine (codec_Uint.calls A0 c0 l0 (n : Int) (k : Int) (e : Int) w HR0.out hc0 HU.out).mono ?_
      rintro e' w1 ⟨rfl, ⟨m1, rfl⟩⟩
      go_wp2
      go_ret3
      exact ⟨rfl, ⟨m1, rfl⟩⟩
  · cases h

-- NOT PRINTED: function 56 (log_reader_text)

-- NOT PRINTED: function 52 (log_reader_write)

-- NOT PRINTED: function 41 (log_reader_batch)

-- NOT PRINTED: function 14 (log_Get)

/-! ### screeref2_Uint_p: function 42 -/
mutual
def screeref2_Uint_p.l0 : Nat → List Int → Int → Int → Option (Int × Int × Int)
  | 0, _, _, _ => none
  | k + 1, x0, x5, x6 => if x6 < (x0.length : Int) then (if 0 ≤ x6 then (if x6 > 0 then (if (rd x0 x6) = 0 then (screeref2_Uint_p.j1 k x0 x5 x6 (rd x0 x6) true) else (if x6 = 9 then (screeref2_Uint_p.j1 k x0 x5 x6 (rd x0 x6) ((rd x0 x6) != 1)) else (screeref2_Uint_p.j1 k x0 x5 x6 (rd x0 x6) false))) else (if x6 = 9 then (screeref2_Uint_p.j1 k x0 x5 x6 (rd x0 x6) ((rd x0 x6) != 1)) else (screeref2_Uint_p.j1 k x0 x5 x6 (rd x0 x6) false))) else (none)) else (some (0, 0, 20))
def screeref2_Uint_p.j1 : Nat → List Int → Int → Int → Int → Bool → Option (Int × Int × Int)
  | 0, _, _, _, _, _ => none
  | k + 1, x0, x5, x6, x7, x31 => if x31 = true then (some (0, 0, 21)) else (if 0 ≤ (IntKind.u64.wrap (wrap64 (7 * x6))) then (if x7 < 128 then (some (Go.bits .or .u64 x5 (shl .u64 (IntKind.u64.wrap (Int.tmod x7 128)) (IntKind.u64.wrap (wrap64 (7 * x6)))), wrap64 (x6 + 1), 0)) else (screeref2_Uint_p.l0 k x0 (Go.bits .or .u64 x5 (shl .u64 (IntKind.u64.wrap (Int.tmod x7 128)) (IntKind.u64.wrap (wrap64 (7 * x6))))) (wrap64 (x6 + 1)))) else (none))
end
def screeref2_Uint_p.f (k : Nat) (l0 : List Int) : Option (Int × Int × Int) := screeref2_Uint_p.l0 k l0 0 0
theorem screeref2_Uint_p.mono_l : ∀ k, (∀ y0 y1 y2, LeO (screeref2_Uint_p.l0 k y0 y1 y2) (screeref2_Uint_p.l0 (k + 1) y0 y1 y2)) ∧ (∀ y0 y1 y2 y3 y4, LeO (screeref2_Uint_p.j1 k y0 y1 y2 y3 y4) (screeref2_Uint_p.j1 (k + 1) y0 y1 y2 y3 y4))
  | 0 => ⟨fun _ _ _ r h => by simp [screeref2_Uint_p.l0] at h, fun _ _ _ _ _ r h => by simp [screeref2_Uint_p.j1] at h⟩
  | k + 1 => by
    obtain ⟨ih0, ih1⟩ := screeref2_Uint_p.mono_l k
    refine ⟨?_, ?_⟩
    · intro y0 y1 y2
      unfold screeref2_Uint_p.l0
      repeat' first
      | (with_reducible exact ih0 _ _ _)
      | (with_reducible exact ih1 _ _ _ _ _)
      | (with_reducible exact LeO.refl _)
      | (with_reducible exact LeO.none _)
      | (with_reducible refine LeO.ite ?_ ?_)
      | (with_reducible refine LeO.bind ?_ (fun _ => ?_))
      | exact ih0 _ _ _
      | exact ih1 _ _ _ _ _
      | exact LeO.none _
      | refine LeO.ite ?_ ?_
      | refine LeO.bind ?_ (fun _ => ?_)
    · intro y0 y1 y2 y3 y4
      unfold screeref2_Uint_p.j1
      repeat' first
      | (with_reducible exact ih0 _ _ _)
      | (with_reducible exact ih1 _ _ _ _ _)
      | (with_reducible exact LeO.refl _)
      | (with_reducible exact LeO.none _)
      | (with_reducible refine LeO.ite ?_ ?_)
      | (with_reducible refine LeO.bind ?_ (fun _ => ?_))
      | exact ih0 _ _ _
      | exact ih1 _ _ _ _ _
      | exact LeO.none _
      | refine LeO.ite ?_ ?_
      | refine LeO.bind ?_ (fun _ => ?_)
theorem screeref2_Uint_p.mono : ∀ a0 k, LeO (screeref2_Uint_p.f k a0) (screeref2_Uint_p.f (k + 1) a0) := by
  intro a0 k
  obtain ⟨ih0, ih1⟩ := screeref2_Uint_p.mono_l k
  unfold screeref2_Uint_p.f
  repeat' first
      | (with_reducible exact ih0 _ _ _)
      | (with_reducible exact ih1 _ _ _ _ _)
      | (with_reducible exact LeO.refl _)
      | (with_reducible exact LeO.none _)
      | (with_reducible refine LeO.ite ?_ ?_)
      | (with_reducible refine LeO.bind ?_ (fun _ => ?_))
      | exact ih0 _ _ _
      | exact ih1 _ _ _ _ _
      | exact LeO.none _
      | refine LeO.ite ?_ ?_
      | refine LeO.bind ?_ (fun _ => ?_)
set_option maxHeartbeats 8000000 in
set_option maxRecDepth 100000 in
theorem screeref2_Uint_p.calls (k : Nat) (A0 : Option Addr) (c0 : Nat) (l0 : List Int) (r1 : Int) (r2 : Int) (r3 : Int) (w : World) (hr0 : Kd.C (Kd.int .u8) w A0 l0.length l0) (hc0 : l0.length ≤ c0) (h : screeref2_Uint_p.f k l0 = some (r1, r2, r3)) :
    Calls Try.prog 42 #[.slice A0 l0.length c0] w fun e w' => e = .returned (.tuple #[.int .u64 r1, .int .i64 r2, .int .i64 r3]) ∧ Drawn0 w w' := by
  have HR0 := Aside0.mk hr0
  have HC0 := Aside0.mk hc0
  clear hr0 hc0
  have H : (screeref2_Uint_p.l0 k l0 0 0) = some (r1, r2, r3) := h
  clear h
  have H' := Aside0.mk H
  clear H
  go_enter Try.func42, Try.ntmps42
  go_wp2
  go_loopg [5, 6] k (fun kq v5 v6 w' => ∃ (x5_1 : Int) (x6_1 : Int), v5 = .int .u64 x5_1 ∧ v6 = .int .i64 x6_1 ∧ Aside0 (screeref2_Uint_p.l0 kq l0 x5_1 x6_1 = some (r1, r2, r3)) ∧ Aside0 (kq ≤ k) ∧ Drawn0 w w')
  case atStart => exact ⟨(0), (0), (by first | rfl | (simp; done) | (simp [*]; done)), (by first | rfl | (simp; done) | (simp [*]; done)), H', ⟨Nat.le_refl _⟩, by repeat (first | exact Drawn0.refl _ | apply Drawn0.step)⟩
  case round =>
    clear H'
    obtain ⟨x5_1, x6_1, rfl, rfl, HA, HK1, ⟨m1, rfl⟩⟩ := hrel
    cases gk with
    | zero => exact absurd HA.out (by simp [screeref2_Uint_p.l0])
    | succ k1 =>
      have H := HA.out
      clear HA
      simp only [screeref2_Uint_p.l0] at H
      by_cases c2 : x6_1 < (l0.length : Int)
      · rw [if_pos c2] at H
        have c2b0 : decide (x6_1 < (l0.length : Int)) = true := decide_eq_true c2
        clear c2
        by_cases c3 : 0 ≤ x6_1
        · rw [if_pos c3] at H
          have c3b0 : decide (0 ≤ x6_1) = true := decide_eq_true c3
          clear c3
          have HC4 := Aside0.mk H
          clear H
          have p213 : 0 ≤ (x6_1 : Int) := of_decide_eq_true (by first | (with_reducible assumption) | assumption)
          have q213 : x6_1 < (l0.length : Int) := of_decide_eq_true (by first | (with_reducible assumption) | assumption)
          obtain ⟨ad213, e213, hx213_0⟩ := Kd.at_int HR0.out x6_1 p213 q213
          cases e213
          replace p213 := eq_true p213
          replace q213 := eq_true q213
          go_upto_region 6 with (fail)
          (try (obtain ⟨tb2_, hTB2_⟩ : ∃ tb_ : Bool, (decide (0 < x6_1)) = tb_ := ⟨_, rfl⟩; simp only [hTB2_]; have TB2_ := Aside0.mk hTB2_; clear hTB2_))
          go_cut [31] (fun v31 wc => ∃ (kq : Nat) (x31_3 : Bool), v31 = .bool x31_3 ∧ Aside0 (screeref2_Uint_p.j1 kq l0 x5_1 x6_1 (rd l0 x6_1) x31_3 = some (r1, r2, r3)) ∧ Aside0 (kq ≤ k1) ∧ Drawn0 w wc)
          case first =>
            have H := HC4.out
            clear HC4
            by_cases c5 : x6_1 > 0
            · rw [if_pos c5] at H
              have c5b0 : decide (0 < x6_1) = true := decide_eq_true c5
              (try (obtain rfl := TB2_.out.symm.trans c5b0))
              clear c5
              (first | rw [c5b0] | (simp only [i64_w, i32_w]; rw [c5b0]) | skip)
              by_cases c6 : (rd l0 x6_1) = 0
              · rw [if_pos c6] at H
                have c6b0 : ((rd l0 x6_1) == 0) = true := beq_iff_eq.mpr c6
                have c6b1 : ((rd l0 x6_1) != 0) = false := bne_eq_false_iff_eq.mpr c6
                clear c6
                have H' := Aside0.mk H
                clear H
                go_wp2
                go_meet
                case rel => exact ⟨_, (true), (by first | rfl | (simp; done) | (simp [*]; done)), H', ⟨by have := HK1.out; first | omega | exact Nat.le_refl _⟩, by repeat (first | exact Drawn0.refl _ | apply Drawn0.step)⟩
              · rw [if_neg c6] at H
                have c6b0 : ((rd l0 x6_1) == 0) = false := beq_eq_false_iff_ne.mpr c6
                have c6b1 : ((rd l0 x6_1) != 0) = true := bne_iff_ne.mpr c6
                by_cases c7 : x6_1 = 9
                · rw [if_pos c7] at H
                  have c7b0 : (x6_1 == 9) = true := beq_iff_eq.mpr c7
                  have c7b1 : (x6_1 != 9) = false := bne_eq_false_iff_eq.mpr c7
                  clear c7
                  have H' := Aside0.mk H
                  clear H
                  go_wp2
                  go_meet
                  case rel => exact ⟨_, (((rd l0 x6_1) != 1)), (by first | rfl | (simp; done) | (simp [*]; done)), H', ⟨by have := HK1.out; first | omega | exact Nat.le_refl _⟩, by repeat (first | exact Drawn0.refl _ | apply Drawn0.step)⟩
                · rw [if_neg c7] at H
                  have c7b0 : (x6_1 == 9) = false := beq_eq_false_iff_ne.mpr c7
                  have c7b1 : (x6_1 != 9) = true := bne_iff_ne.mpr c7
                  have H' := Aside0.mk H
                  clear H
                  go_wp2
                  go_meet
                  case rel => exact ⟨_, (false), (by first | rfl | (simp; done) | (simp [*]; done)), H', ⟨by have := HK1.out; first | omega | exact Nat.le_refl _⟩, by repeat (first | exact Drawn0.refl _ | apply Drawn0.step)⟩
            · rw [if_neg c5] at H
              have c5b0 : decide (0 < x6_1) = false := decide_eq_false c5
              (try (obtain rfl := TB2_.out.symm.trans c5b0))
              clear c5
              (first | rw [c5b0] | (simp only [i64_w, i32_w]; rw [c5b0]) | skip)
              by_cases c8 : x6_1 = 9
              · rw [if_pos c8] at H
                have c8b0 : (x6_1 == 9) = true := beq_iff_eq.mpr c8
                have c8b1 : (x6_1 != 9) = false := bne_eq_false_iff_eq.mpr c8
                clear c8
                have H' := Aside0.mk H
                clear H
                go_wp2
                go_meet
                case rel => exact ⟨_, (((rd l0 x6_1) != 1)), (by first | rfl | (simp; done) | (simp [*]; done)), H', ⟨by have := HK1.out; first | omega | exact Nat.le_refl _⟩, by repeat (first | exact Drawn0.refl _ | apply Drawn0.step)⟩
              · rw [if_neg c8] at H
                have c8b0 : (x6_1 == 9) = false := beq_eq_false_iff_ne.mpr c8
                have c8b1 : (x6_1 != 9) = true := bne_iff_ne.mpr c8
                have H' := Aside0.mk H
                clear H
                go_wp2
                go_meet
                case rel => exact ⟨_, (false), (by first | rfl | (simp; done) | (simp [*]; done)), H', ⟨by have := HK1.out; first | omega | exact Nat.le_refl _⟩, by repeat (first | exact Drawn0.refl _ | apply Drawn0.step)⟩
          case rest =>
            clear HC4
            try clear c2
            try clear c2b0
            try clear p2
            try clear q2
            try clear hx2
            try clear c3
            try clear c3b0
            try clear c4
            try clear c5
            try clear c5b0
            try clear c6
            try clear c6b0
            try clear c6b1
            try clear c7
            try clear c7b0
            try clear c7b1
            try clear c8
            try clear c8b0
            try clear c8b1
            try clear hx213_0
            try clear p213
            try clear q213
            obtain ⟨kq, x31_3, rfl, HA, HJ3, ⟨mc3, rfl⟩⟩ := hcut
            cases kq with
            | zero => exact absurd HA.out (by simp [screeref2_Uint_p.j1])
            | succ kj3 =>
              have H := HA.out
              clear HA
              simp only [screeref2_Uint_p.j1] at H
              by_cases c9 : x31_3 = true
              · subst c9
                have H1 : (some (0, 0, 21)) = some (r1, r2, r3) := by rw [if_pos rfl] at H; exact H
                clear H
                have H := H1
                clear H1
                simp only [Option.some.injEq, Prod.mk.injEq] at H
                obtain ⟨rfl, rfl, rfl⟩ := H
                go_wp2
                go_ret3
                exact ⟨by first | rfl | (simp; done) | (simp [*]; done), by repeat (first | exact Drawn0.refl _ | apply Drawn0.step)⟩
              · replace c9 := Bool.eq_false_iff.mpr c9
                subst c9
                have H1 : (if 0 ≤ (IntKind.u64.wrap (wrap64 (7 * x6_1))) then (if (rd l0 x6_1) < 128 then (some (Go.bits .or .u64 x5_1 (shl .u64 (IntKind.u64.wrap (Int.tmod (rd l0 x6_1) 128)) (IntKind.u64.wrap (wrap64 (7 * x6_1)))), wrap64 (x6_1 + 1), 0)) else (screeref2_Uint_p.l0 kj3 l0 (Go.bits .or .u64 x5_1 (shl .u64 (IntKind.u64.wrap (Int.tmod (rd l0 x6_1) 128)) (IntKind.u64.wrap (wrap64 (7 * x6_1))))) (wrap64 (x6_1 + 1)))) else (none)) = some (r1, r2, r3) := by rw [if_neg (show ¬ (false = true) by decide)] at H; exact H
                clear H
                have H := H1
                clear H1
                obtain ⟨ji10, hji10⟩ : ∃ j_ : Int, (IntKind.u64.wrap (wrap64 (7 * x6_1))) = j_ := ⟨_, rfl⟩
                replace H : (if 0 ≤ (ji10) then (if (rd l0 x6_1) < 128 then (some (Go.bits .or .u64 x5_1 (shl .u64 (IntKind.u64.wrap (Int.tmod (rd l0 x6_1) 128)) (ji10)), wrap64 (x6_1 + 1), 0)) else (screeref2_Uint_p.l0 kj3 l0 (Go.bits .or .u64 x5_1 (shl .u64 (IntKind.u64.wrap (Int.tmod (rd l0 x6_1) 128)) (ji10))) (wrap64 (x6_1 + 1)))) else (none)) = some (r1, r2, r3) := by first | (rw [hji10] at H; exact H) | (simp only [hji10] at H ⊢; exact H)
                by_cases c11 : 0 ≤ (ji10)
                · rw [if_pos c11] at H
                  have c11b0 := eq_true c11
                  have c11b1 : decide (0 ≤ (ji10)) = true := decide_eq_true c11
                  clear c11
                  obtain ⟨ji12, hji12⟩ : ∃ j_ : Int, (shl .u64 (IntKind.u64.wrap (Int.tmod (rd l0 x6_1) 128)) (ji10)) = j_ := ⟨_, rfl⟩
                  replace H : (if (rd l0 x6_1) < 128 then (some (Go.bits .or .u64 x5_1 (ji12), wrap64 (x6_1 + 1), 0)) else (screeref2_Uint_p.l0 kj3 l0 (Go.bits .or .u64 x5_1 (ji12)) (wrap64 (x6_1 + 1)))) = some (r1, r2, r3) := by first | (rw [hji12] at H; exact H) | (simp only [hji12] at H ⊢; exact H)
                  have hji12_ : (IntKind.u64.wrap ((IntKind.u64.wrap (Int.tmod (rd l0 x6_1) 128)) * 2 ^ min (ji10).toNat 64)) = ji12 := hji12
                  have hji12z : (ji10) ≤ 64 → (IntKind.u64.wrap ((IntKind.u64.wrap (Int.tmod (rd l0 x6_1) 128)) * 2 ^ (ji10).toNat)) = ji12 := shl_small hji12
                  by_cases c13 : (rd l0 x6_1) < 128
                  · rw [if_pos c13] at H
                    have c13b0 : decide ((rd l0 x6_1) < 128) = true := decide_eq_true c13
                    clear c13
                    simp only [Option.some.injEq, Prod.mk.injEq] at H
                    obtain ⟨rfl, rfl, rfl⟩ := H
                    go_wp2
                    go_ret3
                    exact ⟨by first | rfl | (simp; done) | (simp only [← hji10, ← hji12] <;> (first | rfl | simp)) | (simp [*]; done), by repeat (first | exact Drawn0.refl _ | apply Drawn0.step)⟩
                  · rw [if_neg c13] at H
                    have c13b0 : decide ((rd l0 x6_1) < 128) = false := decide_eq_false c13
                    clear c13
                    have H' := Aside0.mk H
                    clear H
                    go_wp2
                    go_roundg kj3
                    case measure => have := HK1.out; have := HJ3.out; omega
                    case rel => exact ⟨(Go.bits .or .u64 x5_1 (ji12)), (wrap64 (x6_1 + 1)), (by first | rfl | (simp; done) | (simp only [← hji12] <;> (first | rfl | simp)) | (simp [*]; done)), (by first | rfl | (simp; done) | (simp [*]; done)), H', ⟨by have := HK1.out; have := HJ3.out; omega⟩, by repeat (first | exact Drawn0.refl _ | apply Drawn0.step)⟩
                · rw [if_neg c11] at H
                  exact absurd H (by simp)
        · rw [if_neg c3] at H
          exact absurd H (by simp)
      · rw [if_neg c2] at H
        have c2b0 : decide (x6_1 < (l0.length : Int)) = false := decide_eq_false c2
        clear c2
        simp only [Option.some.injEq, Prod.mk.injEq] at H
        obtain ⟨rfl, rfl, rfl⟩ := H
        go_wp2
        go_ret3
        exact ⟨by first | rfl | (simp; done) | (simp [*]; done), by repeat (first | exact Drawn0.refl _ | apply Drawn0.step)⟩

/-! ### screeref2_Uint: function 42 -/
theorem screeref2_Uint_ev (l : List Int) (hl : Bytes l) (hm : l.length ≤ 140737488355328) (d : Nat) : ∀ (i a : Nat), i + d = l.length → i ≤ 9 → a < 128 ^ i → Ev (fun k => screeref2_Uint_p.l0 k l (a : Int) (i : Int)) (i3 (uintR (l.drop i) i a)) := by
  induction d with
  | zero =>
    intro i a hi h9 ha
    refine Ev.step (f := fun _ => some (0, 0, 20)) (fun k => ?_) (by rw [List.drop_of_length_le (by omega)]; exact Ev.now _)
    simp only [screeref2_Uint_p.l0]
    rw [if_neg (by omega)]
  | succ d ih =>
    intro i a hi h9 ha
    have hlt : i < l.length := by omega
    have hb := hl _ (List.getElem_mem hlt)
    have hrd : rd l (i : Int) = l[i] := by simp [rd, List.getD_eq_getElem?_getD, hlt]
    rw [List.drop_eq_getElem_cons hlt]
    obtain ⟨c, hc⟩ := Int.eq_ofNat_of_zero_le hb.1
    have hw : IntKind.u64.wrap (wrap64 (7 * (i : Int))) = 7 * (i : Int) := by
      rw [show wrap64 (7 * (i : Int)) = 7 * (i : Int) by unfold wrap64; omega]
      simp [IntKind.wrap, IntKind.bits, IntKind.signed]
      omega
    have hw1 : wrap64 ((i : Int) + 1) = ((i + 1 : Nat) : Int) := by unfold wrap64; omega
    have hand : IntKind.u64.wrap (Int.tmod (c : Int) 128) = ((c % 128 : Nat) : Int) := by
      rw [show Int.tmod (c : Int) 128 = ((c % 128 : Nat) : Int) from rfl]
      simp [IntKind.wrap, IntKind.bits, IntKind.signed]
      omega
    have bad : Ev (fun k => screeref2_Uint_p.j1 k l (a : Int) (i : Int) (rd l (i : Int)) true) (i3 (0, 0, 21)) := Ev.step (f := fun _ => some (0, 0, 21)) (fun k => by simp [screeref2_Uint_p.j1]) (Ev.now _)
    have good : (i ≤ 8 ∨ i = 9 ∧ c = 1) → Ev (fun k => screeref2_Uint_p.j1 k l (a : Int) (i : Int) (rd l (i : Int)) false) (i3 (if (l[i] : Int) < 128 then (a + (l[i] : Int).toNat % 128 * 128 ^ i, i + 1, 0) else uintR (l.drop (i + 1)) (i + 1) (a + (l[i] : Int).toNat % 128 * 128 ^ i))) := by
      intro h8
      rw [hrd, hc, Int.toNat_natCast]
      have hacc := acc_step a (c % 128) i ha (by omega) (by omega)
      by_cases h1 : (c : Int) < 128
      · rw [if_pos h1]
        refine Ev.step (f := fun _ => some (i3 (a + c % 128 * 128 ^ i, i + 1, 0))) (fun k => ?_) (Ev.now _)
        simp only [screeref2_Uint_p.j1]
        rw [if_neg (by decide), hw, if_pos (by omega), if_pos h1, hand, hacc.1, hw1]
        rfl
      · rw [if_neg h1]
        refine Ev.step (f := fun k => screeref2_Uint_p.l0 k l ((a + c % 128 * 128 ^ i : Nat) : Int) ((i + 1 : Nat) : Int)) (fun k => ?_) (ih (i + 1) _ (by omega) (by omega) (acc_lt a (c % 128) i ha (by omega)))
        simp only [screeref2_Uint_p.j1]
        rw [if_neg (by decide), hw, if_pos (by omega), if_neg h1, hand, hacc.1, hw1]
    simp only [uintR]
    by_cases hz : l[i] = 0 ∧ 0 < i ∨ i = 9 ∧ l[i] ≠ 1
    · rw [if_pos hz]
      refine Ev.step (fun k => ?_) bad
      simp only [screeref2_Uint_p.l0]
      rw [if_pos (by omega), if_pos (by omega)]
      by_cases hi0 : (i : Int) > 0
      · rw [if_pos hi0]
        by_cases h0 : l[i] = 0
        · rw [hrd, if_pos h0]
        · rw [hrd, if_neg h0]
          have h9' : i = 9 ∧ l[i] ≠ 1 := by omega
          rw [if_pos (by omega), bne_iff_ne.mpr h9'.2]
      · exact absurd hz (by omega)
    · rw [if_neg hz]
      refine Ev.step (fun k => ?_) (good (by omega))
      simp only [screeref2_Uint_p.l0]
      rw [if_pos (by omega), if_pos (by omega)]
      by_cases hi0 : (i : Int) > 0
      · rw [if_pos hi0, hrd, if_neg (by omega)]
        by_cases h9' : i = 9
        · rw [if_pos (by omega)]
          have h1 : l[i] = 1 := by omega
          rw [h1]
          rfl
        · rw [if_neg (by omega)]
      · rw [if_neg hi0, if_neg (by omega)]
def screeref2_Uint.f (l0 : List Int) : Option (Int × Int × Int) := if okB l0 = true ∧ l0.length ≤ 140737488355328 then some (uintL l0) else none
theorem screeref2_Uint.calls (A0 : Option Addr) (c0 : Nat) (l0 : List Int) (r1 : Int) (r2 : Int) (r3 : Int) (w : World) (hr0 : Kd.C (Kd.int .u8) w A0 l0.length l0) (hc0 : l0.length ≤ c0) (h : screeref2_Uint.f l0 = some (r1, r2, r3)) :
    Calls Try.prog 42 #[.slice A0 l0.length c0] w fun e w' => e = .returned (.tuple #[.int .u64 r1, .int .i64 r2, .int .i64 r3]) ∧ Drawn0 w w' := by
  unfold screeref2_Uint.f at h
  split at h
  · rename_i hh
    obtain ⟨k, hk⟩ := (screeref2_Uint_ev l0 (okB_iff.1 hh.1) hh.2 l0.length 0 0 (by omega) (by omega) (by decide)).rounds
    exact screeref2_Uint_p.calls k A0 c0 l0 r1 r2 r3 w hr0 hc0 (by rw [← h]; exact hk)
  · cases h

/-! ### screeref2_Text: function 53 -/
def screeref2_Text.f (l0 : List Int) (a1 : Int) : Option (ByteArray × Int × Int) := if okB l0 = true ∧ l0.length ≤ 140737488351232 ∧ -9223372036854775808 ≤ a1 ∧ a1 ≤ 9223372036854775807 then some (textL l0 a1) else none
set_option maxHeartbeats 1000000 in
set_option maxRecDepth 100000 in
theorem screeref2_Text.calls (A0 : Option Addr) (c0 : Nat) (l0 : List Int) (a1 : Int) (r1 : ByteArray) (r2 : Int) (r3 : Int) (w : World) (hr0 : Kd.C (Kd.int .u8) w A0 l0.length l0) (hc0 : l0.length ≤ c0) (h : screeref2_Text.f l0 a1 = some (r1, r2, r3)) :
    Calls Try.prog 53 #[.slice A0 l0.length c0, .int .i64 a1] w fun e w' => e = .returned (.tuple #[.string r1, .int .i64 r2, .int .i64 r3]) ∧ Drawn0 w w' := by
  unfold screeref2_Text.f at h
  split at h
  · rename_i hh
    obtain ⟨hb, hl, hm1, hm2⟩ := hh
    have h := Option.some.inj h
    have HR0 := Aside0.mk hr0
    have hs := uintN_spec l0 (okB_iff.1 hb)
    have hU : screeref2_Uint.f l0 = some (uintL l0) := by unfold screeref2_Uint.f; rw [if_pos ⟨hb, by omega⟩]
    obtain ⟨n, k, e, hN, s1, s2, s3⟩ : ∃ n k e, uintN l0 = (n, k, e) ∧ n < 18446744073709551616 ∧ k ≤ l0.length ∧ k ≤ 10 := ⟨_, _, _, rfl, hs⟩
    have hL : uintL l0 = ((n : Int), (k : Int), (e : Int)) := by unfold uintL i3; rw [hN]
    rw [hL] at hU
    have HU := Aside0.mk hU
    unfold textL at h
    rw [hN] at h
    simp only at h
    have hk : IntKind.u64.wrap (wrap64 ((l0.length : Int) - (k : Int))) = (l0.length : Int) - (k : Int) := by
      rw [show wrap64 ((l0.length : Int) - (k : Int)) = (l0.length : Int) - (k : Int) by unfold wrap64; omega]
      simp [IntKind.wrap, IntKind.bits, IntKind.signed]
      omega
    have HK := Aside0.mk hk
    clear hU hr0 hs hN hL hk
    by_cases he : e = 0
    · rw [if_neg (by simpa using he)] at h
      subst he
      by_cases hmost : a1 < 0
      · rw [if_pos (.inl hmost)] at h
        simp only [Prod.mk.injEq] at h
        obtain ⟨rfl, rfl, rfl⟩ := h
        have hd : decide (a1 < 0) = true := decide_eq_true hmost
        go_enter Try.func53, Try.ntmps53
        go_wp2_with fail
        refine (screeref2_Uint.calls A0 c0 l0 (n : Int) (k : Int) ((0 : Nat) : Int) w HR0.out hc0 HU.out).mono ?_
        rintro e w1 ⟨rfl, ⟨m1, rfl⟩⟩
        go_wp2
        go_ret3
        exact ⟨rfl, ⟨m1, rfl⟩⟩
      · have hge : 0 ≤ a1 := by omega
        have hd : decide (a1 < 0) = false := decide_eq_false hmost
        have hwa : IntKind.u64.wrap a1 = a1 := by simp [IntKind.wrap, IntKind.bits, IntKind.signed]; omega
        by_cases hbig : (n : Int) > a1
        · rw [if_pos (.inr hbig)] at h
          simp only [Prod.mk.injEq] at h
          obtain ⟨rfl, rfl, rfl⟩ := h
          have hd2 : decide (a1 < (n : Int)) = true := decide_eq_true hbig
          have hd3 : decide (IntKind.u64.wrap a1 < (n : Int)) = true := by rw [hwa]; exact hd2
          clear hwa
          go_enter Try.func53, Try.ntmps53
          go_wp2_with fail
          refine (screeref2_Uint.calls A0 c0 l0 (n : Int) (k : Int) ((0 : Nat) : Int) w HR0.out hc0 HU.out).mono ?_
          rintro e w1 ⟨rfl, ⟨m1, rfl⟩⟩
          go_wp2
          go_ret3
          exact ⟨rfl, ⟨m1, rfl⟩⟩
        · rw [if_neg (by omega)] at h
          have hd2 : decide (a1 < (n : Int)) = false := decide_eq_false (by omega)
          have hd3 : decide (IntKind.u64.wrap a1 < (n : Int)) = false := by rw [hwa]; exact hd2
          clear hwa
          by_cases hs : n > l0.length - k
          · rw [if_pos hs] at h
            simp only [Prod.mk.injEq] at h
            obtain ⟨rfl, rfl, rfl⟩ := h
            have hd4 : decide ((l0.length : Int) - (k : Int) < (n : Int)) = true := decide_eq_true (by omega)
            have hd5 : decide (IntKind.u64.wrap (wrap64 ((l0.length : Int) - (k : Int))) < (n : Int)) = true := by rw [HK.out]; exact hd4
            have hd6 : decide (IntKind.u64.wrap ((l0.length : Int) - (k : Int)) < (n : Int)) = true := by have := HK.out; rw [show wrap64 ((l0.length : Int) - (k : Int)) = (l0.length : Int) - (k : Int) by unfold wrap64; omega] at this; rw [this]; exact hd4
            go_enter Try.func53, Try.ntmps53
            go_wp2_with fail
            refine (screeref2_Uint.calls A0 c0 l0 (n : Int) (k : Int) ((0 : Nat) : Int) w HR0.out hc0 HU.out).mono ?_
            rintro e w1 ⟨rfl, ⟨m1, rfl⟩⟩
            go_wp2
            go_ret3
            exact ⟨rfl, ⟨m1, rfl⟩⟩
          · rw [if_neg hs] at h
            simp only [Prod.mk.injEq] at h
            obtain ⟨e1, e2, rfl⟩ := h
            have E1 := Aside0.mk e1
            have E2 := Aside0.mk e2
            clear e1 e2
            have hd4 : decide ((l0.length : Int) - (k : Int) < (n : Int)) = false := decide_eq_false (by omega)
            have hd5 : decide (IntKind.u64.wrap (wrap64 ((l0.length : Int) - (k : Int))) < (n : Int)) = false := by rw [HK.out]; exact hd4
            have hd6 : decide (IntKind.u64.wrap ((l0.length : Int) - (k : Int)) < (n : Int)) = false := by have := HK.out; rw [show wrap64 ((l0.length : Int) - (k : Int)) = (l0.length : Int) - (k : Int) by unfold wrap64; omega] at this; rw [this]; exact hd4
            obtain ⟨i012, hi012, _, hsz12, _⟩ := info_parts info5
            obtain ⟨A12, hcut12, hA12, hC12⟩ := print_mid_of (P := Try.prog) (Value.int .u8) (0 : Int) 45 5 .i64 .i64 Try.underlying45 hi012 hsz12 A0 c0 l0 (k : Int) ((k : Int) + (n : Int)) (by omega) (by omega) (by omega) hc0
            have HE : Aside0 (strOfNums ((l0.take ((k : Int) + (n : Int)).toNat).drop (k : Int).toNat) = r1) := ⟨by rw [show ((k : Int) + (n : Int)).toNat = k + n by omega, Int.toNat_natCast]; exact E1.out⟩
            generalize (l0.take ((k : Int) + (n : Int)).toNat).drop (k : Int).toNat = ys at hcut12 hA12 hC12 HE
            have hR12 := Kd.C_of_reads (h1 := fun _ => rfl) (hA12 _ (Kd.reads_of_C HR0.out))
            have HR12 := Aside0.mk hR12
            clear hA12 hC12 hi012 hsz12 hR12
            go_enter Try.func53, Try.ntmps53
            go_wp2_with fail
            refine (screeref2_Uint.calls A0 c0 l0 (n : Int) (k : Int) ((0 : Nat) : Int) w HR0.out hc0 HU.out).mono ?_
            rintro e w1 ⟨rfl, ⟨m1, rfl⟩⟩
            have hcv13 := Kd.C_string (P := Try.prog) (w := w.drewN m1) (A := A12) (c := (c0 - k)) Try.underlying45 Try.underlying5 Try.underlying9 HR12.out
            rw [HE.out] at hcv13
            go_wp2
            repeat (go_quiet (fail); try go_wp2)
            go_ret3
            exact ⟨by rw [← E2.out]; rfl, by repeat (first | exact Drawn0.refl _ | apply Drawn0.step)⟩
    · rw [if_pos (by simpa using he)] at h
      simp only [Prod.mk.injEq] at h
      obtain ⟨rfl, rfl, rfl⟩ := h
      have hd : ((e : Int) != 0) = true := by rw [bne_iff_ne]; omega
      go_enter Try.func53, Try.ntmps53
      go_wp2_with fail
      refine (screeref2_Uint.calls A0 c0 l0 (n : Int) (k : Int) (e : Int) w HR0.out hc0 HU.out).mono ?_
      rintro e' w1 ⟨rfl, ⟨m1, rfl⟩⟩
      go_wp2
      go_ret3
      exact ⟨rfl, ⟨m1, rfl⟩⟩
  · cases h

end Go.Proofs.Ytnamanalacjhnaa.QGt
