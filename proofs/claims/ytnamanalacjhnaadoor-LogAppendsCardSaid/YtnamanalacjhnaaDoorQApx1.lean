-- Printed by a program of this claim's own out of the translation.
import Derived.Test.YtnamanalacjhnaaDoorQApx0
namespace Go.Proofs.YtnamanalacjhnaaDoor.QAp
open Go.Proofs.YtnamanalacjhnaaDoor.Own
open Go.RowKit Go.Proofs.YtnamanalacjhnaaDoorW.PrintWords Go.Proofs.YtnamanalacjhnaaDoorW.PrintLast Go.Proofs.YtnamanalacjhnaaDoorW.PrintMore
attribute [local go_sem] max2_int min2_int max_two min_two max_three min_three max_four min_four   -- for this text's walks alone
set_option linter.unusedVariables false
set_option linter.unusedSimpArgs false

/-! ### screeroom_lot: function 60 -/
def screeroom_lot.f (a0 : Int) : Option (Int) := if (Int.tmod a0 2) = 0 then (some (-7701)) else (some (-7702))
set_option maxHeartbeats 8000000 in
set_option maxRecDepth 100000 in
theorem screeroom_lot.calls (a0 : Int) (r : Int) (w : World) (h : screeroom_lot.f a0 = some r) :
    Calls Tryd.prog 60 #[.int .i64 a0] w fun e w' => e = .returned (.int .i64 r) ∧ Drawn0 w w' := by
  have H : (if (Int.tmod a0 2) = 0 then (some (-7701)) else (some (-7702))) = some r := h
  clear h
  by_cases c2 : (Int.tmod a0 2) = 0
  · rw [if_pos c2] at H
    have c2b0 : ((Int.tmod a0 2) == 0) = true := beq_iff_eq.mpr c2
    have c2b1 : ((Int.tmod a0 2) != 0) = false := bne_eq_false_iff_eq.mpr c2
    clear c2
    obtain rfl := Option.some.inj H
    go_enter Tryd.func60, Tryd.ntmps60
    go_wp2
    go_ret
    exact ⟨by first | rfl | (simp; done) | (simp [*]; done), by repeat (first | exact Drawn0.refl _ | apply Drawn0.step)⟩
  · rw [if_neg c2] at H
    have c2b0 : ((Int.tmod a0 2) == 0) = false := beq_eq_false_iff_ne.mpr c2
    have c2b1 : ((Int.tmod a0 2) != 0) = true := bne_iff_ne.mpr c2
    obtain rfl := Option.some.inj H
    go_enter Tryd.func60, Tryd.ntmps60
    go_wp2
    go_ret
    exact ⟨by first | rfl | (simp; done) | (simp [*]; done), by repeat (first | exact Drawn0.refl _ | apply Drawn0.step)⟩

-- NOT PRINTED: function 28 (screeroom_Room_layBytes)

-- NOT PRINTED: function 9 (screeroom_Room_Bytes)

/-! ### screelaw7_same_p: function 10 -/
def screelaw7_same_p.l0 : Nat → List Int → List Int → Int → Option (Bool)
  | 0, _, _, _ => none
  | k + 1, x0, x1, x5 => if x5 < (x0.length : Int) then (if 0 ≤ x5 then (if x5 < (x1.length : Int) then (if (rd x0 x5) = (rd x1 x5) then (screelaw7_same_p.l0 k x0 x1 (wrap64 (x5 + 1))) else (some false)) else (none)) else (none)) else (some true)
def screelaw7_same_p.f (k : Nat) (l0 : List Int) (l1 : List Int) : Option (Bool) := if (l0.length : Int) = (l1.length : Int) then (screelaw7_same_p.l0 k l0 l1 0) else (some false)
theorem screelaw7_same_p.mono_l : ∀ k, (∀ y0 y1 y2, LeO (screelaw7_same_p.l0 k y0 y1 y2) (screelaw7_same_p.l0 (k + 1) y0 y1 y2))
  | 0 => fun _ _ _ r h => by simp [screelaw7_same_p.l0] at h
  | k + 1 => by
    have ih0 := screelaw7_same_p.mono_l k
    · intro y0 y1 y2
      unfold screelaw7_same_p.l0
      repeat' first
      | (with_reducible exact ih0 _ _ _)
      | (with_reducible exact LeO.refl _)
      | (with_reducible exact LeO.none _)
      | (with_reducible refine LeO.ite ?_ ?_)
      | (with_reducible refine LeO.bind ?_ (fun _ => ?_))
      | exact ih0 _ _ _
      | exact LeO.none _
      | refine LeO.ite ?_ ?_
      | refine LeO.bind ?_ (fun _ => ?_)
theorem screelaw7_same_p.mono : ∀ a0 a1 k, LeO (screelaw7_same_p.f k a0 a1) (screelaw7_same_p.f (k + 1) a0 a1) := by
  intro a0 a1 k
  have ih0 := screelaw7_same_p.mono_l k
  unfold screelaw7_same_p.f
  repeat' first
      | (with_reducible exact ih0 _ _ _)
      | (with_reducible exact LeO.refl _)
      | (with_reducible exact LeO.none _)
      | (with_reducible refine LeO.ite ?_ ?_)
      | (with_reducible refine LeO.bind ?_ (fun _ => ?_))
      | exact ih0 _ _ _
      | exact LeO.none _
      | refine LeO.ite ?_ ?_
      | refine LeO.bind ?_ (fun _ => ?_)
set_option maxHeartbeats 8000000 in
set_option maxRecDepth 100000 in
theorem screelaw7_same_p.calls (k : Nat) (A0 : Option Addr) (c0 : Nat) (l0 : List Int) (A1 : Option Addr) (c1 : Nat) (l1 : List Int) (r : Bool) (w : World) (hr0 : Kd.C (Kd.int .u8) w A0 l0.length l0) (hc0 : l0.length ≤ c0) (hr1 : Kd.C (Kd.int .u8) w A1 l1.length l1) (hc1 : l1.length ≤ c1) (h : screelaw7_same_p.f k l0 l1 = some r) :
    Calls Tryd.prog 10 #[.slice A0 l0.length c0, .slice A1 l1.length c1] w fun e w' => e = .returned (.bool r) ∧ Drawn0 w w' := by
  have HR0 := Aside0.mk hr0
  have HC0 := Aside0.mk hc0
  clear hr0 hc0
  have HR1 := Aside0.mk hr1
  have HC1 := Aside0.mk hc1
  clear hr1 hc1
  have H : (if (l0.length : Int) = (l1.length : Int) then (screelaw7_same_p.l0 k l0 l1 0) else (some false)) = some r := h
  clear h
  by_cases c3 : (l0.length : Int) = (l1.length : Int)
  · rw [if_pos c3] at H
    have c3b0 : ((l0.length : Int) == (l1.length : Int)) = true := beq_iff_eq.mpr c3
    have c3b1 : ((l0.length : Int) != (l1.length : Int)) = false := bne_eq_false_iff_eq.mpr c3
    have c3b2 : (l0.length == l1.length) = true := by first | simpa using c3 | (simp at c3 ⊢; omega)
    clear c3
    have H' := Aside0.mk H
    clear H
    go_enter Tryd.func10, Tryd.ntmps10
    go_wp2
    repeat (go_quiet (fail); try go_wp2)
    go_loopg [5] k (fun kq v5 w' => ∃ (x5_1 : Int), v5 = .int .i64 x5_1 ∧ Aside0 (screelaw7_same_p.l0 kq l0 l1 x5_1 = some r) ∧ Aside0 (kq ≤ k) ∧ Drawn0 w w')
    case atStart => exact ⟨(0), (by first | rfl | (simp; done) | (simp [*]; done)), H', ⟨Nat.le_refl _⟩, by repeat (first | exact Drawn0.refl _ | apply Drawn0.step)⟩
    case round =>
      clear H'
      try clear c1
      try clear p2
      try clear c3
      try clear c3b0
      try clear c3b1
      try clear c3b2
      obtain ⟨x5_1, rfl, HA, HK1, ⟨m1, rfl⟩⟩ := hrel
      cases gk with
      | zero => exact absurd HA.out (by simp [screelaw7_same_p.l0])
      | succ k1 =>
        have H := HA.out
        clear HA
        simp only [screelaw7_same_p.l0] at H
        by_cases c4 : x5_1 < (l0.length : Int)
        · rw [if_pos c4] at H
          have c4b0 : decide (x5_1 < (l0.length : Int)) = true := decide_eq_true c4
          clear c4
          by_cases c5 : 0 ≤ x5_1
          · rw [if_pos c5] at H
            have c5b0 : decide (0 ≤ x5_1) = true := decide_eq_true c5
            clear c5
            by_cases c6 : x5_1 < (l1.length : Int)
            · rw [if_pos c6] at H
              have c6b0 : decide (x5_1 < (l1.length : Int)) = true := decide_eq_true c6
              clear c6
              by_cases c7 : (rd l0 x5_1) = (rd l1 x5_1)
              · rw [if_pos c7] at H
                have c7b0 : ((rd l0 x5_1) == (rd l1 x5_1)) = true := beq_iff_eq.mpr c7
                have c7b1 : ((rd l0 x5_1) != (rd l1 x5_1)) = false := bne_eq_false_iff_eq.mpr c7
                clear c7
                have H' := Aside0.mk H
                clear H
                have p111 : 0 ≤ (x5_1 : Int) := of_decide_eq_true (by first | (with_reducible assumption) | assumption)
                have q111 : x5_1 < (l0.length : Int) := of_decide_eq_true (by first | (with_reducible assumption) | assumption)
                obtain ⟨ad111, e111, hx111_0⟩ := Kd.at_int HR0.out x5_1 p111 q111
                cases e111
                replace p111 := eq_true p111
                replace q111 := eq_true q111
                have p112 : 0 ≤ (x5_1 : Int) := of_decide_eq_true (by first | (with_reducible assumption) | assumption)
                have q112 : x5_1 < (l1.length : Int) := of_decide_eq_true (by first | (with_reducible assumption) | assumption)
                obtain ⟨ad112, e112, hx112_0⟩ := Kd.at_int HR1.out x5_1 p112 q112
                cases e112
                replace p112 := eq_true p112
                replace q112 := eq_true q112
                go_wp2
                repeat (go_quiet (fail); try go_wp2)
                go_roundg k1
                case measure => have := HK1.out; omega
                case rel => exact ⟨(wrap64 (x5_1 + 1)), (by first | rfl | (simp; done) | (simp [*]; done)), H', ⟨by have := HK1.out; omega⟩, by repeat (first | exact Drawn0.refl _ | apply Drawn0.step)⟩
              · rw [if_neg c7] at H
                have c7b0 : ((rd l0 x5_1) == (rd l1 x5_1)) = false := beq_eq_false_iff_ne.mpr c7
                have c7b1 : ((rd l0 x5_1) != (rd l1 x5_1)) = true := bne_iff_ne.mpr c7
                obtain rfl := Option.some.inj H
                have p111 : 0 ≤ (x5_1 : Int) := of_decide_eq_true (by first | (with_reducible assumption) | assumption)
                have q111 : x5_1 < (l0.length : Int) := of_decide_eq_true (by first | (with_reducible assumption) | assumption)
                obtain ⟨ad111, e111, hx111_0⟩ := Kd.at_int HR0.out x5_1 p111 q111
                cases e111
                replace p111 := eq_true p111
                replace q111 := eq_true q111
                have p112 : 0 ≤ (x5_1 : Int) := of_decide_eq_true (by first | (with_reducible assumption) | assumption)
                have q112 : x5_1 < (l1.length : Int) := of_decide_eq_true (by first | (with_reducible assumption) | assumption)
                obtain ⟨ad112, e112, hx112_0⟩ := Kd.at_int HR1.out x5_1 p112 q112
                cases e112
                replace p112 := eq_true p112
                replace q112 := eq_true q112
                go_wp2
                repeat (go_quiet (fail); try go_wp2)
                go_ret
                exact ⟨by first | rfl | (simp; done) | (simp [*]; done), by repeat (first | exact Drawn0.refl _ | apply Drawn0.step)⟩
            · rw [if_neg c6] at H
              exact absurd H (by simp)
          · rw [if_neg c5] at H
            exact absurd H (by simp)
        · rw [if_neg c4] at H
          have c4b0 : decide (x5_1 < (l0.length : Int)) = false := decide_eq_false c4
          clear c4
          obtain rfl := Option.some.inj H
          go_wp2
          repeat (go_quiet (fail); try go_wp2)
          go_ret
          exact ⟨by first | rfl | (simp; done) | (simp [*]; done), by repeat (first | exact Drawn0.refl _ | apply Drawn0.step)⟩
  · rw [if_neg c3] at H
    have c3b0 : ((l0.length : Int) == (l1.length : Int)) = false := beq_eq_false_iff_ne.mpr c3
    have c3b1 : ((l0.length : Int) != (l1.length : Int)) = true := bne_iff_ne.mpr c3
    have c3b2 : (l0.length == l1.length) = false := by first | simpa using c3 | (simp at c3 ⊢; omega)
    obtain rfl := Option.some.inj H
    go_enter Tryd.func10, Tryd.ntmps10
    go_wp2
    repeat (go_quiet (fail); try go_wp2)
    go_ret
    exact ⟨by first | rfl | (simp; done) | (simp [*]; done), by repeat (first | exact Drawn0.refl _ | apply Drawn0.step)⟩

/-! ### screelaw7_same: function 10 -/
theorem screelaw7_same_ev (l1 l2 : List Int) (hlen : l1.length = l2.length) (hm : l1.length ≤ 9223372036854775807) (d : Nat) : ∀ i : Nat, i + d = l1.length → Ev (fun k => screelaw7_same_p.l0 k l1 l2 (i : Int)) (decide (l1.drop i = l2.drop i)) := by
  induction d with
  | zero =>
    intro i hi
    refine Ev.step (f := fun _ => some true) (fun k => ?_) (by rw [List.drop_of_length_le (by omega), List.drop_of_length_le (by omega)]; exact Ev.now _)
    simp only [screelaw7_same_p.l0]
    rw [if_neg (by omega)]
  | succ d ih =>
    intro i hi
    have h1 : i < l1.length := by omega
    have h2 : i < l2.length := by omega
    have e1 : rd l1 (i : Int) = l1[i] := by simp [rd, List.getD_eq_getElem?_getD, h1]
    have e2 : rd l2 (i : Int) = l2[i] := by simp [rd, List.getD_eq_getElem?_getD, h2]
    rw [List.drop_eq_getElem_cons h1, List.drop_eq_getElem_cons h2]
    by_cases h : l1[i] = l2[i]
    · have hd : decide (l1[i] :: l1.drop (i + 1) = l2[i] :: l2.drop (i + 1)) = decide (l1.drop (i + 1) = l2.drop (i + 1)) := decide_eq_decide.2 ⟨fun e => (List.cons.inj e).2, fun e => by rw [h, e]⟩
      rw [hd]
      refine Ev.step (fun k => ?_) (ih (i + 1) (by omega))
      simp only [screelaw7_same_p.l0]
      rw [if_pos (by omega), if_pos (by omega), if_pos (by omega), e1, e2, if_pos h, show wrap64 ((i : Int) + 1) = ((i + 1 : Nat) : Int) by unfold wrap64; omega]
    · have hd : decide (l1[i] :: l1.drop (i + 1) = l2[i] :: l2.drop (i + 1)) = false := decide_eq_false (fun e => h (List.cons.inj e).1)
      rw [hd]
      refine Ev.step (f := fun _ => some false) (fun k => ?_) (Ev.now _)
      simp only [screelaw7_same_p.l0]
      rw [if_pos (by omega), if_pos (by omega), if_pos (by omega), e1, e2, if_neg h]
def screelaw7_same.f (l0 : List Int) (l1 : List Int) : Option (Bool) := if l0.length ≤ 9223372036854775807 then some (decide (l0 = l1)) else none
theorem screelaw7_same.calls (A0 : Option Addr) (c0 : Nat) (l0 : List Int) (A1 : Option Addr) (c1 : Nat) (l1 : List Int) (r : Bool) (w : World) (hr0 : Kd.C (Kd.int .u8) w A0 l0.length l0) (hc0 : l0.length ≤ c0) (hr1 : Kd.C (Kd.int .u8) w A1 l1.length l1) (hc1 : l1.length ≤ c1) (h : screelaw7_same.f l0 l1 = some r) :
    Calls Tryd.prog 10 #[.slice A0 l0.length c0, .slice A1 l1.length c1] w fun e w' => e = .returned (.bool r) ∧ Drawn0 w w' := by
  unfold screelaw7_same.f at h
  split at h
  · rename_i hh
    by_cases hlen : l0.length = l1.length
    · obtain ⟨k, hk⟩ := (screelaw7_same_ev l0 l1 hlen hh l0.length 0 (by omega)).rounds
      refine screelaw7_same_p.calls k A0 c0 l0 A1 c1 l1 r w hr0 hc0 hr1 hc1 ?_
      unfold screelaw7_same_p.f
      rw [if_pos (by omega)]
      rw [← h]
      exact hk
    · refine screelaw7_same_p.calls 0 A0 c0 l0 A1 c1 l1 r w hr0 hc0 hr1 hc1 ?_
      unfold screelaw7_same_p.f
      rw [if_neg (by omega), ← h]
      have : ¬ l0 = l1 := fun e => hlen (by rw [e])
      simp [this]
  · cases h

/-! ### log_room_p: function 29 -/
def log_room_p.f (a0 : Int) : Option (Int) := some (wrap64 (512 - (Int.tmod a0 512)))
set_option maxHeartbeats 8000000 in
set_option maxRecDepth 100000 in
theorem log_room_p.calls (a0 : Int) (r : Int) (w : World) (h : log_room_p.f a0 = some r) :
    Calls Tryd.prog 29 #[.int .i64 a0] w fun e w' => e = .returned (.int .i64 r) ∧ Drawn0 w w' := by
  have H : (some (wrap64 (512 - (Int.tmod a0 512)))) = some r := h
  clear h
  obtain rfl := Option.some.inj H
  go_enter Tryd.func29, Tryd.ntmps29
  go_wp2
  go_ret
  exact ⟨by first | rfl | (simp; done) | (simp [*]; done), by repeat (first | exact Drawn0.refl _ | apply Drawn0.step)⟩

/-! ### log_room: function 29 -/
open Go.Proofs.YtnamanalacjhnaaDoor.Lg Go.Proofs.YtnamanalacjhnaaDoor.G
theorem tm (x : Int) (p : Nat) (h0 : 0 ≤ x) (h1 : x < 9223372036854775808 + 1125899906842624) (hp : x % 512 = (p : Int)) (h : x < 9223372036854775808 ∨ p = 0) : Int.tmod (wrap64 x) 512 = (p : Int) := by
  by_cases hx : x < 9223372036854775808
  · have e : wrap64 x = x := by unfold wrap64; omega
    rw [e, Int.tmod_eq_emod_of_nonneg h0, hp]
  · have e : wrap64 x = -(18446744073709551616 - x) := by unfold wrap64; omega
    rw [e, Int.neg_tmod, Int.tmod_eq_emod_of_nonneg (by omega)]
    omega
theorem room_eq (x : Int) (p : Nat) (h : Int.tmod x 512 = (p : Int)) (hp : p ≤ 511) : log_room_p.f x = some ((512 - p : Nat) : Int) := by
  unfold log_room_p.f
  rw [h]
  congr 1
  unfold wrap64
  omega
def log_room.f (a0 : Int) : Option Int := log_room_p.f a0
theorem log_room.calls (a0 : Int) (r : Int) (w : World) (h : log_room.f a0 = some r) : Calls Tryd.prog 29 #[.int .i64 a0] w fun e w' => e = .returned (.int .i64 r) ∧ Drawn0 w w' := log_room_p.calls a0 r w h

/-! ### log_four: function 61 -/
def log_four.f (a0 : Int) : Option (List Int) := some (([(a0) % 256, (a0 / 256) % 256, (a0 / 65536) % 256, (a0 / 16777216) % 256] : List Int))
set_option maxHeartbeats 8000000 in
set_option maxRecDepth 100000 in
theorem log_four.calls (a0 : Int) (r : List Int) (w : World) (h : log_four.f a0 = some r) :
    Calls Tryd.prog 61 #[.int .u32 a0] w fun e w' => ∃ v0_ : Value, e = .returned (v0_) ∧ Kd.R (Kd.int .u8) 5 w' w.heap.size (fun _ => True) v0_ r ∧ Below w.heap.size w w' := by
  have HB := Aside0.mk (Below.refl w.heap.size w)
  have H : (some (([(a0) % 256, (a0 / 256) % 256, (a0 / 65536) % 256, (a0 / 16777216) % 256] : List Int))) = some r := h
  clear h
  obtain ⟨y113, hy113⟩ : ∃ y_ : List Int, y_ = (([(a0) % 256, (a0 / 256) % 256, (a0 / 65536) % 256, (a0 / 16777216) % 256] : List Int)) := ⟨_, rfl⟩
  replace H : (some y113) = some r := by first | (rw [hy113]; with_reducible exact H) | (have H2_ := (Option.bind_some _ _).symm.trans H; rw [hy113]; with_reducible exact H2_) | (have H2_ := (Option.bind_some _ _).symm.trans H; with_reducible exact H2_) | with_reducible exact H | (rw [hy113]; exact H) | exact H
  have Ny113 := Aside0.mk hy113
  clear hy113
  obtain rfl := Option.some.inj H
  go_enter Tryd.func61, Tryd.ntmps61
  go_wp2_with (first | ((with_reducible refine gate_dst (N := 14) rfl ?_); refine Kd.R_lit (Kd.int .u8) _ 5 ?hg (N := 14) ?hd (xs := ([(a0) % 256, (a0 / 256) % 256, (a0 / 65536) % 256, (a0 / 16777216) % 256] : List Int)) (inner := [.int .u8 ((a0) % 256), .int .u8 ((a0 / 256) % 256), .int .u8 ((a0 / 65536) % 256), .int .u8 ((a0 / 16777216) % 256)]) (ok := fun _ => True) (okp := fun _ => True) ?hr ?hp (fun _ hk => hk) trivial (Below.refl _ _) (Nat.le_refl _) (by simp) ?_; (case hd => rfl); (case hg => rfl); (case hr => first | (go_simp; done) | (go_simp; rfl)); (case hp => exact (Reps.one (show Kd.M (Kd.int .u8) _ _ _ ((a0) % 256) [.int .u8 ((a0) % 256)] from rfl) (Reps.one (show Kd.M (Kd.int .u8) _ _ _ ((a0 / 256) % 256) [.int .u8 ((a0 / 256) % 256)] from rfl) (Reps.one (show Kd.M (Kd.int .u8) _ _ _ ((a0 / 65536) % 256) [.int .u8 ((a0 / 65536) % 256)] from rfl) (Reps.one (show Kd.M (Kd.int .u8) _ _ _ ((a0 / 16777216) % 256) [.int .u8 ((a0 / 16777216) % 256)] from rfl) (Reps.none _ _)))))); intro v114 w2 ho3 hb hg_ hnew_; clear hg_ hnew_; (first | rw [← Ny113.out] at ho3 | (simp only [Int.reduceToNat] at ho3; rw [← Ny113.out] at ho3)); have n0_ := Aside0.mk (Kd.R_lower ho3 (below_size (by repeat (first | (with_reducible first | exact HB.out | apply below_alloc | apply pw_below_drewN | apply below_drew1) | exact HB.out)))); have n1_ := Aside0.mk (below_step (by repeat (first | (with_reducible first | exact HB.out | apply below_alloc | apply pw_below_drewN | apply below_drew1) | exact HB.out)) hb); clear HB; have HO115 := n0_; have HB := n1_; clear n0_ n1_; clear hb ho3))
  go_ret
  exact ⟨_, by first | rfl | (simp [errW_none, errW_some] <;> rfl) | (simp [*, errW_none, errW_some] <;> rfl), by (with_reducible repeat (first | apply Kd.R_alloc | apply Kd.R_drewN | apply Kd.R_drew)); exact HO115.out, by repeat (first | (with_reducible first | exact HB.out | apply below_alloc | apply pw_below_drewN | apply below_drew1) | exact HB.out)⟩

/-! ### codec_Sum: function 62 -/
open Go.Proofs.YtnamanalacjhnaaDoor.G
def codec_Sum.f (l0 : List Int) : Option Int := if okB l0 = true then some (sumF l0) else none
theorem codec_Sum.calls (A0 : Option Addr) (c0 : Nat) (l0 : List Int) (r : Int) (w : World) (hr0 : Kd.C (Kd.int .u8) w A0 l0.length l0) (hc0 : l0.length ≤ c0) (h : codec_Sum.f l0 = some r) (hT_ : GT w) :
    Calls Tryd.prog 62 #[.slice A0 l0.length c0] w fun e w' => e = .returned (.int .u32 r) ∧ w' = w := by
  unfold codec_Sum.f at h
  split at h
  · rename_i hh
    rw [← Option.some.inj h]
    exact Go.Proofs.YtnamanalacjhnaaDoor.G.sum_calls A0 c0 l0 w hr0 hc0 (okB_iff.1 hh) hT_
  · cases h

/-! ### log_piece_p: function 30 -/
def log_piece_p.f (a0 : Int) (l1 : List Int) : Option (List Int) := (some (([((l1.length : Int)) % 256, ((l1.length : Int) / 256) % 256, (a0) % 256] : List Int) : List Int)).bind fun y116 => (if y116.length + l1.length < 140737488355328 then ((some (y116 ++ l1 : List Int)).bind fun y119 => ((codec_Sum.f y119).bind fun t122 => ((log_four.f t122).bind fun t123 => (if t123.length + y119.length < 140737488355328 then (some (t123 ++ y119)) else (none))))) else (none))
set_option maxHeartbeats 8000000 in
set_option maxRecDepth 100000 in
theorem log_piece_p.calls (a0 : Int) (A1 : Option Addr) (c1 : Nat) (l1 : List Int) (r : List Int) (w : World) (hr1 : Kd.C (Kd.int .u8) w A1 l1.length l1) (hc1 : l1.length ≤ c1) (h : log_piece_p.f a0 l1 = some r) (hT_ : GT w) :
    Calls Tryd.prog 30 #[.int .i64 a0, .slice A1 l1.length c1] w fun e w' => ∃ v0_ : Value, e = .returned (v0_) ∧ Kd.R (Kd.int .u8) 5 w' w.heap.size (fun _ => True) v0_ r ∧ Below w.heap.size w w' := by
  have HT_ := Aside0.mk hT_
  clear hT_
  have HR1 := Aside0.mk hr1
  have HC1 := Aside0.mk hc1
  clear hr1 hc1
  have HB := Aside0.mk (Below.refl w.heap.size w)
  have H : ((some (([((l1.length : Int)) % 256, ((l1.length : Int) / 256) % 256, (a0) % 256] : List Int) : List Int)).bind fun y116 => (if y116.length + l1.length < 140737488355328 then ((some (y116 ++ l1 : List Int)).bind fun y119 => ((codec_Sum.f y119).bind fun t122 => ((log_four.f t122).bind fun t123 => (if t123.length + y119.length < 140737488355328 then (some (t123 ++ y119)) else (none))))) else (none))) = some r := h
  clear h
  obtain ⟨y116, hy116⟩ : ∃ y_ : List Int, y_ = (([((l1.length : Int)) % 256, ((l1.length : Int) / 256) % 256, (a0) % 256] : List Int)) := ⟨_, rfl⟩
  replace H : (if y116.length + l1.length < 140737488355328 then ((some (y116 ++ l1 : List Int)).bind fun y119 => ((codec_Sum.f y119).bind fun t122 => ((log_four.f t122).bind fun t123 => (if t123.length + y119.length < 140737488355328 then (some (t123 ++ y119)) else (none))))) else (none)) = some r := by first | (rw [hy116]; with_reducible exact H) | (have H2_ := (Option.bind_some _ _).symm.trans H; rw [hy116]; with_reducible exact H2_) | (have H2_ := (Option.bind_some _ _).symm.trans H; with_reducible exact H2_) | with_reducible exact H | (rw [hy116]; exact H) | exact H
  have Ny116 := Aside0.mk hy116
  clear hy116
  by_cases c3 : y116.length + l1.length < 140737488355328
  · rw [if_pos c3] at H
    have LMc3 := Aside0.mk c3
    clear c3
    obtain ⟨y119, hy119⟩ : ∃ y_ : List Int, y_ = (y116 ++ l1) := ⟨_, rfl⟩
    replace H : ((codec_Sum.f y119).bind fun t122 => ((log_four.f t122).bind fun t123 => (if t123.length + y119.length < 140737488355328 then (some (t123 ++ y119)) else (none)))) = some r := by first | (rw [hy119]; with_reducible exact H) | (have H2_ := (Option.bind_some _ _).symm.trans H; rw [hy119]; with_reducible exact H2_) | (have H2_ := (Option.bind_some _ _).symm.trans H; with_reducible exact H2_) | with_reducible exact H | (rw [hy119]; exact H) | exact H
    have Ny119 := Aside0.mk hy119
    clear hy119
    replace H := Option.bind_eq_some_iff.mp H
    obtain ⟨t122, A40, H⟩ := H
    replace H : ((log_four.f t122).bind fun t123 => (if t123.length + y119.length < 140737488355328 then (some (t123 ++ y119)) else (none))) = some r := H
    have A4 := Aside0.mk A40
    clear A40
    replace H := Option.bind_eq_some_iff.mp H
    obtain ⟨t123, A50, H⟩ := H
    replace H : (if t123.length + y119.length < 140737488355328 then (some (t123 ++ y119)) else (none)) = some r := H
    have A5 := Aside0.mk A50
    clear A50
    by_cases c6 : t123.length + y119.length < 140737488355328
    · rw [if_pos c6] at H
      have LMc6 := Aside0.mk c6
      clear c6
      obtain ⟨y126, hy126⟩ : ∃ y_ : List Int, y_ = (t123 ++ y119) := ⟨_, rfl⟩
      replace H : (some y126) = some r := by first | (rw [hy126]; with_reducible exact H) | (have H2_ := (Option.bind_some _ _).symm.trans H; rw [hy126]; with_reducible exact H2_) | (have H2_ := (Option.bind_some _ _).symm.trans H; with_reducible exact H2_) | with_reducible exact H | (rw [hy126]; exact H) | exact H
      have Ny126 := Aside0.mk hy126
      clear hy126
      obtain rfl := Option.some.inj H
      go_enter Tryd.func30, Tryd.ntmps30
      go_wp2_with (first | ((with_reducible refine gate_dst (N := 15) rfl ?_); refine Kd.R_lit (Kd.int .u8) _ 5 ?hg (N := 15) ?hd (xs := ([((l1.length : Int)) % 256, ((l1.length : Int) / 256) % 256, (a0) % 256] : List Int)) (inner := [.int .u8 (((l1.length : Int)) % 256), .int .u8 (((l1.length : Int) / 256) % 256), .int .u8 ((a0) % 256)]) (ok := fun _ => True) (okp := fun _ => True) ?hr ?hp (fun _ hk => hk) trivial (Below.refl _ _) (Nat.le_refl _) (by simp) ?_; (case hd => rfl); (case hg => rfl); (case hr => first | (go_simp; done) | (go_simp; rfl)); (case hp => exact (Reps.one (show Kd.M (Kd.int .u8) _ _ _ (((l1.length : Int)) % 256) [.int .u8 (((l1.length : Int)) % 256)] from rfl) (Reps.one (show Kd.M (Kd.int .u8) _ _ _ (((l1.length : Int) / 256) % 256) [.int .u8 (((l1.length : Int) / 256) % 256)] from rfl) (Reps.one (show Kd.M (Kd.int .u8) _ _ _ ((a0) % 256) [.int .u8 ((a0) % 256)] from rfl) (Reps.none _ _))))); intro v117 w7 ho8 hb hg_ hnew_; clear hg_ hnew_; (first | rw [← Ny116.out] at ho8 | (simp only [Int.reduceToNat] at ho8; rw [← Ny116.out] at ho8)); have n0_ := Aside0.mk (Kd.R_lower ho8 (below_size (by repeat (first | (with_reducible first | exact HB.out | apply below_alloc | apply pw_below_drewN | apply below_drew1) | exact HB.out)))); have n1_ := Aside0.mk (below_step (by repeat (first | (with_reducible first | exact HB.out | apply below_alloc | apply pw_below_drewN | apply below_drew1) | exact HB.out)) hb); clear HB; have HO118 := n0_; have HB := n1_; clear n0_ n1_; clear hb ho8) | ((with_reducible refine gate_builtin (b := .append) (xs := #[.tmp 15, .tmp 16]) rfl ?_); at_builtin; refine Kd.R_append_rows (Kd.int .u8) (w0 := w) w.heap.size rfl (.tmp 15) (.tmp 16) 22 5 (.int .u8 0) 1 rfl Tryd.underlying22 info5 rfl (by decide) (by omega) v117 y116 l1 _ _ _ (fun _ => True) (fun _ => False) rfl rfl ?aO ?aR (fun _ _ h => h) (fun _ h => h.elim) ?aF ?aB ?aS ?aL ?_; (case aR => repeat (first | exact (Kd.C_below HR1.out HB.out) | (with_reducible refine Kd.C_alloc ?_ _) | (with_reducible refine Kd.C_drewN ?_ _) | (with_reducible refine Kd.C_drew ?_))); (case aB => exact (by repeat (first | (with_reducible first | exact HB.out | apply below_alloc | apply pw_below_drewN | apply below_drew1) | exact HB.out))); (case aF => exact (fun _ _ => trivial)); (case aO => exact (by (with_reducible repeat (first | apply Kd.R_alloc | apply Kd.R_drewN | apply Kd.R_drew)); exact HO118.out)); (case aS => exact (below_size (by repeat (first | (with_reducible first | exact HB.out | apply below_alloc | apply pw_below_drewN | apply below_drew1) | exact HB.out)))); (case aL => have := LMc3.out; omega); intro v120 w9 ho hb hg hat; rw [← Ny119.out] at ho; have n0_ := Aside0.mk (hb); have n1_ := Aside0.mk (ho); clear HB; clear HO118; have HB := n0_; have HO121 := n1_; clear n0_ n1_; clear ho hb hg hat; obtain ⟨Ao10, co10, eo10⟩ := Kd.R_slice HO121.out; subst eo10) | ((with_reducible refine gate_callee (f := 62) rfl ?_); refine goesL_ (some 19) rfl rfl Tryd.func62 (by kernel_rfl) rfl #[.slice Ao10 y119.length co10] rfl (by (try simp only [List.map_toArray, List.map_cons, List.map_nil]); first | done | rfl | (simp only [List.length_drop, List.length_take]; rfl)) ?_; (with_reducible refine (codec_Sum.calls _ _ y119 t122 _ ?side1 ?side2 A4.out ?side3).mono ?_); (case side1 => repeat (first | exact (Kd.R_reads' HO121.out).2.2 | (with_reducible refine Kd.C_alloc ?_ _) | (with_reducible refine Kd.C_drewN ?_ _) | (with_reducible refine Kd.C_drew ?_))); (case side2 => exact (Kd.R_reads' HO121.out).2.1); (case side3 => first | (with_reducible exact HT_.out) | exact GT.below HT_.out (by repeat (first | (with_reducible first | exact HB.out | apply below_alloc | apply pw_below_drewN | apply below_drew1) | exact HB.out))); rintro e w' ⟨rfl, ⟨nd, rfl⟩⟩; refine ⟨_, rfl, ?_⟩) | ((with_reducible refine gate_callee (f := 61) rfl ?_); refine goesL_ (some 20) rfl rfl Tryd.func61 (by kernel_rfl) rfl #[.int .u32 t122] rfl (by (try simp only [List.map_toArray, List.map_cons, List.map_nil]); first | done | rfl | (simp only [List.length_drop, List.length_take]; rfl)) ?_; (with_reducible refine (log_four.calls t122 t123 _ A5.out).mono ?_); rintro e w11 ⟨v124, rfl, ho0, hb⟩; refine ⟨_, rfl, ?_⟩; have n0_ := Aside0.mk (Kd.R_elder' (by (with_reducible repeat (first | apply Kd.R_alloc | apply Kd.R_drewN | apply Kd.R_drew)); exact HO121.out) (Kd.R_base ho0) hb); have n1_ := Aside0.mk (Kd.R_lower (Kd.R_new' ho0 (Kd.R_lt (by (with_reducible repeat (first | apply Kd.R_alloc | apply Kd.R_drewN | apply Kd.R_drew)); exact HO121.out))) (below_size (by repeat (first | (with_reducible first | exact HB.out | apply below_alloc | apply pw_below_drewN | apply below_drew1) | exact HB.out)))); have n2_ := Aside0.mk (below_step (by repeat (first | (with_reducible first | exact HB.out | apply below_alloc | apply pw_below_drewN | apply below_drew1) | exact HB.out)) hb); clear HO121; clear HB; have HO121 := n0_; have HO125 := n1_; have HB := n2_; clear n0_ n1_ n2_; (try clear hb); (try clear hb2); (try clear hk); (try clear hi); (try clear ho0)) | ((with_reducible refine gate_builtin (b := .append) (xs := #[.tmp 20, .tmp 21]) rfl ?_); at_builtin; refine Kd.R_append_rows (Kd.int .u8) (w0 := w) w.heap.size rfl (.tmp 20) (.tmp 21) 22 5 (.int .u8 0) 1 rfl Tryd.underlying22 info5 rfl (by decide) (by omega) v124 t123 y119 _ _ _ (fun k_ => some k_ ≠ (.slice Ao10 y119.length co10 : Value).ownBlock) (fun _ => False) rfl rfl ?aO ?aR (fun _ _ h => h) (fun _ h => h.elim) ?aF ?aB ?aS ?aL ?_; (case aR => repeat (first | exact (Kd.R_reads' HO121.out).2.2 | (with_reducible refine Kd.C_alloc ?_ _) | (with_reducible refine Kd.C_drewN ?_ _) | (with_reducible refine Kd.C_drew ?_))); (case aB => exact (by repeat (first | (with_reducible first | exact HB.out | apply below_alloc | apply pw_below_drewN | apply below_drew1) | exact HB.out))); (case aF => exact (fun k_ hk => Kd.fresh' (Kd.R_lt (by (with_reducible repeat (first | apply Kd.R_alloc | apply Kd.R_drewN | apply Kd.R_drew)); exact HO121.out)) k_ hk)); (case aO => exact (by (with_reducible repeat (first | apply Kd.R_alloc | apply Kd.R_drewN | apply Kd.R_drew)); exact Kd.R_mono HO125.out (fun _ hk => hk.2))); (case aS => exact (below_size (by repeat (first | (with_reducible first | exact HB.out | apply below_alloc | apply pw_below_drewN | apply below_drew1) | exact HB.out)))); (case aL => have := LMc6.out; omega); intro v127 w12 ho hb hg hat; rw [← Ny126.out] at ho; have n0_ := Aside0.mk (Kd.R_after (ok := (fun _ => True)) (by (with_reducible repeat (first | apply Kd.R_alloc | apply Kd.R_drewN | apply Kd.R_drew)); exact HO121.out) hg hat); have n1_ := Aside0.mk (hb); have n2_ := Aside0.mk (ho); clear HO121; clear HB; clear HO125; have HO121 := n0_; have HB := n1_; have HO128 := n2_; clear n0_ n1_ n2_; clear ho hb hg hat))
      go_ret
      exact ⟨_, by first | rfl | (simp [errW_none, errW_some] <;> rfl) | (simp [*, errW_none, errW_some] <;> rfl), by (with_reducible repeat (first | apply Kd.R_alloc | apply Kd.R_drewN | apply Kd.R_drew)); exact Kd.R_mono HO128.out (fun _ hk => trivial), by repeat (first | (with_reducible first | exact HB.out | apply below_alloc | apply pw_below_drewN | apply below_drew1) | exact HB.out)⟩
    · rw [if_neg c6] at H
      exact absurd H (by simp)
  · rw [if_neg c3] at H
    exact absurd H (by simp)

/-! ### log_piece: function 30 -/
open Go.Proofs.YtnamanalacjhnaaDoor.Lg Go.Proofs.YtnamanalacjhnaaDoor.G
def log_piece.f (a0 : Int) (l1 : List Int) : Option (List Int) := if okB l1 = true ∧ l1.length ≤ 140737488351232 ∧ 0 ≤ a0 ∧ a0 ≤ 255 then some (pieceL a0 l1) else none
theorem log_piece.calls (a0 : Int) (A1 : Option Addr) (c1 : Nat) (l1 : List Int) (r : List Int) (w : World) (hr1 : Kd.C (Kd.int .u8) w A1 l1.length l1) (hc1 : l1.length ≤ c1) (h : log_piece.f a0 l1 = some r) (hT_ : GT w) :
    Calls Tryd.prog 30 #[.int .i64 a0, .slice A1 l1.length c1] w fun e w' => ∃ v0_ : Value, e = .returned (v0_) ∧ Kd.R (Kd.int .u8) 5 w' w.heap.size (fun _ => True) v0_ r ∧ Below w.heap.size w w' := by
  unfold log_piece.f at h
  split at h
  · rename_i hh
    obtain ⟨hb, hl, h0, h1⟩ := hh
    have hb := okB_iff.1 hb
    refine log_piece_p.calls a0 A1 c1 l1 r w hr1 hc1 ?_ hT_
    unfold log_piece_p.f
    have e1 : (l1.length : Int) % 256 = ((l1.length % 256 : Nat) : Int) := by omega
    have e2 : (l1.length : Int) / 256 % 256 = ((l1.length / 256 % 256 : Nat) : Int) := by omega
    have e3 : a0 % 256 = a0 := by omega
    rw [e1, e2, e3]
    simp only [Option.bind_some]
    rw [if_pos (by simp; omega)]
    have hB := body_bytes ⟨h0, h1⟩ hb
    have hf := four_eq (sumF_range hB)
    unfold bodyL at hf hB
    unfold codec_Sum.f
    rw [if_pos (okB_iff.2 hB)]
    simp only [Option.bind_some]
    unfold log_four.f
    simp only [Option.bind_some]
    rw [hf, if_pos (by rw [four_len]; simp; omega), ← h]
    rfl
  · cases h

/-! ### log_Append: function 11 -/
open Go.Proofs.YtnamanalacjhnaaDoor.Lg Go.Proofs.YtnamanalacjhnaaDoor.G Go.Proofs.YtnamanalacjhnaaDoor.Wk
theorem cPiece {w : World} {A : Option Addr} {n c : Nat} {l : List Int} {kd : Int} (h : Rd (Kd.int .u8) w A n c l) (hl : n ≤ 140737488351232) (hb : Bytes l) (h0 : 0 ≤ kd ∧ kd ≤ 255) (hT : GT w) : Calls Tryd.prog 30 #[.int .i64 kd, .slice A n c] w (Made (Kd.int .u8) 5 w (pieceL kd l)) := by
  obtain ⟨rfl, a2, a3⟩ := h
  exact (log_piece.calls kd A c l _ w a3 a2 (by unfold log_piece.f; rw [if_pos ⟨okB_iff.2 hb, hl, h0.1, h0.2⟩]) hT).mono fun _ _ h => Made.of h
theorem infoB8 : (Tryd.prog.info? 5).map (fun i => (i.zero, i.size, i.bytes)) = some (some (.int .u8 0), 1, 1) := by kernel_rfl
def log_Append.f (a0 : Int) (l1 : List Int) : Option (List Int) := if okB l1 = true ∧ l1.length ≤ 1073741824 ∧ a0 ≤ 9223372036854775807 then some (appendL a0 l1) else none
/-- What holds at a round's head. -/
structure Here (w : World) (r : List Int) (a : Nat) (wr : World) (vo : Value) (first : Bool) (place : Nat) (rec out : List Int) : Prop where
  bel : Below w.heap.size w wr
  own : Kd.R (Kd.int .u8) 5 wr w.heap.size (fun _ => True) vo out
  at1 : ((a : Int) + (out.length : Int)) % 512 = (place : Int)
  at2 : (a : Int) + (out.length : Int) < 9223372036854775808 ∨ place = 0
  at3 : place ≤ 504
  res : out ++ piecesL first place rec = r
  len : out.length + 8 * rec.length ≤ 8589935104
  byt : Bytes rec
set_option maxHeartbeats 8000000 in
set_option maxRecDepth 100000 in
theorem append_walk (a0 : Int) (A1 : Option Addr) (c1 : Nat) (l1 : List Int) (w : World) (hr1 : Rd (Kd.int .u8) w A1 l1.length c1 l1) (hb : Bytes l1) (hl : l1.length ≤ 1073741824) (ha : a0 ≤ 9223372036854775807) (hT : GT w) :
    Calls Tryd.prog 11 #[.int .i64 a0, .slice A1 l1.length c1] w fun e w' => ∃ v0_ : Value, e = .returned (v0_) ∧ Kd.R (Kd.int .u8) 5 w' w.heap.size (fun _ => True) v0_ (appendL a0 l1) ∧ Below w.heap.size w w' := by
  obtain ⟨r, hr⟩ : ∃ r, r = appendL a0 l1 := ⟨_, rfl⟩
  rw [← hr]
  obtain ⟨a, hA⟩ : ∃ a, a = (max a0 0).toNat := ⟨_, rfl⟩
  have e1 : (if a0 < 0 then (0 : Int) else a0) = (a : Int) := by split <;> omega
  have hal : a ≤ 9223372036854775807 := by omega
  unfold appendL at hr
  rw [← hA] at hr
  obtain ⟨p, hp⟩ : ∃ p, p = a % 512 := ⟨_, rfl⟩
  simp only [← hp] at hr
  have HRM : Aside0 (log_room.f (a : Int) = some ((512 - p : Nat) : Int)) := ⟨room_eq (a : Int) p (by rw [Int.tmod_eq_emod_of_nonneg (by omega)]; omega) (by omega)⟩
  have HR := Aside0.mk hr
  have HR1 := Aside0.mk hr1
  have HB := Aside0.mk hb
  have HT := Aside0.mk hT
  have HP := Aside0.mk hp
  obtain ⟨q, hq⟩ : ∃ q, q = 512 - p := ⟨_, rfl⟩
  rw [← hq] at HRM
  have hq1 : 1 ≤ q ∧ q ≤ 512 := by omega
  have HQ : Aside0 (q + p = 512) := ⟨by omega⟩
  obtain ⟨hq1, hq2⟩ := hq1
  clear hr hr1 hb hT hA hp hq
  go_enter Tryd.func11, Tryd.ntmps11
  go_wp2_with fail
  refine (log_room.calls (a : Int) (q : Int) w HRM.out).mono ?_
  rintro e w1 ⟨rfl, hD⟩
  have HB1 : Aside0 (Below w.heap.size w w1) := ⟨hD.below⟩
  clear hD
  go_upto_if 14 with fail
  go_cut [5] (fun s5 wx => ∃ (place : Nat) (out : List Int), Aside0 (Here w r a wx s5 true place l1 out))
  case first =>
    by_cases h7 : q ≤ 7
    · have d7 : decide ((q : Int) ≤ 7) = true := decide_eq_true (by omega)
      have d7' : decide (q ≤ 7) = true := decide_eq_true (by omega)
      have HR2 : Aside0 (List.replicate q 0 ++ piecesL true 0 l1 = r) := ⟨by have h1 := HR.out; have h2 := HQ.out; rw [if_pos (by omega), show 512 - p = q by omega] at h1; exact h1.symm⟩
      go_wp2_with (first | (at_make; go_must (refine R_make_cap (enc := Value.int .u8) (h1 := fun _ => rfl) (w0 := w) w.heap.size 5 rfl (N := 16) rfl 22 _ _ rfl (q : Int) (q : Int) rfl rfl Tryd.underlying22 (0 : Int) 1 infoB8 rfl (by omega) (ok := fun _ => True) trivial (by omega) (by omega) (by omega) HB1.out HB1.out.size ?_); intro v1 w2 ho hb hg hn; (have HO := Aside0.mk ho); (have HB2 := Aside0.mk hb); clear ho hb hg hn))
      have hzz := HO.out
      rw [Int.toNat_natCast] at hzz
      have HO1 := Aside0.mk hzz
      clear HO hzz
      go_wp2_with fail
      go_meet
      case rel => exact ⟨0, List.replicate q 0, ⟨⟨HB2.out, HO1.out, by rw [List.length_replicate]; have h1 := HP.out; have h2 := HQ.out; omega, .inr rfl, by omega, HR2.out, by rw [List.length_replicate]; omega, HB.out⟩⟩⟩
    · have d7 : decide ((q : Int) ≤ 7) = false := decide_eq_false (by omega)
      have d7' : decide (q ≤ 7) = false := decide_eq_false (by omega)
      have HR2 : Aside0 (piecesL true p l1 = r) := ⟨by have h1 := HR.out; have h2 := HQ.out; rw [if_neg (by omega)] at h1; exact h1.symm⟩
      go_wp2_with fail
      go_meet
      case rel => exact ⟨p, [], ⟨⟨HB1.out, Kd.R_nil _ _ _ _ _, by have h1 := HP.out; simp; omega, .inl (by simp; omega), by have h2 := HQ.out; omega, HR2.out, by simp; omega, HB.out⟩⟩⟩
  case rest =>
    obtain ⟨place, out, HE⟩ := hcut
    go_wp2_with fail
    go_loopw [1, 5, 7] (fun vr vo vk wr => ∃ (first : Bool) (place : Nat) (rec out : List Int) (A : Option Addr) (n c : Nat), vr = .slice A n c ∧ vk = .int .i64 (if first then 1 else 3) ∧ Aside0 (Rd (Kd.int .u8) w A n c rec) ∧ Aside0 (Here w r a wr vo first place rec out)) (fun vr _ _ _ => slen vr)
    case atStart => exact ⟨true, place, l1, out, A1, l1.length, c1, rfl, rfl, HR1, HE⟩
    case round =>
      clear HE HR1 HR
      obtain ⟨first, place, rec, out, A, n, c, rfl, rfl, HRC, HE⟩ := hrel
      obtain ⟨Ao, no, co, rfl, hrd, how⟩ := Rd.of_R HE.out.own
      have HOW := Aside0.mk how
      have hno : out.length = no := hrd.1
      have hn : rec.length = n := HRC.out.1
      have hnc : n ≤ c := HRC.out.2.1
      have hlen := HE.out.len
      have hpl := HE.out.at3
      rw [hno, hn] at hlen
      have hx := tm ((a : Int) + (no : Int)) place (by omega) (by omega) (by rw [← hno]; exact HE.out.at1) (by rw [← hno]; exact HE.out.at2)
      obtain ⟨X, hX⟩ : ∃ X, wrap64 ((a : Int) + (no : Int)) = X := ⟨_, rfl⟩
      rw [hX] at hx
      have HRM2 : Aside0 (log_room.f X = some ((512 - place : Nat) : Int)) := ⟨room_eq X place hx (by omega)⟩
      obtain ⟨s, hs⟩ : ∃ s, s = 512 - place := ⟨_, rfl⟩
      rw [← hs] at HRM2
      obtain ⟨q2, hq2'⟩ : ∃ q2, q2 = 505 - place := ⟨_, rfl⟩
      have hsq : (s : Int) - 7 = (q2 : Int) := by omega
      have hs2 : s ≤ 512 := by omega
      have hq3 : 1 ≤ q2 := by omega
      have HQ2 := Aside0.mk hq2'
      have HNO := Aside0.mk hno
      have HN := Aside0.mk hn
      have HTR := Aside0.mk (GT.below HT.out HE.out.bel)
      have HRR := Aside0.mk (HRC.out.step HE.out.bel)
      clear hrd how hx hs hq2' hno hn HRM
      by_cases hr7 : n ≤ q2
      · have e3 : (if (q2 : Int) < (n : Int) then (q2 : Int) else (n : Int)) = (n : Int) := if_neg (by omega)
        have HRES : Aside0 (out ++ pieceL (kindL first true) rec = r) := ⟨by rw [← pieces_last (place := place) (by have h1 := HQ2.out; have h2 := HN.out; omega)]; exact HE.out.res⟩
        cases first
        · skip
          go_wp2_with fail
          refine (log_room.calls X (s : Int) _ HRM2.out).mono ?_
          rintro e w3 ⟨rfl, hD⟩
          have HB3 := Aside0.mk (below_then HE.out.bel HE.out.bel.size hD.below)
          have HO3 := Aside0.mk (Kd.R_below HOW.out hD.below)
          have HT3 := Aside0.mk (GT.below HTR.out hD.below)
          have HR3 := Aside0.mk (HRR.out.step hD.below)
          clear hD
          go_wp2_with fail
          refine (cPiece (kd := 4) HR3.out (by omega) HE.out.byt (by decide) HT3.out).mono ?_
          rintro e w5 ⟨A5, n5, c5, r5, rfl, h5, hd5, -, hb5⟩
          have HB5 := Aside0.mk (below_then HB3.out HB3.out.size hb5)
          have HO5 := Aside0.mk (Kd.R_below HO3.out hb5)
          have HR5 := Aside0.mk hd5
          have H5 := Aside0.mk h5
          have HL5 : Aside0 (r5.length = n5 ∧ n5 = n + 7) := ⟨hd5.1, by rw [← hd5.1, h5, piece_len, HN.out]⟩
          clear h5 hd5 hb5
          go_wp2_with (first | ((with_reducible refine gate_builtin (b := .append) (xs := #[.tmp 32, .tmp 35]) rfl ?_); at_builtin; go_must (refine Kd.R_append_rows (Kd.int .u8) (w0 := w) w.heap.size rfl (.tmp 32) (.tmp 35) 22 5 (.int .u8 0) 1 rfl Tryd.underlying22 infoB8 rfl (by decide) (by omega) (.slice Ao no co) out r5 _ _ _ (fun _ => True) (fun _ => False) rfl rfl ?aO ?aR (fun _ _ h => h) (fun _ h => h.elim) (fun _ _ => trivial) HB5.out HB5.out.size ?aL ?_); (case aO => exact HO5.out); (case aR => exact HR5.out.2.2); (case aL => have h1 := HNO.out; have h2 := HL5.out; omega); intro v6 w6 ho hb hg_ hn_; (have HO6 := Aside0.mk ho); (have HB6 := Aside0.mk hb); clear ho hb hg_ hn_))
          go_ret
          exact ⟨_, rfl, by rw [← HRES.out]; rw [H5.out] at HO6; exact HO6.out, HB6.out⟩
        · skip
          go_wp2_with fail
          refine (log_room.calls X (s : Int) _ HRM2.out).mono ?_
          rintro e w3 ⟨rfl, hD⟩
          have HB3 := Aside0.mk (below_then HE.out.bel HE.out.bel.size hD.below)
          have HO3 := Aside0.mk (Kd.R_below HOW.out hD.below)
          have HT3 := Aside0.mk (GT.below HTR.out hD.below)
          have HR3 := Aside0.mk (HRR.out.step hD.below)
          clear hD
          go_wp2_with fail
          refine (cPiece (kd := 1) HR3.out (by omega) HE.out.byt (by decide) HT3.out).mono ?_
          rintro e w5 ⟨A5, n5, c5, r5, rfl, h5, hd5, -, hb5⟩
          have HB5 := Aside0.mk (below_then HB3.out HB3.out.size hb5)
          have HO5 := Aside0.mk (Kd.R_below HO3.out hb5)
          have HR5 := Aside0.mk hd5
          have H5 := Aside0.mk h5
          have HL5 : Aside0 (r5.length = n5 ∧ n5 = n + 7) := ⟨hd5.1, by rw [← hd5.1, h5, piece_len, HN.out]⟩
          clear h5 hd5 hb5
          go_wp2_with (first | ((with_reducible refine gate_builtin (b := .append) (xs := #[.tmp 32, .tmp 35]) rfl ?_); at_builtin; go_must (refine Kd.R_append_rows (Kd.int .u8) (w0 := w) w.heap.size rfl (.tmp 32) (.tmp 35) 22 5 (.int .u8 0) 1 rfl Tryd.underlying22 infoB8 rfl (by decide) (by omega) (.slice Ao no co) out r5 _ _ _ (fun _ => True) (fun _ => False) rfl rfl ?aO ?aR (fun _ _ h => h) (fun _ h => h.elim) (fun _ _ => trivial) HB5.out HB5.out.size ?aL ?_); (case aO => exact HO5.out); (case aR => exact HR5.out.2.2); (case aL => have h1 := HNO.out; have h2 := HL5.out; omega); intro v6 w6 ho hb hg_ hn_; (have HO6 := Aside0.mk ho); (have HB6 := Aside0.mk hb); clear ho hb hg_ hn_))
          go_ret
          exact ⟨_, rfl, by rw [← HRES.out]; rw [H5.out] at HO6; exact HO6.out, HB6.out⟩
      · have e3 : (if (q2 : Int) < (n : Int) then (q2 : Int) else (n : Int)) = (q2 : Int) := if_pos (by omega)
        have deq : ((q2 : Int) == (n : Int)) = false := by rw [beq_eq_false_iff_ne]; omega
        have deq' : (q2 == n) = false := by rw [beq_eq_false_iff_ne]; omega
        have hto := Rd.to (P := Tryd.prog) (t := 22) Tryd.underlying22 infoB8 .i64 A n c q2 (by omega) hnc
        obtain ⟨A', hfrom, hfr⟩ := Rd.from (P := Tryd.prog) (t := 22) (Kd.int .u8) Tryd.underlying22 infoB8 .i64 A n c q2 (by omega) hnc
        have HRT := Aside0.mk (HRR.out.take q2 (by omega))
        have HBT := Aside0.mk (bytes_take HE.out.byt q2)
        have HRF := Aside0.mk (hfr w rec HRC.out)
        have HRES : Aside0 ((out ++ pieceL (kindL first false) (rec.take q2)) ++ piecesL false 0 (rec.drop q2) = r) := ⟨by
          have h1 := HQ2.out
          have h2 := HN.out
          have h3 := HE.out.res
          rw [pieces_more (by omega) (by omega), ← h1, ← List.append_assoc] at h3
          exact h3⟩
        clear hfr
        cases first
        · skip
          go_wp2_with fail
          refine (log_room.calls X (s : Int) _ HRM2.out).mono ?_
          rintro e w3 ⟨rfl, hD⟩
          have HB3 := Aside0.mk (below_then HE.out.bel HE.out.bel.size hD.below)
          have HO3 := Aside0.mk (Kd.R_below HOW.out hD.below)
          have HT3 := Aside0.mk (GT.below HTR.out hD.below)
          have HR3 := Aside0.mk (HRT.out.step hD.below)
          clear hD
          go_wp2_with fail
          refine (cPiece (kd := 3) HR3.out (by omega) HBT.out (by decide) HT3.out).mono ?_
          rintro e w5 ⟨A5, n5, c5, r5, rfl, h5, hd5, -, hb5⟩
          have HB5 := Aside0.mk (below_then HB3.out HB3.out.size hb5)
          have HO5 := Aside0.mk (Kd.R_below HO3.out hb5)
          have HR5 := Aside0.mk hd5
          have H5 := Aside0.mk h5
          have HL5 : Aside0 (r5.length = n5 ∧ n5 = q2 + 7) := ⟨hd5.1, by rw [← hd5.1, h5, piece_len, List.length_take, HN.out]; omega⟩
          clear h5 hd5 hb5
          go_wp2_with (first | ((with_reducible refine gate_builtin (b := .append) (xs := #[.tmp 39, .tmp 44]) rfl ?_); at_builtin; go_must (refine Kd.R_append_rows (Kd.int .u8) (w0 := w) w.heap.size rfl (.tmp 39) (.tmp 44) 22 5 (.int .u8 0) 1 rfl Tryd.underlying22 infoB8 rfl (by decide) (by omega) (.slice Ao no co) out r5 _ _ _ (fun _ => True) (fun _ => False) rfl rfl ?aO ?aR (fun _ _ h => h) (fun _ h => h.elim) (fun _ _ => trivial) HB5.out HB5.out.size ?aL ?_); (case aO => exact HO5.out); (case aR => exact HR5.out.2.2); (case aL => have h1 := HNO.out; have h2 := HL5.out; omega); intro v6 w6 ho hb hg_ hn_; (have HO6 := Aside0.mk ho); (have HB6 := Aside0.mk hb); clear ho hb hg_ hn_))
          go_region
          all_goals go_wp2_with fail
          have HLO : Aside0 ((out ++ r5).length = no + q2 + 7) := ⟨by rw [List.length_append]; have h1 := HNO.out; have h2 := HL5.out; omega⟩
          all_goals exact ⟨⟨false, 0, rec.drop q2, out ++ r5, A', n - q2, c - q2, rfl, rfl, HRF, ⟨⟨below_drew HB6.out, HO6.out, by rw [HLO.out]; have h1 := HE.out.at1; have h2 := HNO.out; have h3 := HQ2.out; omega, .inr rfl, by omega, by rw [H5.out]; exact HRES.out, by rw [HLO.out, List.length_drop]; have h2 := HN.out; omega, bytes_drop HE.out.byt q2⟩⟩⟩, by rw [slen_slice, slen_slice]; omega⟩
        · skip
          go_wp2_with fail
          refine (log_room.calls X (s : Int) _ HRM2.out).mono ?_
          rintro e w3 ⟨rfl, hD⟩
          have HB3 := Aside0.mk (below_then HE.out.bel HE.out.bel.size hD.below)
          have HO3 := Aside0.mk (Kd.R_below HOW.out hD.below)
          have HT3 := Aside0.mk (GT.below HTR.out hD.below)
          have HR3 := Aside0.mk (HRT.out.step hD.below)
          clear hD
          go_wp2_with fail
          refine (cPiece (kd := 2) HR3.out (by omega) HBT.out (by decide) HT3.out).mono ?_
          rintro e w5 ⟨A5, n5, c5, r5, rfl, h5, hd5, -, hb5⟩
          have HB5 := Aside0.mk (below_then HB3.out HB3.out.size hb5)
          have HO5 := Aside0.mk (Kd.R_below HO3.out hb5)
          have HR5 := Aside0.mk hd5
          have H5 := Aside0.mk h5
          have HL5 : Aside0 (r5.length = n5 ∧ n5 = q2 + 7) := ⟨hd5.1, by rw [← hd5.1, h5, piece_len, List.length_take, HN.out]; omega⟩
          clear h5 hd5 hb5
          go_wp2_with (first | ((with_reducible refine gate_builtin (b := .append) (xs := #[.tmp 39, .tmp 44]) rfl ?_); at_builtin; go_must (refine Kd.R_append_rows (Kd.int .u8) (w0 := w) w.heap.size rfl (.tmp 39) (.tmp 44) 22 5 (.int .u8 0) 1 rfl Tryd.underlying22 infoB8 rfl (by decide) (by omega) (.slice Ao no co) out r5 _ _ _ (fun _ => True) (fun _ => False) rfl rfl ?aO ?aR (fun _ _ h => h) (fun _ h => h.elim) (fun _ _ => trivial) HB5.out HB5.out.size ?aL ?_); (case aO => exact HO5.out); (case aR => exact HR5.out.2.2); (case aL => have h1 := HNO.out; have h2 := HL5.out; omega); intro v6 w6 ho hb hg_ hn_; (have HO6 := Aside0.mk ho); (have HB6 := Aside0.mk hb); clear ho hb hg_ hn_))
          go_region
          all_goals go_wp2_with fail
          have HLO : Aside0 ((out ++ r5).length = no + q2 + 7) := ⟨by rw [List.length_append]; have h1 := HNO.out; have h2 := HL5.out; omega⟩
          all_goals exact ⟨⟨false, 0, rec.drop q2, out ++ r5, A', n - q2, c - q2, rfl, rfl, HRF, ⟨⟨below_drew HB6.out, HO6.out, by rw [HLO.out]; have h1 := HE.out.at1; have h2 := HNO.out; have h3 := HQ2.out; omega, .inr rfl, by omega, by rw [H5.out]; exact HRES.out, by rw [HLO.out, List.length_drop]; have h2 := HN.out; omega, bytes_drop HE.out.byt q2⟩⟩⟩, by rw [slen_slice, slen_slice]; omega⟩
theorem log_Append.calls (a0 : Int) (A1 : Option Addr) (c1 : Nat) (l1 : List Int) (r : List Int) (w : World) (hr1 : Kd.C (Kd.int .u8) w A1 l1.length l1) (hc1 : l1.length ≤ c1) (h : log_Append.f a0 l1 = some r) (hT_ : GT w) :
    Calls Tryd.prog 11 #[.int .i64 a0, .slice A1 l1.length c1] w fun e w' => ∃ v0_ : Value, e = .returned (v0_) ∧ Kd.R (Kd.int .u8) 5 w' w.heap.size (fun _ => True) v0_ r ∧ Below w.heap.size w w' := by
  unfold log_Append.f at h
  split at h
  · rename_i hh
    obtain ⟨hb, hl, ha⟩ := hh
    rw [← Option.some.inj h]
    exact append_walk a0 A1 c1 l1 w ⟨rfl, hc1, hr1⟩ (okB_iff.1 hb) hl ha hT_
  · cases h

/-! ### screeref2_Four: function 31 -/
def screeref2_Four.f (a0 : Int) : Option (List Int) := some (([(a0) % 256, (a0 / 256) % 256, (a0 / 65536) % 256, (a0 / 16777216) % 256] : List Int))
set_option maxHeartbeats 8000000 in
set_option maxRecDepth 100000 in
theorem screeref2_Four.calls (a0 : Int) (r : List Int) (w : World) (h : screeref2_Four.f a0 = some r) :
    Calls Tryd.prog 31 #[.int .u32 a0] w fun e w' => ∃ v0_ : Value, e = .returned (v0_) ∧ Kd.R (Kd.int .u8) 5 w' w.heap.size (fun _ => True) v0_ r ∧ Below w.heap.size w w' := by
  have HB := Aside0.mk (Below.refl w.heap.size w)
  have H : (some (([(a0) % 256, (a0 / 256) % 256, (a0 / 65536) % 256, (a0 / 16777216) % 256] : List Int))) = some r := h
  clear h
  obtain ⟨y129, hy129⟩ : ∃ y_ : List Int, y_ = (([(a0) % 256, (a0 / 256) % 256, (a0 / 65536) % 256, (a0 / 16777216) % 256] : List Int)) := ⟨_, rfl⟩
  replace H : (some y129) = some r := by first | (rw [hy129]; with_reducible exact H) | (have H2_ := (Option.bind_some _ _).symm.trans H; rw [hy129]; with_reducible exact H2_) | (have H2_ := (Option.bind_some _ _).symm.trans H; with_reducible exact H2_) | with_reducible exact H | (rw [hy129]; exact H) | exact H
  have Ny129 := Aside0.mk hy129
  clear hy129
  obtain rfl := Option.some.inj H
  go_enter Tryd.func31, Tryd.ntmps31
  go_wp2_with (first | ((with_reducible refine gate_dst (N := 14) rfl ?_); refine Kd.R_lit (Kd.int .u8) _ 5 ?hg (N := 14) ?hd (xs := ([(a0) % 256, (a0 / 256) % 256, (a0 / 65536) % 256, (a0 / 16777216) % 256] : List Int)) (inner := [.int .u8 ((a0) % 256), .int .u8 ((a0 / 256) % 256), .int .u8 ((a0 / 65536) % 256), .int .u8 ((a0 / 16777216) % 256)]) (ok := fun _ => True) (okp := fun _ => True) ?hr ?hp (fun _ hk => hk) trivial (Below.refl _ _) (Nat.le_refl _) (by simp) ?_; (case hd => rfl); (case hg => rfl); (case hr => first | (go_simp; done) | (go_simp; rfl)); (case hp => exact (Reps.one (show Kd.M (Kd.int .u8) _ _ _ ((a0) % 256) [.int .u8 ((a0) % 256)] from rfl) (Reps.one (show Kd.M (Kd.int .u8) _ _ _ ((a0 / 256) % 256) [.int .u8 ((a0 / 256) % 256)] from rfl) (Reps.one (show Kd.M (Kd.int .u8) _ _ _ ((a0 / 65536) % 256) [.int .u8 ((a0 / 65536) % 256)] from rfl) (Reps.one (show Kd.M (Kd.int .u8) _ _ _ ((a0 / 16777216) % 256) [.int .u8 ((a0 / 16777216) % 256)] from rfl) (Reps.none _ _)))))); intro v130 w2 ho3 hb hg_ hnew_; clear hg_ hnew_; (first | rw [← Ny129.out] at ho3 | (simp only [Int.reduceToNat] at ho3; rw [← Ny129.out] at ho3)); have n0_ := Aside0.mk (Kd.R_lower ho3 (below_size (by repeat (first | (with_reducible first | exact HB.out | apply below_alloc | apply pw_below_drewN | apply below_drew1) | exact HB.out)))); have n1_ := Aside0.mk (below_step (by repeat (first | (with_reducible first | exact HB.out | apply below_alloc | apply pw_below_drewN | apply below_drew1) | exact HB.out)) hb); clear HB; have HO131 := n0_; have HB := n1_; clear n0_ n1_; clear hb ho3))
  go_ret
  exact ⟨_, by first | rfl | (simp [errW_none, errW_some] <;> rfl) | (simp [*, errW_none, errW_some] <;> rfl), by (with_reducible repeat (first | apply Kd.R_alloc | apply Kd.R_drewN | apply Kd.R_drew)); exact HO131.out, by repeat (first | (with_reducible first | exact HB.out | apply below_alloc | apply pw_below_drewN | apply below_drew1) | exact HB.out)⟩

/-! ### screeref2_Sum_p: function 32 -/
mutual
def screeref2_Sum_p.l0 : Nat → List Int → Int → Int → Option (Int)
  | 0, _, _, _ => none
  | k + 1, x0, x3, x4 => if x4 < (x0.length : Int) then (if 0 ≤ x4 then (screeref2_Sum_p.l1 k x0 (Go.bits .xor .u32 x3 ((rd x0 x4) % 4294967296)) x4 0) else (none)) else (some (Go.bits .xor .u32 x3 4294967295))
def screeref2_Sum_p.l1 : Nat → List Int → Int → Int → Int → Option (Int)
  | 0, _, _, _, _ => none
  | k + 1, x0, x3, x4, x5 => if x5 < 8 then (if (Int.tmod x3 2) = 1 then (screeref2_Sum_p.l1 k x0 (Go.bits .xor .u32 ((Int.tdiv x3 2) % 4294967296) 2197175160) x4 (wrap64 (x5 + 1))) else (screeref2_Sum_p.l1 k x0 ((Int.tdiv x3 2) % 4294967296) x4 (wrap64 (x5 + 1)))) else (screeref2_Sum_p.l0 k x0 x3 (wrap64 (x4 + 1)))
end
def screeref2_Sum_p.f (k : Nat) (l0 : List Int) : Option (Int) := screeref2_Sum_p.l0 k l0 4294967295 0
theorem screeref2_Sum_p.mono_l : ∀ k, (∀ y0 y1 y2, LeO (screeref2_Sum_p.l0 k y0 y1 y2) (screeref2_Sum_p.l0 (k + 1) y0 y1 y2)) ∧ (∀ y0 y1 y2 y3, LeO (screeref2_Sum_p.l1 k y0 y1 y2 y3) (screeref2_Sum_p.l1 (k + 1) y0 y1 y2 y3))
  | 0 => ⟨fun _ _ _ r h => by simp [screeref2_Sum_p.l0] at h, fun _ _ _ _ r h => by simp [screeref2_Sum_p.l1] at h⟩
  | k + 1 => by
    obtain ⟨ih0, ih1⟩ := screeref2_Sum_p.mono_l k
    refine ⟨?_, ?_⟩
    · intro y0 y1 y2
      unfold screeref2_Sum_p.l0
      repeat' first
      | (with_reducible exact ih0 _ _ _)
      | (with_reducible exact ih1 _ _ _ _)
      | (with_reducible exact LeO.refl _)
      | (with_reducible exact LeO.none _)
      | (with_reducible refine LeO.ite ?_ ?_)
      | (with_reducible refine LeO.bind ?_ (fun _ => ?_))
      | exact ih0 _ _ _
      | exact ih1 _ _ _ _
      | exact LeO.none _
      | refine LeO.ite ?_ ?_
      | refine LeO.bind ?_ (fun _ => ?_)
    · intro y0 y1 y2 y3
      unfold screeref2_Sum_p.l1
      repeat' first
      | (with_reducible exact ih0 _ _ _)
      | (with_reducible exact ih1 _ _ _ _)
      | (with_reducible exact LeO.refl _)
      | (with_reducible exact LeO.none _)
      | (with_reducible refine LeO.ite ?_ ?_)
      | (with_reducible refine LeO.bind ?_ (fun _ => ?_))
      | exact ih0 _ _ _
      | exact ih1 _ _ _ _
      | exact LeO.none _
      | refine LeO.ite ?_ ?_
      | refine LeO.bind ?_ (fun _ => ?_)
theorem screeref2_Sum_p.mono : ∀ a0 k, LeO (screeref2_Sum_p.f k a0) (screeref2_Sum_p.f (k + 1) a0) := by
  intro a0 k
  obtain ⟨ih0, ih1⟩ := screeref2_Sum_p.mono_l k
  unfold screeref2_Sum_p.f
  repeat' first
      | (with_reducible exact ih0 _ _ _)
      | (with_reducible exact ih1 _ _ _ _)
      | (with_reducible exact LeO.refl _)
      | (with_reducible exact LeO.none _)
      | (with_reducible refine LeO.ite ?_ ?_)
      | (with_reducible refine LeO.bind ?_ (fun _ => ?_))
      | exact ih0 _ _ _
      | exact ih1 _ _ _ _
      | exact LeO.none _
      | refine LeO.ite ?_ ?_
      | refine LeO.bind ?_ (fun _ => ?_)
set_option maxHeartbeats 8000000 in
set_option maxRecDepth 100000 in
theorem screeref2_Sum_p.calls (k : Nat) (A0 : Option Addr) (c0 : Nat) (l0 : List Int) (r : Int) (w : World) (hr0 : Kd.C (Kd.int .u8) w A0 l0.length l0) (hc0 : l0.length ≤ c0) (h : screeref2_Sum_p.f k l0 = some r) :
    Calls Tryd.prog 32 #[.slice A0 l0.length c0] w fun e w' => e = .returned (.int .u32 r) ∧ Drawn0 w w' := by
  have HR0 := Aside0.mk hr0
  have HC0 := Aside0.mk hc0
  clear hr0 hc0
  have H : (screeref2_Sum_p.l0 k l0 4294967295 0) = some r := h
  clear h
  have H' := Aside0.mk H
  clear H
  go_enter Tryd.func32, Tryd.ntmps32
  go_wp2
  go_loopg [3, 4] k (fun kq v3 v4 w' => ∃ (x3_1 : Int) (x4_1 : Int), v3 = .int .u32 x3_1 ∧ v4 = .int .i64 x4_1 ∧ Aside0 (screeref2_Sum_p.l0 kq l0 x3_1 x4_1 = some r) ∧ Aside0 (kq ≤ k) ∧ Drawn0 w w')
  case atStart => exact ⟨(4294967295), (0), (by first | rfl | (simp; done) | (simp [*]; done)), (by first | rfl | (simp; done) | (simp [*]; done)), H', ⟨Nat.le_refl _⟩, by repeat (first | exact Drawn0.refl _ | apply Drawn0.step)⟩
  case round =>
    clear H'
    obtain ⟨x3_1, x4_1, rfl, rfl, HA, HK1, ⟨m1, rfl⟩⟩ := hrel
    cases gk with
    | zero => exact absurd HA.out (by simp [screeref2_Sum_p.l0])
    | succ k1 =>
      have H := HA.out
      clear HA
      simp only [screeref2_Sum_p.l0] at H
      by_cases c2 : x4_1 < (l0.length : Int)
      · rw [if_pos c2] at H
        have c2b0 : decide (x4_1 < (l0.length : Int)) = true := decide_eq_true c2
        clear c2
        by_cases c3 : 0 ≤ x4_1
        · rw [if_pos c3] at H
          have c3b0 : decide (0 ≤ x4_1) = true := decide_eq_true c3
          clear c3
          have H' := Aside0.mk H
          clear H
          have p132 : 0 ≤ (x4_1 : Int) := of_decide_eq_true (by first | (with_reducible assumption) | assumption)
          have q132 : x4_1 < (l0.length : Int) := of_decide_eq_true (by first | (with_reducible assumption) | assumption)
          obtain ⟨ad132, e132, hx132_0⟩ := Kd.at_int HR0.out x4_1 p132 q132
          cases e132
          replace p132 := eq_true p132
          replace q132 := eq_true q132
          go_wp2
          go_loopg [3, 5] k1 (fun kq v3 v5 w' => ∃ (x3_2 : Int) (x5_2 : Int), v3 = .int .u32 x3_2 ∧ v5 = .int .i64 x5_2 ∧ Aside0 (screeref2_Sum_p.l1 kq l0 x3_2 x4_1 x5_2 = some r) ∧ Aside0 (kq ≤ k1) ∧ Drawn0 w w')
          case atStart => exact ⟨(Go.bits .xor .u32 x3_1 ((rd l0 x4_1) % 4294967296)), (0), (by first | rfl | (simp; done) | (simp [*]; done)), (by first | rfl | (simp; done) | (simp [*]; done)), H', ⟨Nat.le_refl _⟩, by repeat (first | exact Drawn0.refl _ | apply Drawn0.step)⟩
          case round =>
            clear H'
            try clear p1
            try clear q1
            try clear hx1
            try clear c2
            try clear c2b0
            try clear p2
            try clear c3
            try clear c3b0
            try clear hx132_0
            try clear p132
            try clear q132
            obtain ⟨x3_2, x5_2, rfl, rfl, HA, HK2, ⟨m2, rfl⟩⟩ := hrel
            cases gk with
            | zero => exact absurd HA.out (by simp [screeref2_Sum_p.l1])
            | succ k2 =>
              have H := HA.out
              clear HA
              simp only [screeref2_Sum_p.l1] at H
              by_cases c4 : x5_2 < 8
              · rw [if_pos c4] at H
                have c4b0 : decide (x5_2 < 8) = true := decide_eq_true c4
                clear c4
                by_cases c5 : (Int.tmod x3_2 2) = 1
                · rw [if_pos c5] at H
                  have c5b0 : ((Int.tmod x3_2 2) == 1) = true := beq_iff_eq.mpr c5
                  have c5b1 : ((Int.tmod x3_2 2) != 1) = false := bne_eq_false_iff_eq.mpr c5
                  clear c5
                  have H' := Aside0.mk H
                  clear H
                  go_wp2
                  go_roundg k2
                  case measure => have := HK1.out; have := HK2.out; omega
                  case rel => exact ⟨(Go.bits .xor .u32 ((Int.tdiv x3_2 2) % 4294967296) 2197175160), (wrap64 (x5_2 + 1)), (by first | rfl | (simp; done) | (simp [*]; done)), (by first | rfl | (simp; done) | (simp [*]; done)), H', ⟨by have := HK1.out; have := HK2.out; omega⟩, by repeat (first | exact Drawn0.refl _ | apply Drawn0.step)⟩
                · rw [if_neg c5] at H
                  have c5b0 : ((Int.tmod x3_2 2) == 1) = false := beq_eq_false_iff_ne.mpr c5
                  have c5b1 : ((Int.tmod x3_2 2) != 1) = true := bne_iff_ne.mpr c5
                  have H' := Aside0.mk H
                  clear H
                  go_wp2
                  go_roundg k2
                  case measure => have := HK1.out; have := HK2.out; omega
                  case rel => exact ⟨((Int.tdiv x3_2 2) % 4294967296), (wrap64 (x5_2 + 1)), (by first | rfl | (simp; done) | (simp [*]; done)), (by first | rfl | (simp; done) | (simp [*]; done)), H', ⟨by have := HK1.out; have := HK2.out; omega⟩, by repeat (first | exact Drawn0.refl _ | apply Drawn0.step)⟩
              · rw [if_neg c4] at H
                have c4b0 : decide (x5_2 < 8) = false := decide_eq_false c4
                clear c4
                have H' := Aside0.mk H
                clear H
                go_wp2
                go_roundg k2
                case measure => have := HK1.out; have := HK2.out; omega
                case rel => exact ⟨(x3_2), (wrap64 (x4_1 + 1)), (by first | rfl | (simp; done) | (simp [*]; done)), (by first | rfl | (simp; done) | (simp [*]; done)), H', ⟨by have := HK1.out; have := HK2.out; omega⟩, by repeat (first | exact Drawn0.refl _ | apply Drawn0.step)⟩
        · rw [if_neg c3] at H
          exact absurd H (by simp)
      · rw [if_neg c2] at H
        have c2b0 : decide (x4_1 < (l0.length : Int)) = false := decide_eq_false c2
        clear c2
        obtain rfl := Option.some.inj H
        go_wp2
        go_ret
        exact ⟨by first | rfl | (simp; done) | (simp [*]; done), by repeat (first | exact Drawn0.refl _ | apply Drawn0.step)⟩

/-! ### screeref2_Sum: function 32 -/
open Go.Proofs.YtnamanalacjhnaaDoor.G
theorem bits_step (x : Nat) (hx : x < 4294967296) : (if Int.tmod (x : Int) 2 = 1 then Go.bits .xor .u32 ((Int.tdiv (x : Int) 2) % 4294967296) 2197175160 else (Int.tdiv (x : Int) 2) % 4294967296) = ((stepN x : Nat) : Int) := by
  have h1 : Int.tmod (x : Int) 2 = ((x % 2 : Nat) : Int) := rfl
  have h2 : Int.tdiv (x : Int) 2 % 4294967296 = ((x / 2 : Nat) : Int) := by rw [show Int.tdiv (x : Int) 2 = ((x / 2 : Nat) : Int) from rfl]; omega
  rw [h1, h2]
  unfold stepN
  by_cases h : x % 2 = 1
  · rw [if_pos h, if_pos (by omega), show (2197175160 : Int) = ((2197175160 : Nat) : Int) from rfl, u32_xor_nat _ _ (by omega) (by omega)]
  · rw [if_neg h, if_neg (by omega)]
theorem stepN_lt (x : Nat) (hx : x < 4294967296) : stepN x < 4294967296 := by
  unfold stepN
  split
  · exact Nat.xor_lt_two_pow (n := 32) (by omega) (by omega)
  · omega
def iter : Nat → Nat → Nat
  | 0, x => x
  | d + 1, x => iter d (stepN x)
theorem l1_ev (l : List Int) (i r : Int) (d : Nat) : ∀ (j : Int) (x : Nat), x < 4294967296 → j + d = 8 → 0 ≤ j → Ev (fun k => screeref2_Sum_p.l0 k l (iter d x : Nat) (wrap64 (i + 1))) r → Ev (fun k => screeref2_Sum_p.l1 k l (x : Int) i j) r := by
  induction d with
  | zero =>
    intro j x hx hj h0 h
    refine Ev.step (fun k => ?_) h
    simp only [screeref2_Sum_p.l1]
    rw [if_neg (by omega)]
    rfl
  | succ d ih =>
    intro j x hx hj h0 h
    refine Ev.step (f := fun k => screeref2_Sum_p.l1 k l (stepN x : Nat) i (j + 1)) (fun k => ?_) (ih (j + 1) (stepN x) (stepN_lt x hx) (by omega) (by omega) h)
    simp only [screeref2_Sum_p.l1]
    rw [if_pos (by omega), show wrap64 (j + 1) = j + 1 by unfold wrap64; omega, ← bits_step x hx]
    split <;> rfl
theorem iter8 (x : Nat) (hx : x < 4294967296) : ((iter 8 x : Nat) : Int) = sum1 (sum1 (x : Int)) := by
  have h1 : iter 8 x = step4 (step4 x) := rfl
  have h2 : step4 x < 4294967296 := stepN_lt _ (stepN_lt _ (stepN_lt _ (stepN_lt _ hx)))
  rw [h1, step4_eq _ h2, step4_eq _ hx]
theorem l0_ev (l : List Int) (hl : Bytes l) (hm : l.length ≤ 9223372036854775806) (d : Nat) : ∀ (i : Nat), i + d = l.length → Ev (fun k => screeref2_Sum_p.l0 k l (sumf (l.take i)) (i : Int)) (sumF l) := by
  induction d with
  | zero =>
    intro i hi
    refine Ev.step (f := fun _ => some (sumF l)) (fun k => ?_) (Ev.now _)
    simp only [screeref2_Sum_p.l0]
    rw [if_neg (by omega), List.take_of_length_le (by omega)]
    have hr := sumf_range hl
    obtain ⟨a, ha⟩ := Int.eq_ofNat_of_zero_le hr.1
    unfold sumF
    rw [ha, show (4294967295 : Int) = ((4294967295 : Nat) : Int) from rfl, u32_xor_nat _ _ (by have := hr.2; omega) (by omega), u32_xor_nat _ _ (by omega) (by have := hr.2; omega), Nat.xor_comm]
  | succ d ih =>
    intro i hi
    have h := ih (i + 1) (by omega)
    have hlt : i < l.length := by omega
    have hr : U32 (sumf (l.take i)) := sumf_range (fun y hy => hl y (List.mem_of_mem_take hy))
    have hb := bytes_rd hl i hlt
    rw [sumf_snoc l i hlt] at h
    have hx := u32_xor_range hr (y := rd l i) ⟨hb.1, by omega⟩
    obtain ⟨x, hxe⟩ := Int.eq_ofNat_of_zero_le hx.1
    have hxl : x < 4294967296 := by have := hx.2; omega
    refine Ev.step (f := fun k => screeref2_Sum_p.l1 k l (x : Int) (i : Int) 0) (fun k => ?_) (l1_ev l i _ 8 0 x hxl (by omega) (by omega) ?_)
    · simp only [screeref2_Sum_p.l0]
      rw [if_pos (by omega), if_pos (by omega), show rd l (i : Int) % 4294967296 = rd l (i : Int) by omega, hxe]
    · rw [iter8 x hxl, show wrap64 ((i : Int) + 1) = ((i + 1 : Nat) : Int) by unfold wrap64; omega]
      unfold sumc at h
      rw [hxe] at h
      exact h
def screeref2_Sum.f (l0 : List Int) : Option Int := if okB l0 = true ∧ l0.length ≤ 140737488355328 then some (sumF l0) else none
theorem screeref2_Sum.calls (A0 : Option Addr) (c0 : Nat) (l0 : List Int) (r : Int) (w : World) (hr0 : Kd.C (Kd.int .u8) w A0 l0.length l0) (hc0 : l0.length ≤ c0) (h : screeref2_Sum.f l0 = some r) :
    Calls Tryd.prog 32 #[.slice A0 l0.length c0] w fun e w' => e = .returned (.int .u32 r) ∧ Drawn0 w w' := by
  unfold screeref2_Sum.f at h
  split at h
  · rename_i hh
    obtain ⟨k, hk⟩ := (l0_ev l0 (okB_iff.1 hh.1) (by omega) l0.length 0 (by omega)).rounds
    rw [Option.some.inj h] at hk
    exact screeref2_Sum_p.calls k A0 c0 l0 r w hr0 hc0 hk
  · cases h

end Go.Proofs.YtnamanalacjhnaaDoor.QAp
