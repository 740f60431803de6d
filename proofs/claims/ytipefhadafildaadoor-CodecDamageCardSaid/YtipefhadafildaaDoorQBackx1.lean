-- Printed by a program of this claim's own out of the translation.
import Derived.Test.YtipefhadafildaaDoorQBackx0
namespace Go.Proofs.YtipefhadafildaaDoor.QBack
open Go.Proofs.YtipefhadafildaaDoor.Own
open Go.RowKit Go.Proofs.YtipefhadafildaaDoorW.PrintWords Go.Proofs.YtipefhadafildaaDoorW.PrintLast Go.Proofs.YtipefhadafildaaDoorW.PrintMore
attribute [local go_sem] max2_int min2_int max_two min_two max_three min_three max_four min_four   -- for this text's walks alone
set_option linter.unusedVariables false
set_option linter.unusedSimpArgs false

/-! ### screelaw2_behind_p: function 8 -/
def screelaw2_behind_p.f (l0 : List Int) (l1 : List Int) : Option (List Int) := if ([] : List Int).length + l0.length < 140737488355328 then ((some (([] : List Int) ++ l0 : List Int)).bind fun y101 => (if y101.length + l1.length < 140737488355328 then (some (y101 ++ l1)) else (none))) else (none)
set_option maxHeartbeats 8000000 in
set_option maxRecDepth 100000 in
theorem screelaw2_behind_p.calls (A0 : Option Addr) (c0 : Nat) (l0 : List Int) (A1 : Option Addr) (c1 : Nat) (l1 : List Int) (r : List Int) (w : World) (hr0 : Kd.C (Kd.int .u8) w A0 l0.length l0) (hc0 : l0.length ≤ c0) (hr1 : Kd.C (Kd.int .u8) w A1 l1.length l1) (hc1 : l1.length ≤ c1) (h : screelaw2_behind_p.f l0 l1 = some r) :
    Calls Tryd.prog 8 #[.slice A0 l0.length c0, .slice A1 l1.length c1] w fun e w' => ∃ v0_ : Value, e = .returned (v0_) ∧ Kd.R (Kd.int .u8) 5 w' w.heap.size (fun _ => True) v0_ r ∧ Below w.heap.size w w' := by
  have HR0 := Aside0.mk hr0
  have HC0 := Aside0.mk hc0
  clear hr0 hc0
  have HR1 := Aside0.mk hr1
  have HC1 := Aside0.mk hc1
  clear hr1 hc1
  have HB := Aside0.mk (Below.refl w.heap.size w)
  have H : (if ([] : List Int).length + l0.length < 140737488355328 then ((some (([] : List Int) ++ l0 : List Int)).bind fun y101 => (if y101.length + l1.length < 140737488355328 then (some (y101 ++ l1)) else (none))) else (none)) = some r := h
  clear h
  by_cases c3 : ([] : List Int).length + l0.length < 140737488355328
  · rw [if_pos c3] at H
    have LMc3 := Aside0.mk c3
    clear c3
    obtain ⟨y101, hy101⟩ : ∃ y_ : List Int, y_ = (([] : List Int) ++ l0) := ⟨_, rfl⟩
    replace H : (if y101.length + l1.length < 140737488355328 then (some (y101 ++ l1)) else (none)) = some r := by first | (rw [hy101]; with_reducible exact H) | (have H2_ := (Option.bind_some _ _).symm.trans H; rw [hy101]; with_reducible exact H2_) | (have H2_ := (Option.bind_some _ _).symm.trans H; with_reducible exact H2_) | with_reducible exact H | (rw [hy101]; exact H) | exact H
    have Ny101 := Aside0.mk hy101
    clear hy101
    by_cases c4 : y101.length + l1.length < 140737488355328
    · rw [if_pos c4] at H
      have LMc4 := Aside0.mk c4
      clear c4
      obtain ⟨y104, hy104⟩ : ∃ y_ : List Int, y_ = (y101 ++ l1) := ⟨_, rfl⟩
      replace H : (some y104) = some r := by first | (rw [hy104]; with_reducible exact H) | (have H2_ := (Option.bind_some _ _).symm.trans H; rw [hy104]; with_reducible exact H2_) | (have H2_ := (Option.bind_some _ _).symm.trans H; with_reducible exact H2_) | with_reducible exact H | (rw [hy104]; exact H) | exact H
      have Ny104 := Aside0.mk hy104
      clear hy104
      obtain rfl := Option.some.inj H
      go_enter Tryd.func8, Tryd.ntmps8
      go_wp2_with (first | ((with_reducible refine gate_builtin (b := .append) (xs := #[.tmp 6, .tmp 7]) rfl ?_); at_builtin; refine Kd.R_append_rows (Kd.int .u8) (w0 := w) w.heap.size rfl (.tmp 6) (.tmp 7) 22 5 (.int .u8 0) 1 rfl Tryd.underlying22 info5 rfl (by decide) (by omega) (.slice none 0 0) ([] : List Int) l0 _ _ _ (fun _ => True) (fun _ => False) rfl rfl ?aO ?aR (fun _ _ h => h) (fun _ h => h.elim) ?aF ?aB ?aS ?aL ?_; (case aR => repeat (first | exact HR0.out | (with_reducible refine Kd.C_alloc ?_ _) | (with_reducible refine Kd.C_drewN ?_ _) | (with_reducible refine Kd.C_drew ?_))); (case aB => exact (by repeat (first | (with_reducible first | exact HB.out | apply below_alloc | apply pw_below_drewN | apply below_drew1) | exact HB.out))); (case aF => exact (fun _ _ => trivial)); (case aO => exact ((Kd.R_nil _ _ _ _ (fun _ => True)))); (case aS => exact (below_size (by repeat (first | (with_reducible first | exact HB.out | apply below_alloc | apply pw_below_drewN | apply below_drew1) | exact HB.out)))); (case aL => have := LMc3.out; omega); intro v102 w5 ho hb hg hat; rw [← Ny101.out] at ho; have n0_ := Aside0.mk (hb); have n1_ := Aside0.mk (ho); clear HB; have HB := n0_; have HO103 := n1_; clear n0_ n1_; clear ho hb hg hat) | ((with_reducible refine gate_builtin (b := .append) (xs := #[.tmp 9, .tmp 10]) rfl ?_); at_builtin; refine Kd.R_append_rows (Kd.int .u8) (w0 := w) w.heap.size rfl (.tmp 9) (.tmp 10) 22 5 (.int .u8 0) 1 rfl Tryd.underlying22 info5 rfl (by decide) (by omega) v102 y101 l1 _ _ _ (fun _ => True) (fun _ => False) rfl rfl ?aO ?aR (fun _ _ h => h) (fun _ h => h.elim) ?aF ?aB ?aS ?aL ?_; (case aR => repeat (first | exact (Kd.C_below HR1.out HB.out) | (with_reducible refine Kd.C_alloc ?_ _) | (with_reducible refine Kd.C_drewN ?_ _) | (with_reducible refine Kd.C_drew ?_))); (case aB => exact (by repeat (first | (with_reducible first | exact HB.out | apply below_alloc | apply pw_below_drewN | apply below_drew1) | exact HB.out))); (case aF => exact (fun _ _ => trivial)); (case aO => exact (by (with_reducible repeat (first | apply Kd.R_alloc | apply Kd.R_drewN | apply Kd.R_drew)); exact HO103.out)); (case aS => exact (below_size (by repeat (first | (with_reducible first | exact HB.out | apply below_alloc | apply pw_below_drewN | apply below_drew1) | exact HB.out)))); (case aL => have := LMc4.out; omega); intro v105 w6 ho hb hg hat; rw [← Ny104.out] at ho; have n0_ := Aside0.mk (hb); have n1_ := Aside0.mk (ho); clear HB; clear HO103; have HB := n0_; have HO106 := n1_; clear n0_ n1_; clear ho hb hg hat))
      go_ret
      exact ⟨_, by first | rfl | (simp [errW_none, errW_some] <;> rfl) | (simp [*, errW_none, errW_some] <;> rfl), by (with_reducible repeat (first | apply Kd.R_alloc | apply Kd.R_drewN | apply Kd.R_drew)); exact HO106.out, by repeat (first | (with_reducible first | exact HB.out | apply below_alloc | apply pw_below_drewN | apply below_drew1) | exact HB.out)⟩
    · rw [if_neg c4] at H
      exact absurd H (by simp)
  · rw [if_neg c3] at H
    exact absurd H (by simp)

/-! ### screelaw2_behind: function 8 -/
def screelaw2_behind.f (l0 : List Int) (l1 : List Int) : Option (List Int) := if l0.length + l1.length < 140737488355328 then some (l0 ++ l1) else none
theorem screelaw2_behind.calls (A0 : Option Addr) (c0 : Nat) (l0 : List Int) (A1 : Option Addr) (c1 : Nat) (l1 : List Int) (r : List Int) (w : World) (hr0 : Kd.C (Kd.int .u8) w A0 l0.length l0) (hc0 : l0.length ≤ c0) (hr1 : Kd.C (Kd.int .u8) w A1 l1.length l1) (hc1 : l1.length ≤ c1) (h : screelaw2_behind.f l0 l1 = some r) :
    Calls Tryd.prog 8 #[.slice A0 l0.length c0, .slice A1 l1.length c1] w fun e w' => ∃ v0_ : Value, e = .returned (v0_) ∧ Kd.R (Kd.int .u8) 5 w' w.heap.size (fun _ => True) v0_ r ∧ Below w.heap.size w w' := by
  refine screelaw2_behind_p.calls A0 c0 l0 A1 c1 l1 r w hr0 hc0 hr1 hc1 ?_
  unfold screelaw2_behind.f at h
  split at h
  · rename_i hh
    unfold screelaw2_behind_p.f
    rw [if_pos (by simp; omega)]
    simp only [List.nil_append, Option.bind_some]
    rw [if_pos hh]
    exact h
  · cases h

/-! ### screelaw2_same_p: function 12 -/
def screelaw2_same_p.l0 : Nat → List Int → List Int → Int → Option (Bool)
  | 0, _, _, _ => none
  | k + 1, x0, x1, x5 => if x5 < (x0.length : Int) then (if 0 ≤ x5 then (if x5 < (x1.length : Int) then (if (rd x0 x5) = (rd x1 x5) then (screelaw2_same_p.l0 k x0 x1 (wrap64 (x5 + 1))) else (some false)) else (none)) else (none)) else (some true)
def screelaw2_same_p.f (k : Nat) (l0 : List Int) (l1 : List Int) : Option (Bool) := if (l0.length : Int) = (l1.length : Int) then (screelaw2_same_p.l0 k l0 l1 0) else (some false)
theorem screelaw2_same_p.mono_l : ∀ k, (∀ y0 y1 y2, LeO (screelaw2_same_p.l0 k y0 y1 y2) (screelaw2_same_p.l0 (k + 1) y0 y1 y2))
  | 0 => fun _ _ _ r h => by simp [screelaw2_same_p.l0] at h
  | k + 1 => by
    have ih0 := screelaw2_same_p.mono_l k
    · intro y0 y1 y2
      unfold screelaw2_same_p.l0
      repeat' first
      | (with_reducible exact ih0 _ _ _)
      | (with_reducible exact LeO.refl _)
      | (with_reducible exact LeO.none _)
      | (with_reducible refine LeO.ite ?_ ?_)
      | (with_reducible refine LeO.bind ?_ (fun _ => ?_))
      | exact ih0 _ _ _
      | exact LeO.none _
      | refine LeO.ite ?_ ?_
      | refine LeO.bind ?_ (fun _ => ?_)
theorem screelaw2_same_p.mono : ∀ a0 a1 k, LeO (screelaw2_same_p.f k a0 a1) (screelaw2_same_p.f (k + 1) a0 a1) := by
  intro a0 a1 k
  have ih0 := screelaw2_same_p.mono_l k
  unfold screelaw2_same_p.f
  repeat' first
      | (with_reducible exact ih0 _ _ _)
      | (with_reducible exact LeO.refl _)
      | (with_reducible exact LeO.none _)
      | (with_reducible refine LeO.ite ?_ ?_)
      | (with_reducible refine LeO.bind ?_ (fun _ => ?_))
      | exact ih0 _ _ _
      | exact LeO.none _
      | refine LeO.ite ?_ ?_
      | refine LeO.bind ?_ (fun _ => ?_)
set_option maxHeartbeats 8000000 in
set_option maxRecDepth 100000 in
theorem screelaw2_same_p.calls (k : Nat) (A0 : Option Addr) (c0 : Nat) (l0 : List Int) (A1 : Option Addr) (c1 : Nat) (l1 : List Int) (r : Bool) (w : World) (hr0 : Kd.C (Kd.int .u8) w A0 l0.length l0) (hc0 : l0.length ≤ c0) (hr1 : Kd.C (Kd.int .u8) w A1 l1.length l1) (hc1 : l1.length ≤ c1) (h : screelaw2_same_p.f k l0 l1 = some r) :
    Calls Tryd.prog 12 #[.slice A0 l0.length c0, .slice A1 l1.length c1] w fun e w' => e = .returned (.bool r) ∧ Drawn0 w w' := by
  have HR0 := Aside0.mk hr0
  have HC0 := Aside0.mk hc0
  clear hr0 hc0
  have HR1 := Aside0.mk hr1
  have HC1 := Aside0.mk hc1
  clear hr1 hc1
  have H : (if (l0.length : Int) = (l1.length : Int) then (screelaw2_same_p.l0 k l0 l1 0) else (some false)) = some r := h
  clear h
  by_cases c3 : (l0.length : Int) = (l1.length : Int)
  · rw [if_pos c3] at H
    have c3b0 : ((l0.length : Int) == (l1.length : Int)) = true := beq_iff_eq.mpr c3
    have c3b1 : ((l0.length : Int) != (l1.length : Int)) = false := bne_eq_false_iff_eq.mpr c3
    have c3b2 : (l0.length == l1.length) = true := by first | simpa using c3 | (simp at c3 ⊢; omega)
    clear c3
    have H' := Aside0.mk H
    clear H
    go_enter Tryd.func12, Tryd.ntmps12
    go_wp2
    repeat (go_quiet (fail); try go_wp2)
    go_loopg [5] k (fun kq v5 w' => ∃ (x5_1 : Int), v5 = .int .i64 x5_1 ∧ Aside0 (screelaw2_same_p.l0 kq l0 l1 x5_1 = some r) ∧ Aside0 (kq ≤ k) ∧ Drawn0 w w')
    case atStart => exact ⟨(0), (by first | rfl | (simp; done) | (simp [*]; done)), H', ⟨Nat.le_refl _⟩, by repeat (first | exact Drawn0.refl _ | apply Drawn0.step)⟩
    case round =>
      clear H'
      try clear c1
      try clear p2
      try clear c3
      try clear c3b0
      try clear c3b1
      try clear c3b2
      obtain ⟨x5_1, rfl, HA, HK1, ⟨m1, rfl⟩⟩ := hrel
      cases gk with
      | zero => exact absurd HA.out (by simp [screelaw2_same_p.l0])
      | succ k1 =>
        have H := HA.out
        clear HA
        simp only [screelaw2_same_p.l0] at H
        by_cases c4 : x5_1 < (l0.length : Int)
        · rw [if_pos c4] at H
          have c4b0 : decide (x5_1 < (l0.length : Int)) = true := decide_eq_true c4
          clear c4
          by_cases c5 : 0 ≤ x5_1
          · rw [if_pos c5] at H
            have c5b0 : decide (0 ≤ x5_1) = true := decide_eq_true c5
            clear c5
            by_cases c6 : x5_1 < (l1.length : Int)
            · rw [if_pos c6] at H
              have c6b0 : decide (x5_1 < (l1.length : Int)) = true := decide_eq_true c6
              clear c6
              by_cases c7 : (rd l0 x5_1) = (rd l1 x5_1)
              · rw [if_pos c7] at H
                have c7b0 : ((rd l0 x5_1) == (rd l1 x5_1)) = true := beq_iff_eq.mpr c7
                have c7b1 : ((rd l0 x5_1) != (rd l1 x5_1)) = false := bne_eq_false_iff_eq.mpr c7
                clear c7
                have H' := Aside0.mk H
                clear H
                have p107 : 0 ≤ (x5_1 : Int) := of_decide_eq_true (by first | (with_reducible assumption) | assumption)
                have q107 : x5_1 < (l0.length : Int) := of_decide_eq_true (by first | (with_reducible assumption) | assumption)
                obtain ⟨ad107, e107, hx107_0⟩ := Kd.at_int HR0.out x5_1 p107 q107
                cases e107
                replace p107 := eq_true p107
                replace q107 := eq_true q107
                have p108 : 0 ≤ (x5_1 : Int) := of_decide_eq_true (by first | (with_reducible assumption) | assumption)
                have q108 : x5_1 < (l1.length : Int) := of_decide_eq_true (by first | (with_reducible assumption) | assumption)
                obtain ⟨ad108, e108, hx108_0⟩ := Kd.at_int HR1.out x5_1 p108 q108
                cases e108
                replace p108 := eq_true p108
                replace q108 := eq_true q108
                go_wp2
                repeat (go_quiet (fail); try go_wp2)
                go_roundg k1
                case measure => have := HK1.out; omega
                case rel => exact ⟨(wrap64 (x5_1 + 1)), (by first | rfl | (simp; done) | (simp [*]; done)), H', ⟨by have := HK1.out; omega⟩, by repeat (first | exact Drawn0.refl _ | apply Drawn0.step)⟩
              · rw [if_neg c7] at H
                have c7b0 : ((rd l0 x5_1) == (rd l1 x5_1)) = false := beq_eq_false_iff_ne.mpr c7
                have c7b1 : ((rd l0 x5_1) != (rd l1 x5_1)) = true := bne_iff_ne.mpr c7
                obtain rfl := Option.some.inj H
                have p107 : 0 ≤ (x5_1 : Int) := of_decide_eq_true (by first | (with_reducible assumption) | assumption)
                have q107 : x5_1 < (l0.length : Int) := of_decide_eq_true (by first | (with_reducible assumption) | assumption)
                obtain ⟨ad107, e107, hx107_0⟩ := Kd.at_int HR0.out x5_1 p107 q107
                cases e107
                replace p107 := eq_true p107
                replace q107 := eq_true q107
                have p108 : 0 ≤ (x5_1 : Int) := of_decide_eq_true (by first | (with_reducible assumption) | assumption)
                have q108 : x5_1 < (l1.length : Int) := of_decide_eq_true (by first | (with_reducible assumption) | assumption)
                obtain ⟨ad108, e108, hx108_0⟩ := Kd.at_int HR1.out x5_1 p108 q108
                cases e108
                replace p108 := eq_true p108
                replace q108 := eq_true q108
                go_wp2
                repeat (go_quiet (fail); try go_wp2)
                go_ret
                exact ⟨by first | rfl | (simp; done) | (simp [*]; done), by repeat (first | exact Drawn0.refl _ | apply Drawn0.step)⟩
            · rw [if_neg c6] at H
              exact absurd H (by simp)
          · rw [if_neg c5] at H
            exact absurd H (by simp)
        · rw [if_neg c4] at H
          have c4b0 : decide (x5_1 < (l0.length : Int)) = false := decide_eq_false c4
          clear c4
          obtain rfl := Option.some.inj H
          go_wp2
          repeat (go_quiet (fail); try go_wp2)
          go_ret
          exact ⟨by first | rfl | (simp; done) | (simp [*]; done), by repeat (first | exact Drawn0.refl _ | apply Drawn0.step)⟩
  · rw [if_neg c3] at H
    have c3b0 : ((l0.length : Int) == (l1.length : Int)) = false := beq_eq_false_iff_ne.mpr c3
    have c3b1 : ((l0.length : Int) != (l1.length : Int)) = true := bne_iff_ne.mpr c3
    have c3b2 : (l0.length == l1.length) = false := by first | simpa using c3 | (simp at c3 ⊢; omega)
    obtain rfl := Option.some.inj H
    go_enter Tryd.func12, Tryd.ntmps12
    go_wp2
    repeat (go_quiet (fail); try go_wp2)
    go_ret
    exact ⟨by first | rfl | (simp; done) | (simp [*]; done), by repeat (first | exact Drawn0.refl _ | apply Drawn0.step)⟩

/-! ### screelaw2_same: function 12 -/
theorem screelaw2_same_ev (l1 l2 : List Int) (hlen : l1.length = l2.length) (hm : l1.length ≤ 9223372036854775807) (d : Nat) : ∀ i : Nat, i + d = l1.length → Ev (fun k => screelaw2_same_p.l0 k l1 l2 (i : Int)) (decide (l1.drop i = l2.drop i)) := by
  induction d with
  | zero =>
    intro i hi
    refine Ev.step (f := fun _ => some true) (fun k => ?_) (by rw [List.drop_of_length_le (by omega), List.drop_of_length_le (by omega)]; exact Ev.now _)
    simp only [screelaw2_same_p.l0]
    rw [if_neg (by omega)]
  | succ d ih =>
    intro i hi
    have h1 : i < l1.length := by omega
    have h2 : i < l2.length := by omega
    have e1 : rd l1 (i : Int) = l1[i] := by simp [rd, List.getD_eq_getElem?_getD, h1]
    have e2 : rd l2 (i : Int) = l2[i] := by simp [rd, List.getD_eq_getElem?_getD, h2]
    rw [List.drop_eq_getElem_cons h1, List.drop_eq_getElem_cons h2]
    by_cases h : l1[i] = l2[i]
    · have hd : decide (l1[i] :: l1.drop (i + 1) = l2[i] :: l2.drop (i + 1)) = decide (l1.drop (i + 1) = l2.drop (i + 1)) := decide_eq_decide.2 ⟨fun e => (List.cons.inj e).2, fun e => by rw [h, e]⟩
      rw [hd]
      refine Ev.step (fun k => ?_) (ih (i + 1) (by omega))
      simp only [screelaw2_same_p.l0]
      rw [if_pos (by omega), if_pos (by omega), if_pos (by omega), e1, e2, if_pos h, show wrap64 ((i : Int) + 1) = ((i + 1 : Nat) : Int) by unfold wrap64; omega]
    · have hd : decide (l1[i] :: l1.drop (i + 1) = l2[i] :: l2.drop (i + 1)) = false := decide_eq_false (fun e => h (List.cons.inj e).1)
      rw [hd]
      refine Ev.step (f := fun _ => some false) (fun k => ?_) (Ev.now _)
      simp only [screelaw2_same_p.l0]
      rw [if_pos (by omega), if_pos (by omega), if_pos (by omega), e1, e2, if_neg h]
def screelaw2_same.f (l0 : List Int) (l1 : List Int) : Option (Bool) := if l0.length ≤ 9223372036854775807 then some (decide (l0 = l1)) else none
theorem screelaw2_same.calls (A0 : Option Addr) (c0 : Nat) (l0 : List Int) (A1 : Option Addr) (c1 : Nat) (l1 : List Int) (r : Bool) (w : World) (hr0 : Kd.C (Kd.int .u8) w A0 l0.length l0) (hc0 : l0.length ≤ c0) (hr1 : Kd.C (Kd.int .u8) w A1 l1.length l1) (hc1 : l1.length ≤ c1) (h : screelaw2_same.f l0 l1 = some r) :
    Calls Tryd.prog 12 #[.slice A0 l0.length c0, .slice A1 l1.length c1] w fun e w' => e = .returned (.bool r) ∧ Drawn0 w w' := by
  unfold screelaw2_same.f at h
  split at h
  · rename_i hh
    by_cases hlen : l0.length = l1.length
    · obtain ⟨k, hk⟩ := (screelaw2_same_ev l0 l1 hlen hh l0.length 0 (by omega)).rounds
      refine screelaw2_same_p.calls k A0 c0 l0 A1 c1 l1 r w hr0 hc0 hr1 hc1 ?_
      unfold screelaw2_same_p.f
      rw [if_pos (by omega)]
      rw [← h]
      exact hk
    · refine screelaw2_same_p.calls 0 A0 c0 l0 A1 c1 l1 r w hr0 hc0 hr1 hc1 ?_
      unfold screelaw2_same_p.f
      rw [if_neg (by omega), ← h]
      have : ¬ l0 = l1 := fun e => hlen (by rw [e])
      simp [this]
  · cases h

/-! ### codec_Sum: function 11 -/
open Go.Proofs.YtipefhadafildaaDoor.G
def codec_Sum.f (l0 : List Int) : Option Int := if okB l0 = true then some (sumF l0) else none
theorem codec_Sum.calls (A0 : Option Addr) (c0 : Nat) (l0 : List Int) (r : Int) (w : World) (hr0 : Kd.C (Kd.int .u8) w A0 l0.length l0) (hc0 : l0.length ≤ c0) (h : codec_Sum.f l0 = some r) (hT_ : GT w) :
    Calls Tryd.prog 11 #[.slice A0 l0.length c0] w fun e w' => e = .returned (.int .u32 r) ∧ w' = w := by
  unfold codec_Sum.f at h
  split at h
  · rename_i hh
    rw [← Option.some.inj h]
    exact Go.Proofs.YtipefhadafildaaDoor.G.sum_calls A0 c0 l0 w hr0 hc0 (okB_iff.1 hh) hT_
  · cases h

/-! ### codec_sum: function 39 -/
def codec_sum.f (l0 : List Int) : Option (List Int) := (codec_Sum.f l0).bind fun t109 => ((some (([(t109) % 256, (t109 / 256) % 256, (t109 / 65536) % 256, (t109 / 16777216) % 256] : List Int) : List Int)).bind fun y110 => (if l0.length + y110.length < 140737488355328 then (some (l0 ++ y110)) else (none)))
set_option maxHeartbeats 8000000 in
set_option maxRecDepth 100000 in
theorem codec_sum.calls (P0_ : Nat → Prop) (u9000_ : Value) (l0 : List Int) (r : List Int) (w0 w : World) (hB : Below w0.heap.size w0 w) (ho0 : Kd.R (Kd.int .u8) 5 w w0.heap.size P0_ u9000_ l0) (h : codec_sum.f l0 = some r) (hT_ : GT w0) :
    Calls Tryd.prog 39 #[u9000_] w fun e w' => ∃ v0_ : Value, e = .returned (v0_) ∧ Kd.R (Kd.int .u8) 5 w' w0.heap.size (fun k_ => (P0_ k_ ∨ w.heap.size ≤ k_)) v0_ r ∧ Below w0.heap.size w0 w' ∧ Kept w w' (fun k_ => P0_ k_) := by
  have HT_ := Aside0.mk hT_
  clear hT_
  have HO0 := Aside0.mk (show Kd.R (Kd.int .u8) 5 w w0.heap.size (fun k_ => (P0_ k_ ∨ w.heap.size ≤ k_)) u9000_ l0 from Kd.R_mono ho0 (fun k_ hk => (.inl hk)))
  have HK := Aside0.mk (Kept.refl w (fun k_ => P0_ k_))
  have HW0 := Aside0.mk hB.size
  have HB := Aside0.mk hB
  clear hB
  have H : ((codec_Sum.f l0).bind fun t109 => ((some (([(t109) % 256, (t109 / 256) % 256, (t109 / 65536) % 256, (t109 / 16777216) % 256] : List Int) : List Int)).bind fun y110 => (if l0.length + y110.length < 140737488355328 then (some (l0 ++ y110)) else (none)))) = some r := h
  clear h
  replace H := Option.bind_eq_some_iff.mp H
  obtain ⟨t109, A20, H⟩ := H
  replace H : ((some (([(t109) % 256, (t109 / 256) % 256, (t109 / 65536) % 256, (t109 / 16777216) % 256] : List Int) : List Int)).bind fun y110 => (if l0.length + y110.length < 140737488355328 then (some (l0 ++ y110)) else (none))) = some r := H
  have A2 := Aside0.mk A20
  clear A20
  obtain ⟨y110, hy110⟩ : ∃ y_ : List Int, y_ = (([(t109) % 256, (t109 / 256) % 256, (t109 / 65536) % 256, (t109 / 16777216) % 256] : List Int)) := ⟨_, rfl⟩
  replace H : (if l0.length + y110.length < 140737488355328 then (some (l0 ++ y110)) else (none)) = some r := by first | (rw [hy110]; with_reducible exact H) | (have H2_ := (Option.bind_some _ _).symm.trans H; rw [hy110]; with_reducible exact H2_) | (have H2_ := (Option.bind_some _ _).symm.trans H; with_reducible exact H2_) | with_reducible exact H | (rw [hy110]; exact H) | exact H
  have Ny110 := Aside0.mk hy110
  clear hy110
  by_cases c3 : l0.length + y110.length < 140737488355328
  · rw [if_pos c3] at H
    have LMc3 := Aside0.mk c3
    clear c3
    obtain ⟨y113, hy113⟩ : ∃ y_ : List Int, y_ = (l0 ++ y110) := ⟨_, rfl⟩
    replace H : (some y113) = some r := by first | (rw [hy113]; with_reducible exact H) | (have H2_ := (Option.bind_some _ _).symm.trans H; rw [hy113]; with_reducible exact H2_) | (have H2_ := (Option.bind_some _ _).symm.trans H; with_reducible exact H2_) | with_reducible exact H | (rw [hy113]; exact H) | exact H
    have Ny113 := Aside0.mk hy113
    clear hy113
    obtain rfl := Option.some.inj H
    obtain ⟨Ao4, co4, eo4⟩ := Kd.R_slice HO0.out
    subst eo4
    go_enter Tryd.func39, Tryd.ntmps39
    go_wp2_with (first | ((with_reducible refine gate_callee (f := 11) rfl ?_); refine goesL_ (some 5) rfl rfl Tryd.func11 (by kernel_rfl) rfl #[.slice Ao4 l0.length co4] rfl (by (try simp only [List.map_toArray, List.map_cons, List.map_nil]); first | done | rfl | (simp only [List.length_drop, List.length_take]; rfl)) ?_; (with_reducible refine (codec_Sum.calls _ _ l0 t109 _ ?side1 ?side2 A2.out ?side3).mono ?_); (case side1 => repeat (first | exact (Kd.R_reads' HO0.out).2.2 | (with_reducible refine Kd.C_alloc ?_ _) | (with_reducible refine Kd.C_drewN ?_ _) | (with_reducible refine Kd.C_drew ?_))); (case side2 => exact (Kd.R_reads' HO0.out).2.1); (case side3 => first | (with_reducible exact HT_.out) | exact GT.below HT_.out (by repeat (first | (with_reducible first | exact HB.out | apply below_alloc | apply pw_below_drewN | apply below_drew1) | exact HB.out))); rintro e w' ⟨rfl, ⟨nd, rfl⟩⟩; refine ⟨_, rfl, ?_⟩) | ((with_reducible refine gate_dst (N := 18) rfl ?_); refine Kd.R_lit (Kd.int .u8) _ 5 ?hg (N := 18) ?hd (xs := ([(t109) % 256, (t109 / 256) % 256, (t109 / 65536) % 256, (t109 / 16777216) % 256] : List Int)) (inner := [.int .u8 ((t109) % 256), .int .u8 ((t109 / 256) % 256), .int .u8 ((t109 / 65536) % 256), .int .u8 ((t109 / 16777216) % 256)]) (ok := fun _ => True) (okp := fun _ => True) ?hr ?hp (fun _ hk => hk) trivial (Below.refl _ _) (Nat.le_refl _) (by simp) ?_; (case hd => rfl); (case hg => rfl); (case hr => first | (go_simp; done) | (go_simp; rfl)); (case hp => exact (Reps.one (show Kd.M (Kd.int .u8) _ _ _ ((t109) % 256) [.int .u8 ((t109) % 256)] from rfl) (Reps.one (show Kd.M (Kd.int .u8) _ _ _ ((t109 / 256) % 256) [.int .u8 ((t109 / 256) % 256)] from rfl) (Reps.one (show Kd.M (Kd.int .u8) _ _ _ ((t109 / 65536) % 256) [.int .u8 ((t109 / 65536) % 256)] from rfl) (Reps.one (show Kd.M (Kd.int .u8) _ _ _ ((t109 / 16777216) % 256) [.int .u8 ((t109 / 16777216) % 256)] from rfl) (Reps.none _ _)))))); intro v111 w5 ho6 hb hg_ hnew_; clear hg_ hnew_; (first | rw [← Ny110.out] at ho6 | (simp only [Int.reduceToNat] at ho6; rw [← Ny110.out] at ho6)); have n0_ := Aside0.mk (Kd.R_elder' (by (with_reducible repeat (first | apply Kd.R_alloc | apply Kd.R_drewN | apply Kd.R_drew)); exact HO0.out) (Kd.R_base ho6) hb); have n1_ := Aside0.mk (Kd.R_lower (Kd.R_new' (Kd.R_newM (M := fun k_ => (P0_ k_ ∨ w.heap.size ≤ k_)) ho6 (by first | exact HK.out.1 | exact (show Kept w _ (fun k_ => P0_ k_) from by repeat (first | (with_reducible first | exact HK.out | apply Kept.alloc | apply Kept.drewN | apply Kept.drew) | exact HK.out)).1) (fun k_ h_ => .inr h_)) (Kd.R_lt (by (with_reducible repeat (first | apply Kd.R_alloc | apply Kd.R_drewN | apply Kd.R_drew)); exact HO0.out))) (below_size (by repeat (first | (with_reducible first | exact HB.out | apply below_alloc | apply pw_below_drewN | apply below_drew1) | exact HB.out)))); have n2_ := Aside0.mk (Kept.below (S := (fun k_ => P0_ k_)) (by repeat (first | (with_reducible first | exact HK.out | apply Kept.alloc | apply Kept.drewN | apply Kept.drew) | exact HK.out)) hb); have n3_ := Aside0.mk (below_step (by repeat (first | (with_reducible first | exact HB.out | apply below_alloc | apply pw_below_drewN | apply below_drew1) | exact HB.out)) hb); clear HO0; clear HK; clear HB; have HO0 := n0_; have HO112 := n1_; have HK := n2_; have HB := n3_; clear n0_ n1_ n2_ n3_; clear hb ho6; obtain ⟨Ao8, co8, eo8⟩ := Kd.R_slice HO112.out; subst eo8) | ((with_reducible refine gate_builtin (b := .append) (xs := #[.tmp 6, .tmp 18]) rfl ?_); at_builtin; refine Kd.R_append_rows (Kd.int .u8) (w0 := w0) w0.heap.size rfl (.tmp 6) (.tmp 18) 22 5 (.int .u8 0) 1 rfl Tryd.underlying22 info5 rfl (by decide) (by omega) (.slice Ao4 l0.length co4) l0 y110 _ _ _ (fun k_ => (P0_ k_ ∨ w.heap.size ≤ k_) ∧ some k_ ≠ (.slice Ao8 y110.length co8 : Value).ownBlock) (fun _ => False) rfl rfl ?aO ?aR (fun _ _ h => h) (fun _ h => h.elim) ?aF ?aB ?aS ?aL ?_; (case aR => repeat (first | exact (Kd.R_reads' HO112.out).2.2 | (with_reducible refine Kd.C_alloc ?_ _) | (with_reducible refine Kd.C_drewN ?_ _) | (with_reducible refine Kd.C_drew ?_))); (case aB => exact (by repeat (first | (with_reducible first | exact HB.out | apply below_alloc | apply pw_below_drewN | apply below_drew1) | exact HB.out))); (case aF => exact (fun k_ hk => ⟨(.inr (Nat.le_trans (by first | exact HK.out.1 | exact (show Kept w _ (fun k_ => P0_ k_) from by repeat (first | (with_reducible first | exact HK.out | apply Kept.alloc | apply Kept.drewN | apply Kept.drew) | exact HK.out)).1) hk)), Kd.fresh' (Kd.R_lt (by (with_reducible repeat (first | apply Kd.R_alloc | apply Kd.R_drewN | apply Kd.R_drew)); exact HO112.out)) k_ hk⟩)); (case aO => exact (by (with_reducible repeat (first | apply Kd.R_alloc | apply Kd.R_drewN | apply Kd.R_drew)); exact HO0.out)); (case aS => exact (below_size (by repeat (first | (with_reducible first | exact HB.out | apply below_alloc | apply pw_below_drewN | apply below_drew1) | exact HB.out)))); (case aL => have := LMc3.out; omega); intro v114 w7 ho hb hg hat; rw [← Ny113.out] at ho; have n0_ := Aside0.mk (Kd.R_after (ok := (fun k_ => (P0_ k_ ∨ w.heap.size ≤ k_))) (by (with_reducible repeat (first | apply Kd.R_alloc | apply Kd.R_drewN | apply Kd.R_drew)); exact Kd.R_mono HO112.out (fun _ hk => ⟨hk.1.1, hk.2⟩)) hg hat); have n1_ := Aside0.mk (hb); have n2_ := Aside0.mk (Kept.of_grown (S := (fun k_ => P0_ k_)) hg (by repeat (first | (with_reducible first | exact HK.out | apply Kept.alloc | apply Kept.drewN | apply Kept.drew) | exact HK.out)) (fun k_ e_ => (HO0.out.1 k_ e_).1)); have n3_ := Aside0.mk (ho); clear HO112; clear HB; clear HK; clear HO0; have HO112 := n0_; have HB := n1_; have HK := n2_; have HO115 := n3_; clear n0_ n1_ n2_ n3_; clear ho hb hg hat))
    go_ret
    exact ⟨_, by first | rfl | (simp [errW_none, errW_some] <;> rfl) | (simp [*, errW_none, errW_some] <;> rfl), by (with_reducible repeat (first | apply Kd.R_alloc | apply Kd.R_drewN | apply Kd.R_drew)); exact Kd.R_mono HO115.out (fun _ hk => hk.1), by repeat (first | (with_reducible first | exact HB.out | apply below_alloc | apply pw_below_drewN | apply below_drew1) | exact HB.out), by repeat (first | (with_reducible first | exact HK.out | apply Kept.alloc | apply Kept.drewN | apply Kept.drew) | exact HK.out)⟩
  · rw [if_neg c3] at H
    exact absurd H (by simp)

/-! ### codec_number: function 40 -/
def codec_number.l0 : Nat → List Int → Int → Option (List Int)
  | 0, _, _ => none
  | k + 1, x0, x1 => if x1 ≥ 128 then (if x0.length < 140737488355328 then (codec_number.l0 k (x0 ++ [Go.bits .or .u8 ((x1) % 256) 128]) (x1 / 128)) else (none)) else (if x0.length < 140737488355328 then (some (x0 ++ [(x1) % 256])) else (none))
def codec_number.f (k : Nat) (l0 : List Int) (a1 : Int) : Option (List Int) := codec_number.l0 k l0 a1
theorem codec_number.mono_l : ∀ k, (∀ y0 y1, LeO (codec_number.l0 k y0 y1) (codec_number.l0 (k + 1) y0 y1))
  | 0 => fun _ _ r h => by simp [codec_number.l0] at h
  | k + 1 => by
    have ih0 := codec_number.mono_l k
    · intro y0 y1
      unfold codec_number.l0
      repeat' first
      | (with_reducible exact ih0 _ _)
      | (with_reducible exact LeO.refl _)
      | (with_reducible exact LeO.none _)
      | (with_reducible refine LeO.ite ?_ ?_)
      | (with_reducible refine LeO.bind ?_ (fun _ => ?_))
      | exact ih0 _ _
      | exact LeO.none _
      | refine LeO.ite ?_ ?_
      | refine LeO.bind ?_ (fun _ => ?_)
theorem codec_number.mono : ∀ a0 a1 k, LeO (codec_number.f k a0 a1) (codec_number.f (k + 1) a0 a1) := by
  intro a0 a1 k
  have ih0 := codec_number.mono_l k
  unfold codec_number.f
  repeat' first
      | (with_reducible exact ih0 _ _)
      | (with_reducible exact LeO.refl _)
      | (with_reducible exact LeO.none _)
      | (with_reducible refine LeO.ite ?_ ?_)
      | (with_reducible refine LeO.bind ?_ (fun _ => ?_))
      | exact ih0 _ _
      | exact LeO.none _
      | refine LeO.ite ?_ ?_
      | refine LeO.bind ?_ (fun _ => ?_)
set_option maxHeartbeats 8000000 in
set_option maxRecDepth 100000 in
theorem codec_number.calls (k : Nat) (P0_ : Nat → Prop) (u9000_ : Value) (l0 : List Int) (a1 : Int) (r : List Int) (w0 w : World) (hB : Below w0.heap.size w0 w) (ho0 : Kd.R (Kd.int .u8) 5 w w0.heap.size P0_ u9000_ l0) (h : codec_number.f k l0 a1 = some r) :
    Calls Tryd.prog 40 #[u9000_, .int .u64 a1] w fun e w' => ∃ v0_ : Value, e = .returned (v0_) ∧ Kd.R (Kd.int .u8) 5 w' w0.heap.size (fun k_ => (P0_ k_ ∨ w.heap.size ≤ k_)) v0_ r ∧ Below w0.heap.size w0 w' ∧ Kept w w' (fun k_ => P0_ k_) := by
  have HO0 := Aside0.mk (show Kd.R (Kd.int .u8) 5 w w0.heap.size (fun k_ => (P0_ k_ ∨ w.heap.size ≤ k_)) u9000_ l0 from Kd.R_mono ho0 (fun k_ hk => (.inl hk)))
  have HK := Aside0.mk (Kept.refl w (fun k_ => P0_ k_))
  have HW0 := Aside0.mk hB.size
  have HB := Aside0.mk hB
  clear hB
  have H : (codec_number.l0 k l0 a1) = some r := h
  clear h
  have H' := Aside0.mk H
  clear H
  go_enter Tryd.func40, Tryd.ntmps40
  go_wp2
  go_loopg [0, 1] k (fun kq v0 v1 w' => ∃ (x0_1 : List Int) (x1_1 : Int), v1 = .int .u64 x1_1 ∧ Aside0 (codec_number.l0 kq x0_1 x1_1 = some r) ∧ Aside0 (kq ≤ k) ∧ Aside0 (Kd.R (Kd.int .u8) 5 w' w0.heap.size (fun k_ => (P0_ k_ ∨ w.heap.size ≤ k_)) v0 x0_1) ∧ Aside0 (Kept w w' (fun k_ => P0_ k_)) ∧ Aside0 (Below w0.heap.size w0 w'))
  case atStart => exact ⟨(l0), (a1), (by first | rfl | (simp; done) | (simp [*]; done)), H', ⟨Nat.le_refl _⟩, ⟨by (with_reducible repeat (first | apply Kd.R_alloc | apply Kd.R_drewN | apply Kd.R_drew)); exact HO0.out⟩, ⟨by repeat (first | (with_reducible first | exact HK.out | apply Kept.alloc | apply Kept.drewN | apply Kept.drew) | exact HK.out)⟩, ⟨by repeat (first | (with_reducible first | exact HB.out | apply below_alloc | apply pw_below_drewN | apply below_drew1) | exact HB.out)⟩⟩
  case round =>
    clear H'
    try clear p2
    obtain ⟨x0_1, x1_1, rfl, HA, HK1, HO_0, HK, HB⟩ := hrel
    cases gk with
    | zero => exact absurd HA.out (by simp [codec_number.l0])
    | succ k1 =>
      have H := HA.out
      clear HA
      simp only [codec_number.l0] at H
      by_cases c3 : x1_1 ≥ 128
      · rw [if_pos c3] at H
        have c3b0 : decide (128 ≤ x1_1) = true := decide_eq_true c3
        clear c3
        by_cases c4 : x0_1.length < 140737488355328
        · rw [if_pos c4] at H
          have LMc4 := Aside0.mk c4
          clear c4
          obtain ⟨y116, hy116⟩ : ∃ y_ : List Int, y_ = (x0_1 ++ [Go.bits .or .u8 ((x1_1) % 256) 128]) := ⟨_, rfl⟩
          replace H : (codec_number.l0 k1 y116 (x1_1 / 128)) = some r := by first | (rw [hy116]; with_reducible exact H) | (have H2_ := (Option.bind_some _ _).symm.trans H; rw [hy116]; with_reducible exact H2_) | (have H2_ := (Option.bind_some _ _).symm.trans H; with_reducible exact H2_) | with_reducible exact H | (rw [hy116]; exact H) | exact H
          have Ny116 := Aside0.mk hy116
          clear hy116
          have H' := Aside0.mk H
          clear H
          go_wp2_with (first | ((with_reducible refine gate_builtin (b := .append) (xs := #[.tmp 7, .tmp 11]) rfl ?_); at_builtin; refine Kd.R_append (Kd.int .u8) (w0 := w0) w0.heap.size rfl (.tmp 7) (.tmp 11) 22 5 (.int .u8 0) 1 rfl Tryd.underlying22 info5 rfl (by decide) (by omega) u0 x0_1 (Go.bits .or .u8 ((x1_1) % 256) 128) [.int .u8 (Go.bits .or .u8 ((x1_1) % 256) 128)] (fun k_ => (P0_ k_ ∨ w.heap.size ≤ k_)) (fun _ => False) rfl rfl ?aP (fun _ hk => hk.elim) ?aF ?aO ?aB ?aS ?aL ?_; (case aP => exact rfl); (case aB => exact (by repeat (first | (with_reducible first | exact HB.out | apply below_alloc | apply pw_below_drewN | apply below_drew1) | exact HB.out))); (case aF => exact (fun k_ hk => (.inr (Nat.le_trans (by first | exact HK.out.1 | exact (show Kept w _ (fun k_ => P0_ k_) from by repeat (first | (with_reducible first | exact HK.out | apply Kept.alloc | apply Kept.drewN | apply Kept.drew) | exact HK.out)).1) hk)))); (case aO => exact (by (with_reducible repeat (first | apply Kd.R_alloc | apply Kd.R_drewN | apply Kd.R_drew)); exact HO_0.out)); (case aS => exact (below_size (by repeat (first | (with_reducible first | exact HB.out | apply below_alloc | apply pw_below_drewN | apply below_drew1) | exact HB.out)))); (case aL => have := LMc4.out; omega); intro v117 w5 ho hb hg hat; rw [← Ny116.out] at ho; have n0_ := Aside0.mk (hb); have n1_ := Aside0.mk (Kept.of_grown (S := (fun k_ => P0_ k_)) hg (by repeat (first | (with_reducible first | exact HK.out | apply Kept.alloc | apply Kept.drewN | apply Kept.drew) | exact HK.out)) (fun k_ e_ => (HO_0.out.1 k_ e_))); have n2_ := Aside0.mk (ho); clear HB; clear HK; clear HO_0; have HB := n0_; have HK := n1_; have HO118 := n2_; clear n0_ n1_ n2_; clear ho hb hg hat))
          go_roundg k1
          case measure => have := HK1.out; omega
          case rel => exact ⟨(y116), (x1_1 / 128), (by first | rfl | (simp; done) | (simp [*]; done)), H', ⟨by have := HK1.out; omega⟩, ⟨by (with_reducible repeat (first | apply Kd.R_alloc | apply Kd.R_drewN | apply Kd.R_drew)); exact HO118.out⟩, ⟨by repeat (first | (with_reducible first | exact HK.out | apply Kept.alloc | apply Kept.drewN | apply Kept.drew) | exact HK.out)⟩, ⟨by repeat (first | (with_reducible first | exact HB.out | apply below_alloc | apply pw_below_drewN | apply below_drew1) | exact HB.out)⟩⟩
        · rw [if_neg c4] at H
          exact absurd H (by simp)
      · rw [if_neg c3] at H
        have c3b0 : decide (128 ≤ x1_1) = false := decide_eq_false c3
        clear c3
        by_cases c6 : x0_1.length < 140737488355328
        · rw [if_pos c6] at H
          have LMc6 := Aside0.mk c6
          clear c6
          obtain ⟨y119, hy119⟩ : ∃ y_ : List Int, y_ = (x0_1 ++ [(x1_1) % 256]) := ⟨_, rfl⟩
          replace H : (some y119) = some r := by first | (rw [hy119]; with_reducible exact H) | (have H2_ := (Option.bind_some _ _).symm.trans H; rw [hy119]; with_reducible exact H2_) | (have H2_ := (Option.bind_some _ _).symm.trans H; with_reducible exact H2_) | with_reducible exact H | (rw [hy119]; exact H) | exact H
          have Ny119 := Aside0.mk hy119
          clear hy119
          obtain rfl := Option.some.inj H
          go_wp2_with (first | ((with_reducible refine gate_builtin (b := .append) (xs := #[.tmp 15, .tmp 18]) rfl ?_); at_builtin; refine Kd.R_append (Kd.int .u8) (w0 := w0) w0.heap.size rfl (.tmp 15) (.tmp 18) 22 5 (.int .u8 0) 1 rfl Tryd.underlying22 info5 rfl (by decide) (by omega) u0 x0_1 ((x1_1) % 256) [.int .u8 ((x1_1) % 256)] (fun k_ => (P0_ k_ ∨ w.heap.size ≤ k_)) (fun _ => False) rfl rfl ?aP (fun _ hk => hk.elim) ?aF ?aO ?aB ?aS ?aL ?_; (case aP => exact rfl); (case aB => exact (by repeat (first | (with_reducible first | exact HB.out | apply below_alloc | apply pw_below_drewN | apply below_drew1) | exact HB.out))); (case aF => exact (fun k_ hk => (.inr (Nat.le_trans (by first | exact HK.out.1 | exact (show Kept w _ (fun k_ => P0_ k_) from by repeat (first | (with_reducible first | exact HK.out | apply Kept.alloc | apply Kept.drewN | apply Kept.drew) | exact HK.out)).1) hk)))); (case aO => exact (by (with_reducible repeat (first | apply Kd.R_alloc | apply Kd.R_drewN | apply Kd.R_drew)); exact HO_0.out)); (case aS => exact (below_size (by repeat (first | (with_reducible first | exact HB.out | apply below_alloc | apply pw_below_drewN | apply below_drew1) | exact HB.out)))); (case aL => have := LMc6.out; omega); intro v120 w7 ho hb hg hat; rw [← Ny119.out] at ho; have n0_ := Aside0.mk (hb); have n1_ := Aside0.mk (Kept.of_grown (S := (fun k_ => P0_ k_)) hg (by repeat (first | (with_reducible first | exact HK.out | apply Kept.alloc | apply Kept.drewN | apply Kept.drew) | exact HK.out)) (fun k_ e_ => (HO_0.out.1 k_ e_))); have n2_ := Aside0.mk (ho); clear HB; clear HK; clear HO_0; have HB := n0_; have HK := n1_; have HO121 := n2_; clear n0_ n1_ n2_; clear ho hb hg hat))
          go_ret
          exact ⟨_, by first | rfl | (simp [errW_none, errW_some] <;> rfl) | (simp [*, errW_none, errW_some] <;> rfl), by (with_reducible repeat (first | apply Kd.R_alloc | apply Kd.R_drewN | apply Kd.R_drew)); exact HO121.out, by repeat (first | (with_reducible first | exact HB.out | apply below_alloc | apply pw_below_drewN | apply below_drew1) | exact HB.out), by repeat (first | (with_reducible first | exact HK.out | apply Kept.alloc | apply Kept.drewN | apply Kept.drew) | exact HK.out)⟩
        · rw [if_neg c6] at H
          exact absurd H (by simp)

/-! ### codec_Frame_p: function 14 -/
def codec_Frame_p.f (k : Nat) (l0 : List Int) : Option (List Int) := if 0 ≤ (wrap64 ((l0.length : Int) + 14)) then (if (wrap64 ((l0.length : Int) + 14) : Int).toNat ≤ 281474976710656 then ((codec_number.f k (List.replicate 0 0) (IntKind.u64.wrap ((l0.length : Int)))).bind fun t125 => (if t125.length + l0.length < 140737488355328 then ((codec_sum.f (t125 ++ l0)).bind fun t131 => (some t131)) else (none))) else (none)) else (none)
theorem codec_Frame_p.mono : ∀ a0 k, LeO (codec_Frame_p.f k a0) (codec_Frame_p.f (k + 1) a0) := by
  intro a0 k
  unfold codec_Frame_p.f
  repeat' first
      | (with_reducible exact codec_number.mono _ _ _)
      | (with_reducible exact LeO.refl _)
      | (with_reducible exact LeO.none _)
      | (with_reducible refine LeO.ite ?_ ?_)
      | (with_reducible refine LeO.bind ?_ (fun _ => ?_))
      | exact codec_number.mono _ _ _
      | exact LeO.none _
      | refine LeO.ite ?_ ?_
      | refine LeO.bind ?_ (fun _ => ?_)
set_option maxHeartbeats 8000000 in
set_option maxRecDepth 100000 in
theorem codec_Frame_p.calls (k : Nat) (A0 : Option Addr) (c0 : Nat) (l0 : List Int) (r : List Int) (w : World) (hr0 : Kd.C (Kd.int .u8) w A0 l0.length l0) (hc0 : l0.length ≤ c0) (h : codec_Frame_p.f k l0 = some r) (hT_ : GT w) :
    Calls Tryd.prog 14 #[.slice A0 l0.length c0] w fun e w' => ∃ v0_ : Value, e = .returned (v0_) ∧ Kd.R (Kd.int .u8) 5 w' w.heap.size (fun _ => True) v0_ r ∧ Below w.heap.size w w' := by
  have HT_ := Aside0.mk hT_
  clear hT_
  have HR0 := Aside0.mk hr0
  have HC0 := Aside0.mk hc0
  clear hr0 hc0
  have HB := Aside0.mk (Below.refl w.heap.size w)
  have H : (if 0 ≤ (wrap64 ((l0.length : Int) + 14)) then (if (wrap64 ((l0.length : Int) + 14) : Int).toNat ≤ 281474976710656 then ((codec_number.f k (List.replicate 0 0) (IntKind.u64.wrap ((l0.length : Int)))).bind fun t125 => (if t125.length + l0.length < 140737488355328 then ((codec_sum.f (t125 ++ l0)).bind fun t131 => (some t131)) else (none))) else (none)) else (none)) = some r := h
  clear h
  obtain ⟨ji2, hji2⟩ : ∃ j_ : Int, (wrap64 ((l0.length : Int) + 14)) = j_ := ⟨_, rfl⟩
  replace H : (if 0 ≤ (ji2) then (if (ji2 : Int).toNat ≤ 281474976710656 then ((codec_number.f k (List.replicate 0 0) (IntKind.u64.wrap ((l0.length : Int)))).bind fun t125 => (if t125.length + l0.length < 140737488355328 then ((codec_sum.f (t125 ++ l0)).bind fun t131 => (some t131)) else (none))) else (none)) else (none)) = some r := by first | (rw [hji2] at H; exact H) | (simp only [hji2] at H ⊢; exact H)
  have hji2w : (IntKind.i64.wrap ((l0.length : Int) + 14)) = ji2 := (i64_w _).trans hji2
  by_cases c3 : 0 ≤ (ji2)
  · rw [if_pos c3] at H
    have c3b0 := eq_true c3
    have c3b1 : decide (0 ≤ (ji2)) = true := decide_eq_true c3
    clear c3
    by_cases c4 : (ji2 : Int).toNat ≤ 281474976710656
    · rw [if_pos c4] at H
      have c4b0 := eq_true c4
      have c4b1 : decide ((ji2 : Int).toNat ≤ 281474976710656) = true := decide_eq_true c4
      clear c4
      obtain ⟨y122, hy122⟩ : ∃ y_ : List Int, y_ = (List.replicate 0 0) := ⟨_, rfl⟩
      replace H : ((codec_number.f k y122 (IntKind.u64.wrap ((l0.length : Int)))).bind fun t125 => (if t125.length + l0.length < 140737488355328 then ((codec_sum.f (t125 ++ l0)).bind fun t131 => (some t131)) else (none))) = some r := by first | (rw [hy122]; with_reducible exact H) | (have H2_ := (Option.bind_some _ _).symm.trans H; rw [hy122]; with_reducible exact H2_) | (have H2_ := (Option.bind_some _ _).symm.trans H; with_reducible exact H2_) | with_reducible exact H | (rw [hy122]; exact H) | exact H
      have Ny122 := Aside0.mk hy122
      clear hy122
      replace H := Option.bind_eq_some_iff.mp H
      obtain ⟨t125, A50, H⟩ := H
      replace H : (if t125.length + l0.length < 140737488355328 then ((codec_sum.f (t125 ++ l0)).bind fun t131 => (some t131)) else (none)) = some r := H
      have A5 := Aside0.mk A50
      clear A50
      by_cases c6 : t125.length + l0.length < 140737488355328
      · rw [if_pos c6] at H
        have LMc6 := Aside0.mk c6
        clear c6
        obtain ⟨y128, hy128⟩ : ∃ y_ : List Int, y_ = (t125 ++ l0) := ⟨_, rfl⟩
        replace H : ((codec_sum.f y128).bind fun t131 => (some t131)) = some r := by first | (rw [hy128]; with_reducible exact H) | (have H2_ := (Option.bind_some _ _).symm.trans H; rw [hy128]; with_reducible exact H2_) | (have H2_ := (Option.bind_some _ _).symm.trans H; with_reducible exact H2_) | with_reducible exact H | (rw [hy128]; exact H) | exact H
        have Ny128 := Aside0.mk hy128
        clear hy128
        replace H := Option.bind_eq_some_iff.mp H
        obtain ⟨t131, A70, H⟩ := H
        replace H : (some t131) = some r := H
        have A7 := Aside0.mk A70
        clear A70
        obtain rfl := Option.some.inj H
        go_enter Tryd.func14, Tryd.ntmps14
        go_wp2_with (first | ((with_reducible refine gate_dst (N := 6) rfl ?_); refine R_make_cap (enc := (Value.int .u8)) (h1 := fun _ => rfl) _ 5 rfl (N := 6) rfl 22 _ _ rfl 0 _ rfl rfl Tryd.underlying22 0 1 info5 rfl (by omega) (ok := fun _ => True) trivial (by omega) (of_decide_eq_true (by first | (with_reducible assumption) | assumption)) (Nat.le_trans (Nat.mul_le_mul_right _ (of_decide_eq_true (by first | (with_reducible assumption) | assumption) : Int.toNat _ ≤ 281474976710656)) (by omega)) (Below.refl _ _) (Nat.le_refl _) ?_; intro v123 w8 ho9 hb hg_ hnew_; clear hg_ hnew_; (first | rw [← Ny122.out] at ho9 | (simp only [Int.reduceToNat] at ho9; rw [← Ny122.out] at ho9)); have n0_ := Aside0.mk (Kd.R_lower ho9 (below_size (by repeat (first | (with_reducible first | exact HB.out | apply below_alloc | apply pw_below_drewN | apply below_drew1) | exact HB.out)))); have n1_ := Aside0.mk (below_step (by repeat (first | (with_reducible first | exact HB.out | apply below_alloc | apply pw_below_drewN | apply below_drew1) | exact HB.out)) hb); clear HB; have HO124 := n0_; have HB := n1_; clear n0_ n1_; clear hb ho9; obtain ⟨Ao10, co10, eo10⟩ := Kd.R_slice HO124.out; subst eo10) | ((with_reducible refine gate_callee (f := 40) rfl ?_); refine goesL_ (some 10) rfl rfl Tryd.func40 (by kernel_rfl) rfl #[.slice Ao10 y122.length co10, .int .u64 (IntKind.u64.wrap ((l0.length : Int)))] rfl (by (try simp only [List.map_toArray, List.map_cons, List.map_nil]); first | done | rfl | (simp only [List.length_drop, List.length_take]; rfl)) ?_; (with_reducible refine (codec_number.calls k (fun k_ => some k_ = (.slice Ao10 y122.length co10 : Value).ownBlock) (.slice Ao10 y122.length co10) y122 (IntKind.u64.wrap ((l0.length : Int))) t125 w _ ?side1 ?side2 A5.out).mono ?_); (case side1 => repeat (first | (with_reducible first | exact HB.out | apply below_alloc | apply pw_below_drewN | apply below_drew1) | exact HB.out)); (case side2 => exact Kd.R_tight rfl HO124.out); rintro e w11 ⟨v126, rfl, ho0, hb, hkp⟩; refine ⟨_, rfl, ?_⟩; have n0_ := Aside0.mk (Kd.R_mono (ok' := fun k_ => True) ho0 (fun k_ hk_ => trivial)); have n1_ := Aside0.mk (hb); clear HB; clear HO124; have HO127 := n0_; have HB := n1_; clear n0_ n1_; (try clear hb); (try clear hkp); (try clear ho0)) | ((with_reducible refine gate_builtin (b := .append) (xs := #[.tmp 10, .tmp 11]) rfl ?_); at_builtin; refine Kd.R_append_rows (Kd.int .u8) (w0 := w) w.heap.size rfl (.tmp 10) (.tmp 11) 22 5 (.int .u8 0) 1 rfl Tryd.underlying22 info5 rfl (by decide) (by omega) v126 t125 l0 _ _ _ (fun _ => True) (fun _ => False) rfl rfl ?aO ?aR (fun _ _ h => h) (fun _ h => h.elim) ?aF ?aB ?aS ?aL ?_; (case aR => repeat (first | exact (Kd.C_below HR0.out HB.out) | (with_reducible refine Kd.C_alloc ?_ _) | (with_reducible refine Kd.C_drewN ?_ _) | (with_reducible refine Kd.C_drew ?_))); (case aB => exact (by repeat (first | (with_reducible first | exact HB.out | apply below_alloc | apply pw_below_drewN | apply below_drew1) | exact HB.out))); (case aF => exact (fun _ _ => trivial)); (case aO => exact (by (with_reducible repeat (first | apply Kd.R_alloc | apply Kd.R_drewN | apply Kd.R_drew)); exact HO127.out)); (case aS => exact (below_size (by repeat (first | (with_reducible first | exact HB.out | apply below_alloc | apply pw_below_drewN | apply below_drew1) | exact HB.out)))); (case aL => have := LMc6.out; omega); intro v129 w12 ho hb hg hat; rw [← Ny128.out] at ho; have n0_ := Aside0.mk (hb); have n1_ := Aside0.mk (ho); clear HB; clear HO127; have HB := n0_; have HO130 := n1_; clear n0_ n1_; clear ho hb hg hat; obtain ⟨Ao13, co13, eo13⟩ := Kd.R_slice HO130.out; subst eo13) | ((with_reducible refine gate_callee (f := 39) rfl ?_); refine goesL_ (some 13) rfl rfl Tryd.func39 (by kernel_rfl) rfl #[.slice Ao13 y128.length co13] rfl (by (try simp only [List.map_toArray, List.map_cons, List.map_nil]); first | done | rfl | (simp only [List.length_drop, List.length_take]; rfl)) ?_; (with_reducible refine (codec_sum.calls (fun k_ => some k_ = (.slice Ao13 y128.length co13 : Value).ownBlock) (.slice Ao13 y128.length co13) y128 t131 w _ ?side1 ?side2 A7.out ?side3).mono ?_); (case side1 => repeat (first | (with_reducible first | exact HB.out | apply below_alloc | apply pw_below_drewN | apply below_drew1) | exact HB.out)); (case side2 => exact Kd.R_tight rfl HO130.out); (case side3 => first | (with_reducible exact HT_.out) | exact HT_.out); rintro e w14 ⟨v132, rfl, ho0, hb, hkp⟩; refine ⟨_, rfl, ?_⟩; have n0_ := Aside0.mk (Kd.R_mono (ok' := fun k_ => True) ho0 (fun k_ hk_ => trivial)); have n1_ := Aside0.mk (hb); clear HB; clear HO130; have HO133 := n0_; have HB := n1_; clear n0_ n1_; (try clear hb); (try clear hkp); (try clear ho0)))
        go_ret
        exact ⟨_, by first | rfl | (simp [errW_none, errW_some] <;> rfl) | (simp only [← hji2]; first | rfl | (simp [errW_none, errW_some] <;> rfl)) | (simp [*, errW_none, errW_some] <;> rfl), by (with_reducible repeat (first | apply Kd.R_alloc | apply Kd.R_drewN | apply Kd.R_drew)); exact HO133.out, by repeat (first | (with_reducible first | exact HB.out | apply below_alloc | apply pw_below_drewN | apply below_drew1) | exact HB.out)⟩
      · rw [if_neg c6] at H
        exact absurd H (by simp)
    · rw [if_neg c4] at H
      exact absurd H (by simp)
  · rw [if_neg c3] at H
    exact absurd H (by simp)

/-! ### codec_Frame: function 14 -/
open Go.Proofs.YtipefhadafildaaDoor.G
theorem frame_number_ev (n : Nat) : ∀ l : List Int, n < 18446744073709551616 → l.length + (numL n).length ≤ 140737488355328 → Ev (fun k => codec_number.l0 k l (n : Int)) (l ++ numL n) := by
  induction n using Nat.strongRecOn with
  | _ n ih =>
    intro l hn hl
    by_cases h : n < 128
    · rw [numL_small h] at hl ⊢
      refine Ev.step (f := fun _ => some (l ++ [(n : Int)])) (fun k => ?_) (Ev.now _)
      simp only [codec_number.l0]
      rw [if_neg (by omega), if_pos (by simp at hl; omega), show (n : Int) % 256 = n by omega]
    · rw [numL_big h] at hl ⊢
      simp only [List.length_cons] at hl
      have h2 := ih (n / 128) (by omega) (l ++ [((n % 128 + 128 : Nat) : Int)]) (by omega) (by simp; omega)
      rw [List.append_assoc] at h2
      refine Ev.step (fun k => ?_) h2
      simp only [codec_number.l0]
      rw [if_pos (by omega), if_pos (by omega), own_or128 _ (by omega)]
      rfl
def codec_Frame.f (l0 : List Int) : Option (List Int) := if okB l0 = true ∧ l0.length ≤ 140737488351232 then some (frameL l0) else none
theorem codec_Frame.calls (A0 : Option Addr) (c0 : Nat) (l0 : List Int) (r : List Int) (w : World) (hr0 : Kd.C (Kd.int .u8) w A0 l0.length l0) (hc0 : l0.length ≤ c0) (h : codec_Frame.f l0 = some r) (hT_ : GT w) :
    Calls Tryd.prog 14 #[.slice A0 l0.length c0] w fun e w' => ∃ v0_ : Value, e = .returned (v0_) ∧ Kd.R (Kd.int .u8) 5 w' w.heap.size (fun _ => True) v0_ r ∧ Below w.heap.size w w' := by
  unfold codec_Frame.f at h
  split at h
  · rename_i hh
    have hb := okB_iff.1 hh.1
    have h10 := numL_len10 (n := l0.length) (by omega)
    obtain ⟨k, hk⟩ := (frame_number_ev l0.length [] (by omega) (by simp; omega)).rounds
    refine codec_Frame_p.calls k A0 c0 l0 r w hr0 hc0 ?_ hT_
    have hB : Bytes (numL l0.length ++ l0) := bytes_app (numL_bytes _) hb
    have hw : wrap64 ((l0.length : Int) + 14) = (l0.length : Int) + 14 := by unfold wrap64; omega
    unfold codec_Frame_p.f codec_number.f codec_sum.f codec_Sum.f
    rw [hw, if_pos (by omega), if_pos (by omega), u64_nat (by omega), List.replicate_zero]
    rw [List.nil_append] at hk
    rw [hk]
    simp only [Option.bind_some]
    rw [if_pos (by omega), if_pos (okB_iff.2 hB)]
    simp only [Option.bind_some]
    rw [four_eq (sumF_range hB), if_pos (by rw [List.length_append, four_len]; omega)]
    exact h
  · cases h

/-! ### codec_Uint_p: function 19 -/
mutual
def codec_Uint_p.l0 : Nat → Int → List Int → Int → Int → Option (Int × Int × Int)
  | 0, _, _, _, _ => none
  | k + 1, x5, x8, x9, x10 => if x10 < x9 then (if 0 ≤ x10 then (if x10 < (x8.length : Int) then (if (rd x8 x10) = 0 then (if x10 > 0 then (codec_Uint_p.j1 k x5 x10 (rd x8 x10) x8 x9 x10 true) else (if x10 = 9 then (codec_Uint_p.j1 k x5 x10 (rd x8 x10) x8 x9 x10 ((rd x8 x10) != 1)) else (codec_Uint_p.j1 k x5 x10 (rd x8 x10) x8 x9 x10 false))) else (if x10 = 9 then (codec_Uint_p.j1 k x5 x10 (rd x8 x10) x8 x9 x10 ((rd x8 x10) != 1)) else (codec_Uint_p.j1 k x5 x10 (rd x8 x10) x8 x9 x10 false))) else (none)) else (none)) else (some (0, 0, 20))
def codec_Uint_p.j1 : Nat → Int → Int → Int → List Int → Int → Int → Bool → Option (Int × Int × Int)
  | 0, _, _, _, _, _, _, _ => none
  | k + 1, x5, x6, x7, x8, x9, x10, x28 => if x28 = true then (some (0, 0, 21)) else (if 0 ≤ (wrap64 (7 * x6)) then (if x7 < 128 then (some (Go.bits .or .u64 x5 (shl .u64 (IntKind.u64.wrap (Go.bits .and .u8 x7 127)) (wrap64 (7 * x6))), wrap64 (x6 + 1), 0)) else (codec_Uint_p.l0 k (Go.bits .or .u64 x5 (shl .u64 (IntKind.u64.wrap (Go.bits .and .u8 x7 127)) (wrap64 (7 * x6)))) x8 x9 (wrap64 (x10 + 1)))) else (none))
end
def codec_Uint_p.f (k : Nat) (l0 : List Int) : Option (Int × Int × Int) := codec_Uint_p.l0 k 0 l0 (l0.length : Int) 0
theorem codec_Uint_p.mono_l : ∀ k, (∀ y0 y1 y2 y3, LeO (codec_Uint_p.l0 k y0 y1 y2 y3) (codec_Uint_p.l0 (k + 1) y0 y1 y2 y3)) ∧ (∀ y0 y1 y2 y3 y4 y5 y6, LeO (codec_Uint_p.j1 k y0 y1 y2 y3 y4 y5 y6) (codec_Uint_p.j1 (k + 1) y0 y1 y2 y3 y4 y5 y6))
  | 0 => ⟨fun _ _ _ _ r h => by simp [codec_Uint_p.l0] at h, fun _ _ _ _ _ _ _ r h => by simp [codec_Uint_p.j1] at h⟩
  | k + 1 => by
    obtain ⟨ih0, ih1⟩ := codec_Uint_p.mono_l k
    refine ⟨?_, ?_⟩
    · intro y0 y1 y2 y3
      unfold codec_Uint_p.l0
      repeat' first
      | (with_reducible exact ih0 _ _ _ _)
      | (with_reducible exact ih1 _ _ _ _ _ _ _)
      | (with_reducible exact LeO.refl _)
      | (with_reducible exact LeO.none _)
      | (with_reducible refine LeO.ite ?_ ?_)
      | (with_reducible refine LeO.bind ?_ (fun _ => ?_))
      | exact ih0 _ _ _ _
      | exact ih1 _ _ _ _ _ _ _
      | exact LeO.none _
      | refine LeO.ite ?_ ?_
      | refine LeO.bind ?_ (fun _ => ?_)
    · intro y0 y1 y2 y3 y4 y5 y6
      unfold codec_Uint_p.j1
      repeat' first
      | (with_reducible exact ih0 _ _ _ _)
      | (with_reducible exact ih1 _ _ _ _ _ _ _)
      | (with_reducible exact LeO.refl _)
      | (with_reducible exact LeO.none _)
      | (with_reducible refine LeO.ite ?_ ?_)
      | (with_reducible refine LeO.bind ?_ (fun _ => ?_))
      | exact ih0 _ _ _ _
      | exact ih1 _ _ _ _ _ _ _
      | exact LeO.none _
      | refine LeO.ite ?_ ?_
      | refine LeO.bind ?_ (fun _ => ?_)
theorem codec_Uint_p.mono : ∀ a0 k, LeO (codec_Uint_p.f k a0) (codec_Uint_p.f (k + 1) a0) := by
  intro a0 k
  obtain ⟨ih0, ih1⟩ := codec_Uint_p.mono_l k
  unfold codec_Uint_p.f
  repeat' first
      | (with_reducible exact ih0 _ _ _ _)
      | (with_reducible exact ih1 _ _ _ _ _ _ _)
      | (with_reducible exact LeO.refl _)
      | (with_reducible exact LeO.none _)
      | (with_reducible refine LeO.ite ?_ ?_)
      | (with_reducible refine LeO.bind ?_ (fun _ => ?_))
      | exact ih0 _ _ _ _
      | exact ih1 _ _ _ _ _ _ _
      | exact LeO.none _
      | refine LeO.ite ?_ ?_
      | refine LeO.bind ?_ (fun _ => ?_)
set_option maxHeartbeats 8000000 in
set_option maxRecDepth 100000 in
theorem codec_Uint_p.calls (k : Nat) (A0 : Option Addr) (c0 : Nat) (l0 : List Int) (r1 : Int) (r2 : Int) (r3 : Int) (w : World) (hr0 : Kd.C (Kd.int .u8) w A0 l0.length l0) (hc0 : l0.length ≤ c0) (h : codec_Uint_p.f k l0 = some (r1, r2, r3)) :
    Calls Tryd.prog 19 #[.slice A0 l0.length c0] w fun e w' => e = .returned (.tuple #[.int .u64 r1, .int .i64 r2, .int .i64 r3]) ∧ Drawn0 w w' := by
  have HR0 := Aside0.mk hr0
  have HC0 := Aside0.mk hc0
  clear hr0 hc0
  have H : (codec_Uint_p.l0 k 0 l0 (l0.length : Int) 0) = some (r1, r2, r3) := h
  clear h
  have H' := Aside0.mk H
  clear H
  go_enter Tryd.func19, Tryd.ntmps19
  go_wp2
  go_loopg [5, 10] k (fun kq v5 v10 w' => ∃ (x5_1 : Int) (x10_1 : Int), v5 = .int .u64 x5_1 ∧ v10 = .int .i64 x10_1 ∧ Aside0 (codec_Uint_p.l0 kq x5_1 l0 (l0.length : Int) x10_1 = some (r1, r2, r3)) ∧ Aside0 (kq ≤ k) ∧ Drawn0 w w')
  case atStart => exact ⟨(0), (0), (by first | rfl | (simp; done) | (simp [*]; done)), (by first | rfl | (simp; done) | (simp [*]; done)), H', ⟨Nat.le_refl _⟩, by repeat (first | exact Drawn0.refl _ | apply Drawn0.step)⟩
  case round =>
    clear H'
    try clear c1
    obtain ⟨x5_1, x10_1, rfl, rfl, HA, HK1, ⟨m1, rfl⟩⟩ := hrel
    cases gk with
    | zero => exact absurd HA.out (by simp [codec_Uint_p.l0])
    | succ k1 =>
      have H := HA.out
      clear HA
      simp only [codec_Uint_p.l0] at H
      by_cases c2 : x10_1 < (l0.length : Int)
      · rw [if_pos c2] at H
        have c2b0 : decide (x10_1 < (l0.length : Int)) = true := decide_eq_true c2
        clear c2
        by_cases c3 : 0 ≤ x10_1
        · rw [if_pos c3] at H
          have c3b0 : decide (0 ≤ x10_1) = true := decide_eq_true c3
          clear c3
          by_cases c4 : x10_1 < (l0.length : Int)
          · rw [if_pos c4] at H
            have c4b0 : decide (x10_1 < (l0.length : Int)) = true := decide_eq_true c4
            clear c4
            have HC5 := Aside0.mk H
            clear H
            have p134 : 0 ≤ (x10_1 : Int) := of_decide_eq_true (by first | (with_reducible assumption) | assumption)
            have q134 : x10_1 < (l0.length : Int) := of_decide_eq_true (by first | (with_reducible assumption) | assumption)
            obtain ⟨ad134, e134, hx134_0⟩ := Kd.at_int HR0.out x10_1 p134 q134
            cases e134
            replace p134 := eq_true p134
            replace q134 := eq_true q134
            go_upto_region 5 with (fail)
            go_cut [28] (fun v28 wc => ∃ (kq : Nat) (x28_4 : Bool), v28 = .bool x28_4 ∧ Aside0 (codec_Uint_p.j1 kq x5_1 x10_1 (rd l0 x10_1) l0 (l0.length : Int) x10_1 x28_4 = some (r1, r2, r3)) ∧ Aside0 (kq ≤ k1) ∧ Drawn0 w wc)
            case first =>
              have H := HC5.out
              clear HC5
              by_cases c6 : (rd l0 x10_1) = 0
              · rw [if_pos c6] at H
                have c6b0 : ((rd l0 x10_1) == 0) = true := beq_iff_eq.mpr c6
                have c6b1 : ((rd l0 x10_1) != 0) = false := bne_eq_false_iff_eq.mpr c6
                clear c6
                (first | rw [c6b0] | (simp only [i64_w, i32_w]; rw [c6b0]) | skip)
                by_cases c7 : x10_1 > 0
                · rw [if_pos c7] at H
                  have c7b0 : decide (0 < x10_1) = true := decide_eq_true c7
                  clear c7
                  have H' := Aside0.mk H
                  clear H
                  go_wp2
                  go_meet
                  case rel => exact ⟨_, (true), (by first | rfl | (simp; done) | (simp [*]; done)), H', ⟨by have := HK1.out; first | omega | exact Nat.le_refl _⟩, by repeat (first | exact Drawn0.refl _ | apply Drawn0.step)⟩
                · rw [if_neg c7] at H
                  have c7b0 : decide (0 < x10_1) = false := decide_eq_false c7
                  clear c7
                  by_cases c8 : x10_1 = 9
                  · rw [if_pos c8] at H
                    have c8b0 : (x10_1 == 9) = true := beq_iff_eq.mpr c8
                    have c8b1 : (x10_1 != 9) = false := bne_eq_false_iff_eq.mpr c8
                    clear c8
                    have H' := Aside0.mk H
                    clear H
                    go_wp2
                    go_meet
                    case rel => exact ⟨_, (((rd l0 x10_1) != 1)), (by first | rfl | (simp; done) | (simp [*]; done)), H', ⟨by have := HK1.out; first | omega | exact Nat.le_refl _⟩, by repeat (first | exact Drawn0.refl _ | apply Drawn0.step)⟩
                  · rw [if_neg c8] at H
                    have c8b0 : (x10_1 == 9) = false := beq_eq_false_iff_ne.mpr c8
                    have c8b1 : (x10_1 != 9) = true := bne_iff_ne.mpr c8
                    have H' := Aside0.mk H
                    clear H
                    go_wp2
                    go_meet
                    case rel => exact ⟨_, (false), (by first | rfl | (simp; done) | (simp [*]; done)), H', ⟨by have := HK1.out; first | omega | exact Nat.le_refl _⟩, by repeat (first | exact Drawn0.refl _ | apply Drawn0.step)⟩
              · rw [if_neg c6] at H
                have c6b0 : ((rd l0 x10_1) == 0) = false := beq_eq_false_iff_ne.mpr c6
                have c6b1 : ((rd l0 x10_1) != 0) = true := bne_iff_ne.mpr c6
                (first | rw [c6b0] | (simp only [i64_w, i32_w]; rw [c6b0]) | skip)
                by_cases c9 : x10_1 = 9
                · rw [if_pos c9] at H
                  have c9b0 : (x10_1 == 9) = true := beq_iff_eq.mpr c9
                  have c9b1 : (x10_1 != 9) = false := bne_eq_false_iff_eq.mpr c9
                  clear c9
                  have H' := Aside0.mk H
                  clear H
                  go_wp2
                  go_meet
                  case rel => exact ⟨_, (((rd l0 x10_1) != 1)), (by first | rfl | (simp; done) | (simp [*]; done)), H', ⟨by have := HK1.out; first | omega | exact Nat.le_refl _⟩, by repeat (first | exact Drawn0.refl _ | apply Drawn0.step)⟩
                · rw [if_neg c9] at H
                  have c9b0 : (x10_1 == 9) = false := beq_eq_false_iff_ne.mpr c9
                  have c9b1 : (x10_1 != 9) = true := bne_iff_ne.mpr c9
                  have H' := Aside0.mk H
                  clear H
                  go_wp2
                  go_meet
                  case rel => exact ⟨_, (false), (by first | rfl | (simp; done) | (simp [*]; done)), H', ⟨by have := HK1.out; first | omega | exact Nat.le_refl _⟩, by repeat (first | exact Drawn0.refl _ | apply Drawn0.step)⟩
            case rest =>
              clear HC5
              try clear c1
              try clear p1
              try clear q1
              try clear hx1
              try clear c2
              try clear c2b0
              try clear p2
              try clear c3
              try clear c3b0
              try clear c4
              try clear c4b0
              try clear c6
              try clear c6b0
              try clear c6b1
              try clear c7
              try clear c7b0
              try clear c8
              try clear c8b0
              try clear c8b1
              try clear c9
              try clear c9b0
              try clear c9b1
              try clear hx134_0
              try clear p134
              try clear q134
              obtain ⟨kq, x28_4, rfl, HA, HJ4, ⟨mc4, rfl⟩⟩ := hcut
              cases kq with
              | zero => exact absurd HA.out (by simp [codec_Uint_p.j1])
              | succ kj4 =>
                have H := HA.out
                clear HA
                simp only [codec_Uint_p.j1] at H
                by_cases c10 : x28_4 = true
                · subst c10
                  have H1 : (some (0, 0, 21)) = some (r1, r2, r3) := by rw [if_pos rfl] at H; exact H
                  clear H
                  have H := H1
                  clear H1
                  simp only [Option.some.injEq, Prod.mk.injEq] at H
                  obtain ⟨rfl, rfl, rfl⟩ := H
                  go_wp2
                  go_ret3
                  exact ⟨by first | rfl | (simp; done) | (simp [*]; done), by repeat (first | exact Drawn0.refl _ | apply Drawn0.step)⟩
                · replace c10 := Bool.eq_false_iff.mpr c10
                  subst c10
                  have H1 : (if 0 ≤ (wrap64 (7 * x10_1)) then (if (rd l0 x10_1) < 128 then (some (Go.bits .or .u64 x5_1 (shl .u64 (IntKind.u64.wrap (Go.bits .and .u8 (rd l0 x10_1) 127)) (wrap64 (7 * x10_1))), wrap64 (x10_1 + 1), 0)) else (codec_Uint_p.l0 kj4 (Go.bits .or .u64 x5_1 (shl .u64 (IntKind.u64.wrap (Go.bits .and .u8 (rd l0 x10_1) 127)) (wrap64 (7 * x10_1)))) l0 (l0.length : Int) (wrap64 (x10_1 + 1)))) else (none)) = some (r1, r2, r3) := by rw [if_neg (show ¬ (false = true) by decide)] at H; exact H
                  clear H
                  have H := H1
                  clear H1
                  obtain ⟨ji11, hji11⟩ : ∃ j_ : Int, (wrap64 (7 * x10_1)) = j_ := ⟨_, rfl⟩
                  replace H : (if 0 ≤ (ji11) then (if (rd l0 x10_1) < 128 then (some (Go.bits .or .u64 x5_1 (shl .u64 (IntKind.u64.wrap (Go.bits .and .u8 (rd l0 x10_1) 127)) (ji11)), wrap64 (x10_1 + 1), 0)) else (codec_Uint_p.l0 kj4 (Go.bits .or .u64 x5_1 (shl .u64 (IntKind.u64.wrap (Go.bits .and .u8 (rd l0 x10_1) 127)) (ji11))) l0 (l0.length : Int) (wrap64 (x10_1 + 1)))) else (none)) = some (r1, r2, r3) := by first | (rw [hji11] at H; exact H) | (simp only [hji11] at H ⊢; exact H)
                  have hji11w : (IntKind.i64.wrap (7 * x10_1)) = ji11 := (i64_w _).trans hji11
                  by_cases c12 : 0 ≤ (ji11)
                  · rw [if_pos c12] at H
                    have c12b0 := eq_true c12
                    have c12b1 : decide (0 ≤ (ji11)) = true := decide_eq_true c12
                    clear c12
                    obtain ⟨ji13, hji13⟩ : ∃ j_ : Int, (shl .u64 (IntKind.u64.wrap (Go.bits .and .u8 (rd l0 x10_1) 127)) (ji11)) = j_ := ⟨_, rfl⟩
                    replace H : (if (rd l0 x10_1) < 128 then (some (Go.bits .or .u64 x5_1 (ji13), wrap64 (x10_1 + 1), 0)) else (codec_Uint_p.l0 kj4 (Go.bits .or .u64 x5_1 (ji13)) l0 (l0.length : Int) (wrap64 (x10_1 + 1)))) = some (r1, r2, r3) := by first | (rw [hji13] at H; exact H) | (simp only [hji13] at H ⊢; exact H)
                    have hji13_ : (IntKind.u64.wrap ((IntKind.u64.wrap (Go.bits .and .u8 (rd l0 x10_1) 127)) * 2 ^ min (ji11).toNat 64)) = ji13 := hji13
                    have hji13z : (ji11) ≤ 64 → (IntKind.u64.wrap ((IntKind.u64.wrap (Go.bits .and .u8 (rd l0 x10_1) 127)) * 2 ^ (ji11).toNat)) = ji13 := shl_small hji13
                    by_cases c14 : (rd l0 x10_1) < 128
                    · rw [if_pos c14] at H
                      have c14b0 : decide ((rd l0 x10_1) < 128) = true := decide_eq_true c14
                      clear c14
                      simp only [Option.some.injEq, Prod.mk.injEq] at H
                      obtain ⟨rfl, rfl, rfl⟩ := H
                      go_wp2
                      go_ret3
                      exact ⟨by first | rfl | (simp; done) | (simp only [← hji11, ← hji13] <;> (first | rfl | simp)) | (simp [*]; done), by repeat (first | exact Drawn0.refl _ | apply Drawn0.step)⟩
                    · rw [if_neg c14] at H
                      have c14b0 : decide ((rd l0 x10_1) < 128) = false := decide_eq_false c14
                      clear c14
                      have H' := Aside0.mk H
                      clear H
                      go_wp2
                      go_roundg kj4
                      case measure => have := HK1.out; have := HJ4.out; omega
                      case rel => exact ⟨(Go.bits .or .u64 x5_1 (ji13)), (wrap64 (x10_1 + 1)), (by first | rfl | (simp; done) | (simp only [← hji13] <;> (first | rfl | simp)) | (simp [*]; done)), (by first | rfl | (simp; done) | (simp [*]; done)), H', ⟨by have := HK1.out; have := HJ4.out; omega⟩, by repeat (first | exact Drawn0.refl _ | apply Drawn0.step)⟩
                  · rw [if_neg c12] at H
                    exact absurd H (by simp)
          · rw [if_neg c4] at H
            exact absurd H (by simp)
        · rw [if_neg c3] at H
          exact absurd H (by simp)
      · rw [if_neg c2] at H
        have c2b0 : decide (x10_1 < (l0.length : Int)) = false := decide_eq_false c2
        clear c2
        simp only [Option.some.injEq, Prod.mk.injEq] at H
        obtain ⟨rfl, rfl, rfl⟩ := H
        go_wp2
        go_ret3
        exact ⟨by first | rfl | (simp; done) | (simp [*]; done), by repeat (first | exact Drawn0.refl _ | apply Drawn0.step)⟩

/-! ### codec_Uint: function 19 -/
theorem codec_Uint_ev (l : List Int) (hl : Bytes l) (hm : l.length ≤ 140737488355328) (d : Nat) : ∀ (i a : Nat), i + d = l.length → i ≤ 9 → a < 128 ^ i → Ev (fun k => codec_Uint_p.l0 k (a : Int) l (l.length : Int) (i : Int)) (i3 (uintR (l.drop i) i a)) := by
  induction d with
  | zero =>
    intro i a hi h9 ha
    refine Ev.step (f := fun _ => some (0, 0, 20)) (fun k => ?_) (by rw [List.drop_of_length_le (by omega)]; exact Ev.now _)
    simp only [codec_Uint_p.l0]
    rw [if_neg (by omega)]
  | succ d ih =>
    intro i a hi h9 ha
    have hlt : i < l.length := by omega
    have hb := hl _ (List.getElem_mem hlt)
    have hrd : rd l (i : Int) = l[i] := by simp [rd, List.getD_eq_getElem?_getD, hlt]
    rw [List.drop_eq_getElem_cons hlt]
    obtain ⟨c, hc⟩ := Int.eq_ofNat_of_zero_le hb.1
    have hw : wrap64 (7 * (i : Int)) = 7 * (i : Int) := by unfold wrap64; omega
    have hw1 : wrap64 ((i : Int) + 1) = ((i + 1 : Nat) : Int) := by unfold wrap64; omega
    have hand : IntKind.u64.wrap (Go.bits .and .u8 (c : Int) 127) = ((c % 128 : Nat) : Int) := by
      rw [own_and127 _ ⟨by omega, by omega⟩]
      simp [IntKind.wrap, IntKind.bits, IntKind.signed]
      omega
    have bad : Ev (fun k => codec_Uint_p.j1 k (a : Int) (i : Int) (rd l (i : Int)) l (l.length : Int) (i : Int) true) (i3 (0, 0, 21)) := Ev.step (f := fun _ => some (0, 0, 21)) (fun k => by simp [codec_Uint_p.j1]) (Ev.now _)
    have good : (i ≤ 8 ∨ i = 9 ∧ c = 1) → Ev (fun k => codec_Uint_p.j1 k (a : Int) (i : Int) (rd l (i : Int)) l (l.length : Int) (i : Int) false) (i3 (if (l[i] : Int) < 128 then (a + (l[i] : Int).toNat % 128 * 128 ^ i, i + 1, 0) else uintR (l.drop (i + 1)) (i + 1) (a + (l[i] : Int).toNat % 128 * 128 ^ i))) := by
      intro h8
      rw [hrd, hc, Int.toNat_natCast]
      have hacc := acc_step a (c % 128) i ha (by omega) (by omega)
      by_cases h1 : (c : Int) < 128
      · rw [if_pos h1]
        refine Ev.step (f := fun _ => some (i3 (a + c % 128 * 128 ^ i, i + 1, 0))) (fun k => ?_) (Ev.now _)
        simp only [codec_Uint_p.j1]
        rw [if_neg (by decide), if_pos (by omega), if_pos h1, hand, hw, hacc.1, hw1]
        rfl
      · rw [if_neg h1]
        refine Ev.step (f := fun k => codec_Uint_p.l0 k ((a + c % 128 * 128 ^ i : Nat) : Int) l (l.length : Int) ((i + 1 : Nat) : Int)) (fun k => ?_) (ih (i + 1) _ (by omega) (by omega) (acc_lt a (c % 128) i ha (by omega)))
        simp only [codec_Uint_p.j1]
        rw [if_neg (by decide), if_pos (by omega), if_neg h1, hand, hw, hacc.1, hw1]
    simp only [uintR]
    by_cases hz : l[i] = 0 ∧ 0 < i ∨ i = 9 ∧ l[i] ≠ 1
    · rw [if_pos hz]
      refine Ev.step (fun k => ?_) bad
      simp only [codec_Uint_p.l0]
      rw [if_pos (by omega), if_pos (by omega), if_pos (by omega)]
      by_cases h0 : l[i] = 0
      · rw [hrd, if_pos h0]
        by_cases hi0 : (i : Int) > 0
        · rw [if_pos hi0]
        · exact absurd hz (by omega)
      · rw [hrd, if_neg h0]
        have h9' : i = 9 ∧ l[i] ≠ 1 := by omega
        rw [if_pos (by omega), bne_iff_ne.mpr h9'.2]
    · rw [if_neg hz]
      refine Ev.step (fun k => ?_) (good (by omega))
      simp only [codec_Uint_p.l0]
      rw [if_pos (by omega), if_pos (by omega), if_pos (by omega)]
      by_cases h0 : l[i] = 0
      · rw [hrd, if_pos h0, if_neg (by omega), if_neg (by omega)]
      · rw [hrd, if_neg h0]
        by_cases h9' : i = 9
        · rw [if_pos (by omega)]
          have h1 : l[i] = 1 := by omega
          rw [h1]
          rfl
        · rw [if_neg (by omega)]
def codec_Uint.f (l0 : List Int) : Option (Int × Int × Int) := if okB l0 = true ∧ l0.length ≤ 140737488355328 then some (uintL l0) else none
theorem codec_Uint.calls (A0 : Option Addr) (c0 : Nat) (l0 : List Int) (r1 : Int) (r2 : Int) (r3 : Int) (w : World) (hr0 : Kd.C (Kd.int .u8) w A0 l0.length l0) (hc0 : l0.length ≤ c0) (h : codec_Uint.f l0 = some (r1, r2, r3)) :
    Calls Tryd.prog 19 #[.slice A0 l0.length c0] w fun e w' => e = .returned (.tuple #[.int .u64 r1, .int .i64 r2, .int .i64 r3]) ∧ Drawn0 w w' := by
  unfold codec_Uint.f at h
  split at h
  · rename_i hh
    obtain ⟨k, hk⟩ := (codec_Uint_ev l0 (okB_iff.1 hh.1) hh.2 l0.length 0 0 (by omega) (by omega) (by decide)).rounds
    exact codec_Uint_p.calls k A0 c0 l0 r1 r2 r3 w hr0 hc0 (by rw [← h]; exact hk)
  · cases h

end Go.Proofs.YtipefhadafildaaDoor.QBack
