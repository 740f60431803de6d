-- Printed by a program of this claim's own out of the translation.
import Derived.Test.YtipefhadafildaaQAx0
namespace Go.Proofs.Ytipefhadafildaa.QA
open Go.Proofs.Ytipefhadafildaa.Own
open Go.RowKit Go.Proofs.YtipefhadafildaaW.PrintWords Go.Proofs.YtipefhadafildaaW.PrintLast Go.Proofs.YtipefhadafildaaW.PrintMore
attribute [local go_sem] max2_int min2_int max_two min_two max_three min_three max_four min_four   -- for this text's walks alone
set_option linter.unusedVariables false
set_option linter.unusedSimpArgs false

/-! ### screelaw2_behind_p: function 6 -/
def screelaw2_behind_p.f (l0 : List Int) (l1 : List Int) : Option (List Int) := if ([] : List Int).length + l0.length < 140737488355328 then ((some (([] : List Int) ++ l0 : List Int)).bind fun y101 => (if y101.length + l1.length < 140737488355328 then (some (y101 ++ l1)) else (none))) else (none)
set_option maxHeartbeats 8000000 in
set_option maxRecDepth 100000 in
theorem screelaw2_behind_p.calls (A0 : Option Addr) (c0 : Nat) (l0 : List Int) (A1 : Option Addr) (c1 : Nat) (l1 : List Int) (r : List Int) (w : World) (hr0 : Kd.C (Kd.int .u8) w A0 l0.length l0) (hc0 : l0.length ≤ c0) (hr1 : Kd.C (Kd.int .u8) w A1 l1.length l1) (hc1 : l1.length ≤ c1) (h : screelaw2_behind_p.f l0 l1 = some r) :
    Calls Try.prog 6 #[.slice A0 l0.length c0, .slice A1 l1.length c1] w fun e w' => ∃ v0_ : Value, e = .returned (v0_) ∧ Kd.R (Kd.int .u8) 5 w' w.heap.size (fun _ => True) v0_ r ∧ Below w.heap.size w w' := by
  have HR0 := Aside0.mk hr0
  have HC0 := Aside0.mk hc0
  clear hr0 hc0
  have HR1 := Aside0.mk hr1
  have HC1 := Aside0.mk hc1
  clear hr1 hc1
  have HB := Aside0.mk (Below.refl w.heap.size w)
  have H : (if ([] : List Int).length + l0.length < 140737488355328 then ((some (([] : List Int) ++ l0 : List Int)).bind fun y101 => (if y101.length + l1.length < 140737488355328 then (some (y101 ++ l1)) else (none))) else (none)) = some r := h
  clear h
  by_cases c3 : ([] : List Int).length + l0.length < 140737488355328
  · rw [if_pos c3] at H
    have LMc3 := Aside0.mk c3
    clear c3
    obtain ⟨y101, hy101⟩ : ∃ y_ : List Int, y_ = (([] : List Int) ++ l0) := ⟨_, rfl⟩
    replace H : (if y101.length + l1.length < 140737488355328 then (some (y101 ++ l1)) else (none)) = some r := by first | (rw [hy101]; with_reducible exact H) | (have H2_ := (Option.bind_some _ _).symm.trans H; rw [hy101]; with_reducible exact H2_) | (have H2_ := (Option.bind_some _ _).symm.trans H; with_reducible exact H2_) | with_reducible exact H | (rw [hy101]; exact H) | exact H
    have Ny101 := Aside0.mk hy101
    clear hy101
    by_cases c4 : y101.length + l1.length < 140737488355328
    · rw [if_pos c4] at H
      have LMc4 := Aside0.mk c4
      clear c4
      obtain ⟨y104, hy104⟩ : ∃ y_ : List Int, y_ = (y101 ++ l1) := ⟨_, rfl⟩
      replace H : (some y104) = some r := by first | (rw [hy104]; with_reducible exact H) | (have H2_ := (Option.bind_some _ _).symm.trans H; rw [hy104]; with_reducible exact H2_) | (have H2_ := (Option.bind_some _ _).symm.trans H; with_reducible exact H2_) | with_reducible exact H | (rw [hy104]; exact H) | exact H
      have Ny104 := Aside0.mk hy104
      clear hy104
      obtain rfl := Option.some.inj H
      go_enter Try.func6, Try.ntmps6
      go_wp2_with (first | ((with_reducible refine gate_builtin (b := .append) (xs := #[.tmp 6, .tmp 7]) rfl ?_); at_builtin; refine Kd.R_append_rows (Kd.int .u8) (w0 := w) w.heap.size rfl (.tmp 6) (.tmp 7) 23 5 (.int .u8 0) 1 rfl Try.underlying23 info5 rfl (by decide) (by omega) (.slice none 0 0) ([] : List Int) l0 _ _ _ (fun _ => True) (fun _ => False) rfl rfl ?aO ?aR (fun _ _ h => h) (fun _ h => h.elim) ?aF ?aB ?aS ?aL ?_; (case aR => repeat (first | exact HR0.out | (with_reducible refine Kd.C_alloc ?_ _) | (with_reducible refine Kd.C_drewN ?_ _) | (with_reducible refine Kd.C_drew ?_))); (case aB => exact (by repeat (first | (with_reducible first | exact HB.out | apply below_alloc | apply pw_below_drewN | apply below_drew1) | exact HB.out))); (case aF => exact (fun _ _ => trivial)); (case aO => exact ((Kd.R_nil _ _ _ _ (fun _ => True)))); (case aS => exact (below_size (by repeat (first | (with_reducible first | exact HB.out | apply below_alloc | apply pw_below_drewN | apply below_drew1) | exact HB.out)))); (case aL => have := LMc3.out; omega); intro v102 w5 ho hb hg hat; rw [← Ny101.out] at ho; have n0_ := Aside0.mk (hb); have n1_ := Aside0.mk (ho); clear HB; have HB := n0_; have HO103 := n1_; clear n0_ n1_; clear ho hb hg hat) | ((with_reducible refine gate_builtin (b := .append) (xs := #[.tmp 9, .tmp 10]) rfl ?_); at_builtin; refine Kd.R_append_rows (Kd.int .u8) (w0 := w) w.heap.size rfl (.tmp 9) (.tmp 10) 23 5 (.int .u8 0) 1 rfl Try.underlying23 info5 rfl (by decide) (by omega) v102 y101 l1 _ _ _ (fun _ => True) (fun _ => False) rfl rfl ?aO ?aR (fun _ _ h => h) (fun _ h => h.elim) ?aF ?aB ?aS ?aL ?_; (case aR => repeat (first | exact (Kd.C_below HR1.out HB.out) | (with_reducible refine Kd.C_alloc ?_ _) | (with_reducible refine Kd.C_drewN ?_ _) | (with_reducible refine Kd.C_drew ?_))); (case aB => exact (by repeat (first | (with_reducible first | exact HB.out | apply below_alloc | apply pw_below_drewN | apply below_drew1) | exact HB.out))); (case aF => exact (fun _ _ => trivial)); (case aO => exact (by (with_reducible repeat (first | apply Kd.R_alloc | apply Kd.R_drewN | apply Kd.R_drew)); exact HO103.out)); (case aS => exact (below_size (by repeat (first | (with_reducible first | exact HB.out | apply below_alloc | apply pw_below_drewN | apply below_drew1) | exact HB.out)))); (case aL => have := LMc4.out; omega); intro v105 w6 ho hb hg hat; rw [← Ny104.out] at ho; have n0_ := Aside0.mk (hb); have n1_ := Aside0.mk (ho); clear HB; clear HO103; have HB := n0_; have HO106 := n1_; clear n0_ n1_; clear ho hb hg hat))
      go_ret
      exact ⟨_, by first | rfl | (simp [errW_none, errW_some] <;> rfl) | (simp [*, errW_none, errW_some] <;> rfl), by (with_reducible repeat (first | apply Kd.R_alloc | apply Kd.R_drewN | apply Kd.R_drew)); exact HO106.out, by repeat (first | (with_reducible first | exact HB.out | apply below_alloc | apply pw_below_drewN | apply below_drew1) | exact HB.out)⟩
    · rw [if_neg c4] at H
      exact absurd H (by simp)
  · rw [if_neg c3] at H
    exact absurd H (by simp)

/-! ### screelaw2_behind: function 6 -/
def screelaw2_behind.f (l0 : List Int) (l1 : List Int) : Option (List Int) := if l0.length + l1.length < 140737488355328 then some (l0 ++ l1) else none
theorem screelaw2_behind.calls (A0 : Option Addr) (c0 : Nat) (l0 : List Int) (A1 : Option Addr) (c1 : Nat) (l1 : List Int) (r : List Int) (w : World) (hr0 : Kd.C (Kd.int .u8) w A0 l0.length l0) (hc0 : l0.length ≤ c0) (hr1 : Kd.C (Kd.int .u8) w A1 l1.length l1) (hc1 : l1.length ≤ c1) (h : screelaw2_behind.f l0 l1 = some r) :
    Calls Try.prog 6 #[.slice A0 l0.length c0, .slice A1 l1.length c1] w fun e w' => ∃ v0_ : Value, e = .returned (v0_) ∧ Kd.R (Kd.int .u8) 5 w' w.heap.size (fun _ => True) v0_ r ∧ Below w.heap.size w w' := by
  refine screelaw2_behind_p.calls A0 c0 l0 A1 c1 l1 r w hr0 hc0 hr1 hc1 ?_
  unfold screelaw2_behind.f at h
  split at h
  · rename_i hh
    unfold screelaw2_behind_p.f
    rw [if_pos (by simp; omega)]
    simp only [List.nil_append, Option.bind_some]
    rw [if_pos hh]
    exact h
  · cases h

/-! ### screeroom_lot: function 37 -/
def screeroom_lot.f (a0 : Int) : Option (Int) := if (Int.tmod a0 2) = 0 then (some (-7701)) else (some (-7702))
set_option maxHeartbeats 8000000 in
set_option maxRecDepth 100000 in
theorem screeroom_lot.calls (a0 : Int) (r : Int) (w : World) (h : screeroom_lot.f a0 = some r) :
    Calls Try.prog 37 #[.int .i64 a0] w fun e w' => e = .returned (.int .i64 r) ∧ Drawn0 w w' := by
  have H : (if (Int.tmod a0 2) = 0 then (some (-7701)) else (some (-7702))) = some r := h
  clear h
  by_cases c2 : (Int.tmod a0 2) = 0
  · rw [if_pos c2] at H
    have c2b0 : ((Int.tmod a0 2) == 0) = true := beq_iff_eq.mpr c2
    have c2b1 : ((Int.tmod a0 2) != 0) = false := bne_eq_false_iff_eq.mpr c2
    clear c2
    obtain rfl := Option.some.inj H
    go_enter Try.func37, Try.ntmps37
    go_wp2
    go_ret
    exact ⟨by first | rfl | (simp; done) | (simp [*]; done), by repeat (first | exact Drawn0.refl _ | apply Drawn0.step)⟩
  · rw [if_neg c2] at H
    have c2b0 : ((Int.tmod a0 2) == 0) = false := beq_eq_false_iff_ne.mpr c2
    have c2b1 : ((Int.tmod a0 2) != 0) = true := bne_iff_ne.mpr c2
    obtain rfl := Option.some.inj H
    go_enter Try.func37, Try.ntmps37
    go_wp2
    go_ret
    exact ⟨by first | rfl | (simp; done) | (simp [*]; done), by repeat (first | exact Drawn0.refl _ | apply Drawn0.step)⟩

-- NOT PRINTED: function 16 (screeroom_Room_layBytes)

-- NOT PRINTED: function 7 (screeroom_Room_Bytes)

/-! ### screelaw2_same_p: function 8 -/
def screelaw2_same_p.l0 : Nat → List Int → List Int → Int → Option (Bool)
  | 0, _, _, _ => none
  | k + 1, x0, x1, x5 => if x5 < (x0.length : Int) then (if 0 ≤ x5 then (if x5 < (x1.length : Int) then (if (rd x0 x5) = (rd x1 x5) then (screelaw2_same_p.l0 k x0 x1 (wrap64 (x5 + 1))) else (some false)) else (none)) else (none)) else (some true)
def screelaw2_same_p.f (k : Nat) (l0 : List Int) (l1 : List Int) : Option (Bool) := if (l0.length : Int) = (l1.length : Int) then (screelaw2_same_p.l0 k l0 l1 0) else (some false)
theorem screelaw2_same_p.mono_l : ∀ k, (∀ y0 y1 y2, LeO (screelaw2_same_p.l0 k y0 y1 y2) (screelaw2_same_p.l0 (k + 1) y0 y1 y2))
  | 0 => fun _ _ _ r h => by simp [screelaw2_same_p.l0] at h
  | k + 1 => by
    have ih0 := screelaw2_same_p.mono_l k
    · intro y0 y1 y2
      unfold screelaw2_same_p.l0
      repeat' first
      | (with_reducible exact ih0 _ _ _)
      | (with_reducible exact LeO.refl _)
      | (with_reducible exact LeO.none _)
      | (with_reducible refine LeO.ite ?_ ?_)
      | (with_reducible refine LeO.bind ?_ (fun _ => ?_))
      | exact ih0 _ _ _
      | exact LeO.none _
      | refine LeO.ite ?_ ?_
      | refine LeO.bind ?_ (fun _ => ?_)
theorem screelaw2_same_p.mono : ∀ a0 a1 k, LeO (screelaw2_same_p.f k a0 a1) (screelaw2_same_p.f (k + 1) a0 a1) := by
  intro a0 a1 k
  have ih0 := screelaw2_same_p.mono_l k
  unfold screelaw2_same_p.f
  repeat' first
      | (with_reducible exact ih0 _ _ _)
      | (with_reducible exact LeO.refl _)
      | (with_reducible exact LeO.none _)
      | (with_reducible refine LeO.ite ?_ ?_)
      | (with_reducible refine LeO.bind ?_ (fun _ => ?_))
      | exact ih0 _ _ _
      | exact LeO.none _
      | refine LeO.ite ?_ ?_
      | refine LeO.bind ?_ (fun _ => ?_)
set_option maxHeartbeats 8000000 in
set_option maxRecDepth 100000 in
theorem screelaw2_same_p.calls (k : Nat) (A0 : Option Addr) (c0 : Nat) (l0 : List Int) (A1 : Option Addr) (c1 : Nat) (l1 : List Int) (r : Bool) (w : World) (hr0 : Kd.C (Kd.int .u8) w A0 l0.length l0) (hc0 : l0.length ≤ c0) (hr1 : Kd.C (Kd.int .u8) w A1 l1.length l1) (hc1 : l1.length ≤ c1) (h : screelaw2_same_p.f k l0 l1 = some r) :
    Calls Try.prog 8 #[.slice A0 l0.length c0, .slice A1 l1.length c1] w fun e w' => e = .returned (.bool r) ∧ Drawn0 w w' := by
  have HR0 := Aside0.mk hr0
  have HC0 := Aside0.mk hc0
  clear hr0 hc0
  have HR1 := Aside0.mk hr1
  have HC1 := Aside0.mk hc1
  clear hr1 hc1
  have H : (if (l0.length : Int) = (l1.length : Int) then (screelaw2_same_p.l0 k l0 l1 0) else (some false)) = some r := h
  clear h
  by_cases c3 : (l0.length : Int) = (l1.length : Int)
  · rw [if_pos c3] at H
    have c3b0 : ((l0.length : Int) == (l1.length : Int)) = true := beq_iff_eq.mpr c3
    have c3b1 : ((l0.length : Int) != (l1.length : Int)) = false := bne_eq_false_iff_eq.mpr c3
    have c3b2 : (l0.length == l1.length) = true := by first | simpa using c3 | (simp at c3 ⊢; omega)
    clear c3
    have H' := Aside0.mk H
    clear H
    go_enter Try.func8, Try.ntmps8
    go_wp2
    repeat (go_quiet (fail); try go_wp2)
    go_loopg [5] k (fun kq v5 w' => ∃ (x5_1 : Int), v5 = .int .i64 x5_1 ∧ Aside0 (screelaw2_same_p.l0 kq l0 l1 x5_1 = some r) ∧ Aside0 (kq ≤ k) ∧ Drawn0 w w')
    case atStart => exact ⟨(0), (by first | rfl | (simp; done) | (simp [*]; done)), H', ⟨Nat.le_refl _⟩, by repeat (first | exact Drawn0.refl _ | apply Drawn0.step)⟩
    case round =>
      clear H'
      try clear c1
      try clear p2
      try clear c3
      try clear c3b0
      try clear c3b1
      try clear c3b2
      obtain ⟨x5_1, rfl, HA, HK1, ⟨m1, rfl⟩⟩ := hrel
      cases gk with
      | zero => exact absurd HA.out (by simp [screelaw2_same_p.l0])
      | succ k1 =>
        have H := HA.out
        clear HA
        simp only [screelaw2_same_p.l0] at H
        by_cases c4 : x5_1 < (l0.length : Int)
        · rw [if_pos c4] at H
          have c4b0 : decide (x5_1 < (l0.length : Int)) = true := decide_eq_true c4
          clear c4
          by_cases c5 : 0 ≤ x5_1
          · rw [if_pos c5] at H
            have c5b0 : decide (0 ≤ x5_1) = true := decide_eq_true c5
            clear c5
            by_cases c6 : x5_1 < (l1.length : Int)
            · rw [if_pos c6] at H
              have c6b0 : decide (x5_1 < (l1.length : Int)) = true := decide_eq_true c6
              clear c6
              by_cases c7 : (rd l0 x5_1) = (rd l1 x5_1)
              · rw [if_pos c7] at H
                have c7b0 : ((rd l0 x5_1) == (rd l1 x5_1)) = true := beq_iff_eq.mpr c7
                have c7b1 : ((rd l0 x5_1) != (rd l1 x5_1)) = false := bne_eq_false_iff_eq.mpr c7
                clear c7
                have H' := Aside0.mk H
                clear H
                have p117 : 0 ≤ (x5_1 : Int) := of_decide_eq_true (by first | (with_reducible assumption) | assumption)
                have q117 : x5_1 < (l0.length : Int) := of_decide_eq_true (by first | (with_reducible assumption) | assumption)
                obtain ⟨ad117, e117, hx117_0⟩ := Kd.at_int HR0.out x5_1 p117 q117
                cases e117
                replace p117 := eq_true p117
                replace q117 := eq_true q117
                have p118 : 0 ≤ (x5_1 : Int) := of_decide_eq_true (by first | (with_reducible assumption) | assumption)
                have q118 : x5_1 < (l1.length : Int) := of_decide_eq_true (by first | (with_reducible assumption) | assumption)
                obtain ⟨ad118, e118, hx118_0⟩ := Kd.at_int HR1.out x5_1 p118 q118
                cases e118
                replace p118 := eq_true p118
                replace q118 := eq_true q118
                go_wp2
                repeat (go_quiet (fail); try go_wp2)
                go_roundg k1
                case measure => have := HK1.out; omega
                case rel => exact ⟨(wrap64 (x5_1 + 1)), (by first | rfl | (simp; done) | (simp [*]; done)), H', ⟨by have := HK1.out; omega⟩, by repeat (first | exact Drawn0.refl _ | apply Drawn0.step)⟩
              · rw [if_neg c7] at H
                have c7b0 : ((rd l0 x5_1) == (rd l1 x5_1)) = false := beq_eq_false_iff_ne.mpr c7
                have c7b1 : ((rd l0 x5_1) != (rd l1 x5_1)) = true := bne_iff_ne.mpr c7
                obtain rfl := Option.some.inj H
                have p117 : 0 ≤ (x5_1 : Int) := of_decide_eq_true (by first | (with_reducible assumption) | assumption)
                have q117 : x5_1 < (l0.length : Int) := of_decide_eq_true (by first | (with_reducible assumption) | assumption)
                obtain ⟨ad117, e117, hx117_0⟩ := Kd.at_int HR0.out x5_1 p117 q117
                cases e117
                replace p117 := eq_true p117
                replace q117 := eq_true q117
                have p118 : 0 ≤ (x5_1 : Int) := of_decide_eq_true (by first | (with_reducible assumption) | assumption)
                have q118 : x5_1 < (l1.length : Int) := of_decide_eq_true (by first | (with_reducible assumption) | assumption)
                obtain ⟨ad118, e118, hx118_0⟩ := Kd.at_int HR1.out x5_1 p118 q118
                cases e118
                replace p118 := eq_true p118
                replace q118 := eq_true q118
                go_wp2
                repeat (go_quiet (fail); try go_wp2)
                go_ret
                exact ⟨by first | rfl | (simp; done) | (simp [*]; done), by repeat (first | exact Drawn0.refl _ | apply Drawn0.step)⟩
            · rw [if_neg c6] at H
              exact absurd H (by simp)
          · rw [if_neg c5] at H
            exact absurd H (by simp)
        · rw [if_neg c4] at H
          have c4b0 : decide (x5_1 < (l0.length : Int)) = false := decide_eq_false c4
          clear c4
          obtain rfl := Option.some.inj H
          go_wp2
          repeat (go_quiet (fail); try go_wp2)
          go_ret
          exact ⟨by first | rfl | (simp; done) | (simp [*]; done), by repeat (first | exact Drawn0.refl _ | apply Drawn0.step)⟩
  · rw [if_neg c3] at H
    have c3b0 : ((l0.length : Int) == (l1.length : Int)) = false := beq_eq_false_iff_ne.mpr c3
    have c3b1 : ((l0.length : Int) != (l1.length : Int)) = true := bne_iff_ne.mpr c3
    have c3b2 : (l0.length == l1.length) = false := by first | simpa using c3 | (simp at c3 ⊢; omega)
    obtain rfl := Option.some.inj H
    go_enter Try.func8, Try.ntmps8
    go_wp2
    repeat (go_quiet (fail); try go_wp2)
    go_ret
    exact ⟨by first | rfl | (simp; done) | (simp [*]; done), by repeat (first | exact Drawn0.refl _ | apply Drawn0.step)⟩

/-! ### screelaw2_same: function 8 -/
theorem screelaw2_same_ev (l1 l2 : List Int) (hlen : l1.length = l2.length) (hm : l1.length ≤ 9223372036854775807) (d : Nat) : ∀ i : Nat, i + d = l1.length → Ev (fun k => screelaw2_same_p.l0 k l1 l2 (i : Int)) (decide (l1.drop i = l2.drop i)) := by
  induction d with
  | zero =>
    intro i hi
    refine Ev.step (f := fun _ => some true) (fun k => ?_) (by rw [List.drop_of_length_le (by omega), List.drop_of_length_le (by omega)]; exact Ev.now _)
    simp only [screelaw2_same_p.l0]
    rw [if_neg (by omega)]
  | succ d ih =>
    intro i hi
    have h1 : i < l1.length := by omega
    have h2 : i < l2.length := by omega
    have e1 : rd l1 (i : Int) = l1[i] := by simp [rd, List.getD_eq_getElem?_getD, h1]
    have e2 : rd l2 (i : Int) = l2[i] := by simp [rd, List.getD_eq_getElem?_getD, h2]
    rw [List.drop_eq_getElem_cons h1, List.drop_eq_getElem_cons h2]
    by_cases h : l1[i] = l2[i]
    · have hd : decide (l1[i] :: l1.drop (i + 1) = l2[i] :: l2.drop (i + 1)) = decide (l1.drop (i + 1) = l2.drop (i + 1)) := decide_eq_decide.2 ⟨fun e => (List.cons.inj e).2, fun e => by rw [h, e]⟩
      rw [hd]
      refine Ev.step (fun k => ?_) (ih (i + 1) (by omega))
      simp only [screelaw2_same_p.l0]
      rw [if_pos (by omega), if_pos (by omega), if_pos (by omega), e1, e2, if_pos h, show wrap64 ((i : Int) + 1) = ((i + 1 : Nat) : Int) by unfold wrap64; omega]
    · have hd : decide (l1[i] :: l1.drop (i + 1) = l2[i] :: l2.drop (i + 1)) = false := decide_eq_false (fun e => h (List.cons.inj e).1)
      rw [hd]
      refine Ev.step (f := fun _ => some false) (fun k => ?_) (Ev.now _)
      simp only [screelaw2_same_p.l0]
      rw [if_pos (by omega), if_pos (by omega), if_pos (by omega), e1, e2, if_neg h]
def screelaw2_same.f (l0 : List Int) (l1 : List Int) : Option (Bool) := if l0.length ≤ 9223372036854775807 then some (decide (l0 = l1)) else none
theorem screelaw2_same.calls (A0 : Option Addr) (c0 : Nat) (l0 : List Int) (A1 : Option Addr) (c1 : Nat) (l1 : List Int) (r : Bool) (w : World) (hr0 : Kd.C (Kd.int .u8) w A0 l0.length l0) (hc0 : l0.length ≤ c0) (hr1 : Kd.C (Kd.int .u8) w A1 l1.length l1) (hc1 : l1.length ≤ c1) (h : screelaw2_same.f l0 l1 = some r) :
    Calls Try.prog 8 #[.slice A0 l0.length c0, .slice A1 l1.length c1] w fun e w' => e = .returned (.bool r) ∧ Drawn0 w w' := by
  unfold screelaw2_same.f at h
  split at h
  · rename_i hh
    by_cases hlen : l0.length = l1.length
    · obtain ⟨k, hk⟩ := (screelaw2_same_ev l0 l1 hlen hh l0.length 0 (by omega)).rounds
      refine screelaw2_same_p.calls k A0 c0 l0 A1 c1 l1 r w hr0 hc0 hr1 hc1 ?_
      unfold screelaw2_same_p.f
      rw [if_pos (by omega)]
      rw [← h]
      exact hk
    · refine screelaw2_same_p.calls 0 A0 c0 l0 A1 c1 l1 r w hr0 hc0 hr1 hc1 ?_
      unfold screelaw2_same_p.f
      rw [if_neg (by omega), ← h]
      have : ¬ l0 = l1 := fun e => hlen (by rw [e])
      simp [this]
  · cases h

/-! ### codec_number: function 17 -/
def codec_number.l0 : Nat → List Int → Int → Option (List Int)
  | 0, _, _ => none
  | k + 1, x0, x1 => if x1 ≥ 128 then (if x0.length < 140737488355328 then (codec_number.l0 k (x0 ++ [Go.bits .or .u8 ((x1) % 256) 128]) (x1 / 128)) else (none)) else (if x0.length < 140737488355328 then (some (x0 ++ [(x1) % 256])) else (none))
def codec_number.f (k : Nat) (l0 : List Int) (a1 : Int) : Option (List Int) := codec_number.l0 k l0 a1
theorem codec_number.mono_l : ∀ k, (∀ y0 y1, LeO (codec_number.l0 k y0 y1) (codec_number.l0 (k + 1) y0 y1))
  | 0 => fun _ _ r h => by simp [codec_number.l0] at h
  | k + 1 => by
    have ih0 := codec_number.mono_l k
    · intro y0 y1
      unfold codec_number.l0
      repeat' first
      | (with_reducible exact ih0 _ _)
      | (with_reducible exact LeO.refl _)
      | (with_reducible exact LeO.none _)
      | (with_reducible refine LeO.ite ?_ ?_)
      | (with_reducible refine LeO.bind ?_ (fun _ => ?_))
      | exact ih0 _ _
      | exact LeO.none _
      | refine LeO.ite ?_ ?_
      | refine LeO.bind ?_ (fun _ => ?_)
theorem codec_number.mono : ∀ a0 a1 k, LeO (codec_number.f k a0 a1) (codec_number.f (k + 1) a0 a1) := by
  intro a0 a1 k
  have ih0 := codec_number.mono_l k
  unfold codec_number.f
  repeat' first
      | (with_reducible exact ih0 _ _)
      | (with_reducible exact LeO.refl _)
      | (with_reducible exact LeO.none _)
      | (with_reducible refine LeO.ite ?_ ?_)
      | (with_reducible refine LeO.bind ?_ (fun _ => ?_))
      | exact ih0 _ _
      | exact LeO.none _
      | refine LeO.ite ?_ ?_
      | refine LeO.bind ?_ (fun _ => ?_)
set_option maxHeartbeats 8000000 in
set_option maxRecDepth 100000 in
theorem codec_number.calls (k : Nat) (P0_ : Nat → Prop) (u9000_ : Value) (l0 : List Int) (a1 : Int) (r : List Int) (w0 w : World) (hB : Below w0.heap.size w0 w) (ho0 : Kd.R (Kd.int .u8) 5 w w0.heap.size P0_ u9000_ l0) (h : codec_number.f k l0 a1 = some r) :
    Calls Try.prog 17 #[u9000_, .int .u64 a1] w fun e w' => ∃ v0_ : Value, e = .returned (v0_) ∧ Kd.R (Kd.int .u8) 5 w' w0.heap.size (fun k_ => (P0_ k_ ∨ w.heap.size ≤ k_)) v0_ r ∧ Below w0.heap.size w0 w' ∧ Kept w w' (fun k_ => P0_ k_) := by
  have HO0 := Aside0.mk (show Kd.R (Kd.int .u8) 5 w w0.heap.size (fun k_ => (P0_ k_ ∨ w.heap.size ≤ k_)) u9000_ l0 from Kd.R_mono ho0 (fun k_ hk => (.inl hk)))
  have HK := Aside0.mk (Kept.refl w (fun k_ => P0_ k_))
  have HW0 := Aside0.mk hB.size
  have HB := Aside0.mk hB
  clear hB
  have H : (codec_number.l0 k l0 a1) = some r := h
  clear h
  have H' := Aside0.mk H
  clear H
  go_enter Try.func17, Try.ntmps17
  go_wp2
  go_loopg [0, 1] k (fun kq v0 v1 w' => ∃ (x0_1 : List Int) (x1_1 : Int), v1 = .int .u64 x1_1 ∧ Aside0 (codec_number.l0 kq x0_1 x1_1 = some r) ∧ Aside0 (kq ≤ k) ∧ Aside0 (Kd.R (Kd.int .u8) 5 w' w0.heap.size (fun k_ => (P0_ k_ ∨ w.heap.size ≤ k_)) v0 x0_1) ∧ Aside0 (Kept w w' (fun k_ => P0_ k_)) ∧ Aside0 (Below w0.heap.size w0 w'))
  case atStart => exact ⟨(l0), (a1), (by first | rfl | (simp; done) | (simp [*]; done)), H', ⟨Nat.le_refl _⟩, ⟨by (with_reducible repeat (first | apply Kd.R_alloc | apply Kd.R_drewN | apply Kd.R_drew)); exact HO0.out⟩, ⟨by repeat (first | (with_reducible first | exact HK.out | apply Kept.alloc | apply Kept.drewN | apply Kept.drew) | exact HK.out)⟩, ⟨by repeat (first | (with_reducible first | exact HB.out | apply below_alloc | apply pw_below_drewN | apply below_drew1) | exact HB.out)⟩⟩
  case round =>
    clear H'
    try clear c1
    try clear p2
    obtain ⟨x0_1, x1_1, rfl, HA, HK1, HO_0, HK, HB⟩ := hrel
    cases gk with
    | zero => exact absurd HA.out (by simp [codec_number.l0])
    | succ k1 =>
      have H := HA.out
      clear HA
      simp only [codec_number.l0] at H
      by_cases c3 : x1_1 ≥ 128
      · rw [if_pos c3] at H
        have c3b0 : decide (128 ≤ x1_1) = true := decide_eq_true c3
        clear c3
        by_cases c4 : x0_1.length < 140737488355328
        · rw [if_pos c4] at H
          have LMc4 := Aside0.mk c4
          clear c4
          obtain ⟨y119, hy119⟩ : ∃ y_ : List Int, y_ = (x0_1 ++ [Go.bits .or .u8 ((x1_1) % 256) 128]) := ⟨_, rfl⟩
          replace H : (codec_number.l0 k1 y119 (x1_1 / 128)) = some r := by first | (rw [hy119]; with_reducible exact H) | (have H2_ := (Option.bind_some _ _).symm.trans H; rw [hy119]; with_reducible exact H2_) | (have H2_ := (Option.bind_some _ _).symm.trans H; with_reducible exact H2_) | with_reducible exact H | (rw [hy119]; exact H) | exact H
          have Ny119 := Aside0.mk hy119
          clear hy119
          have H' := Aside0.mk H
          clear H
          go_wp2_with (first | ((with_reducible refine gate_builtin (b := .append) (xs := #[.tmp 7, .tmp 11]) rfl ?_); at_builtin; refine Kd.R_append (Kd.int .u8) (w0 := w0) w0.heap.size rfl (.tmp 7) (.tmp 11) 23 5 (.int .u8 0) 1 rfl Try.underlying23 info5 rfl (by decide) (by omega) u0 x0_1 (Go.bits .or .u8 ((x1_1) % 256) 128) [.int .u8 (Go.bits .or .u8 ((x1_1) % 256) 128)] (fun k_ => (P0_ k_ ∨ w.heap.size ≤ k_)) (fun _ => False) rfl rfl ?aP (fun _ hk => hk.elim) ?aF ?aO ?aB ?aS ?aL ?_; (case aP => exact rfl); (case aB => exact (by repeat (first | (with_reducible first | exact HB.out | apply below_alloc | apply pw_below_drewN | apply below_drew1) | exact HB.out))); (case aF => exact (fun k_ hk => (.inr (Nat.le_trans (by first | exact HK.out.1 | exact (show Kept w _ (fun k_ => P0_ k_) from by repeat (first | (with_reducible first | exact HK.out | apply Kept.alloc | apply Kept.drewN | apply Kept.drew) | exact HK.out)).1) hk)))); (case aO => exact (by (with_reducible repeat (first | apply Kd.R_alloc | apply Kd.R_drewN | apply Kd.R_drew)); exact HO_0.out)); (case aS => exact (below_size (by repeat (first | (with_reducible first | exact HB.out | apply below_alloc | apply pw_below_drewN | apply below_drew1) | exact HB.out)))); (case aL => have := LMc4.out; omega); intro v120 w5 ho hb hg hat; rw [← Ny119.out] at ho; have n0_ := Aside0.mk (hb); have n1_ := Aside0.mk (Kept.of_grown (S := (fun k_ => P0_ k_)) hg (by repeat (first | (with_reducible first | exact HK.out | apply Kept.alloc | apply Kept.drewN | apply Kept.drew) | exact HK.out)) (fun k_ e_ => (HO_0.out.1 k_ e_))); have n2_ := Aside0.mk (ho); clear HB; clear HK; clear HO_0; have HB := n0_; have HK := n1_; have HO121 := n2_; clear n0_ n1_ n2_; clear ho hb hg hat))
          go_roundg k1
          case measure => have := HK1.out; omega
          case rel => exact ⟨(y119), (x1_1 / 128), (by first | rfl | (simp; done) | (simp [*]; done)), H', ⟨by have := HK1.out; omega⟩, ⟨by (with_reducible repeat (first | apply Kd.R_alloc | apply Kd.R_drewN | apply Kd.R_drew)); exact HO121.out⟩, ⟨by repeat (first | (with_reducible first | exact HK.out | apply Kept.alloc | apply Kept.drewN | apply Kept.drew) | exact HK.out)⟩, ⟨by repeat (first | (with_reducible first | exact HB.out | apply below_alloc | apply pw_below_drewN | apply below_drew1) | exact HB.out)⟩⟩
        · rw [if_neg c4] at H
          exact absurd H (by simp)
      · rw [if_neg c3] at H
        have c3b0 : decide (128 ≤ x1_1) = false := decide_eq_false c3
        clear c3
        by_cases c6 : x0_1.length < 140737488355328
        · rw [if_pos c6] at H
          have LMc6 := Aside0.mk c6
          clear c6
          obtain ⟨y122, hy122⟩ : ∃ y_ : List Int, y_ = (x0_1 ++ [(x1_1) % 256]) := ⟨_, rfl⟩
          replace H : (some y122) = some r := by first | (rw [hy122]; with_reducible exact H) | (have H2_ := (Option.bind_some _ _).symm.trans H; rw [hy122]; with_reducible exact H2_) | (have H2_ := (Option.bind_some _ _).symm.trans H; with_reducible exact H2_) | with_reducible exact H | (rw [hy122]; exact H) | exact H
          have Ny122 := Aside0.mk hy122
          clear hy122
          obtain rfl := Option.some.inj H
          go_wp2_with (first | ((with_reducible refine gate_builtin (b := .append) (xs := #[.tmp 15, .tmp 18]) rfl ?_); at_builtin; refine Kd.R_append (Kd.int .u8) (w0 := w0) w0.heap.size rfl (.tmp 15) (.tmp 18) 23 5 (.int .u8 0) 1 rfl Try.underlying23 info5 rfl (by decide) (by omega) u0 x0_1 ((x1_1) % 256) [.int .u8 ((x1_1) % 256)] (fun k_ => (P0_ k_ ∨ w.heap.size ≤ k_)) (fun _ => False) rfl rfl ?aP (fun _ hk => hk.elim) ?aF ?aO ?aB ?aS ?aL ?_; (case aP => exact rfl); (case aB => exact (by repeat (first | (with_reducible first | exact HB.out | apply below_alloc | apply pw_below_drewN | apply below_drew1) | exact HB.out))); (case aF => exact (fun k_ hk => (.inr (Nat.le_trans (by first | exact HK.out.1 | exact (show Kept w _ (fun k_ => P0_ k_) from by repeat (first | (with_reducible first | exact HK.out | apply Kept.alloc | apply Kept.drewN | apply Kept.drew) | exact HK.out)).1) hk)))); (case aO => exact (by (with_reducible repeat (first | apply Kd.R_alloc | apply Kd.R_drewN | apply Kd.R_drew)); exact HO_0.out)); (case aS => exact (below_size (by repeat (first | (with_reducible first | exact HB.out | apply below_alloc | apply pw_below_drewN | apply below_drew1) | exact HB.out)))); (case aL => have := LMc6.out; omega); intro v123 w7 ho hb hg hat; rw [← Ny122.out] at ho; have n0_ := Aside0.mk (hb); have n1_ := Aside0.mk (Kept.of_grown (S := (fun k_ => P0_ k_)) hg (by repeat (first | (with_reducible first | exact HK.out | apply Kept.alloc | apply Kept.drewN | apply Kept.drew) | exact HK.out)) (fun k_ e_ => (HO_0.out.1 k_ e_))); have n2_ := Aside0.mk (ho); clear HB; clear HK; clear HO_0; have HB := n0_; have HK := n1_; have HO124 := n2_; clear n0_ n1_ n2_; clear ho hb hg hat))
          go_ret
          exact ⟨_, by first | rfl | (simp [errW_none, errW_some] <;> rfl) | (simp [*, errW_none, errW_some] <;> rfl), by (with_reducible repeat (first | apply Kd.R_alloc | apply Kd.R_drewN | apply Kd.R_drew)); exact HO124.out, by repeat (first | (with_reducible first | exact HB.out | apply below_alloc | apply pw_below_drewN | apply below_drew1) | exact HB.out), by repeat (first | (with_reducible first | exact HK.out | apply Kept.alloc | apply Kept.drewN | apply Kept.drew) | exact HK.out)⟩
        · rw [if_neg c6] at H
          exact absurd H (by simp)

/-! ### codec_twin: function 18 -/
def codec_twin.f (l0 : List Int) (a1 : Int) : Option (List Int) := if 0 ≤ a1 ∧ l0.length + a1.toNat ≤ 281474976710656 then some l0 else none
set_option maxHeartbeats 400000 in
set_option maxRecDepth 100000 in
theorem codec_twin.calls (A0 : Option Addr) (c0 : Nat) (l0 : List Int) (a1 : Int) (r : List Int) (w : World) (hr0 : Kd.C (Kd.int .u8) w A0 l0.length l0) (hc0 : l0.length ≤ c0) (h : codec_twin.f l0 a1 = some r) :
    Calls Try.prog 18 #[.slice A0 l0.length c0, .int .i64 a1] w fun e w' => ∃ v0_ : Value, e = .returned (v0_) ∧ Kd.R (Kd.int .u8) 5 w' w.heap.size (fun _ => True) v0_ r ∧ Below w.heap.size w w' := by
  unfold codec_twin.f at h
  split at h
  · rename_i h12
    obtain ⟨h1, h2⟩ := h12
    obtain rfl := Option.some.inj h
    clear h
    have HR0 := Aside0.mk hr0
    clear hr0
    go_enter Try.func18, Try.ntmps18
    go_wp2_with (first
      | (at_make; go_must (refine R_make_cap (enc := Value.int .u8) (h1 := fun _ => rfl) (w0 := w) w.heap.size 5 rfl (N := 12) rfl 23 _ _ rfl (l0.length : Int) ((l0.length : Int) + a1) rfl rfl Try.underlying23 (0 : Int) 1 info5 rfl (by omega) (ok := fun _ => True) trivial (by omega) (by omega) (by omega) (Below.refl _ _) (Nat.le_refl _) ?_); intro v1 w1 ho hb hg hn; (have HO := Aside0.mk ho); (have HB := Aside0.mk hb); clear ho hb hg hn)
      | ((with_reducible refine gate_builtin (b := .copy) (xs := #[.tmp 13, .tmp 14]) rfl ?_); go_must (refine Kd.R_copy (enc := Value.int .u8) (h1 := fun _ => rfl) (0 : Int) (w0 := w) w.heap.size rfl (.tmp 13) (.tmp 14) 23 23 5 rfl Try.underlying23 (by kernel_rfl) v1 (List.replicate (l0.length : Int).toNat 0) l0 A0 l0.length c0 (fun _ => True) rfl rfl HO.out (Kd.C_below HR0.out HB.out) HB.out HB.out.size ?_); intro w2 ho2 hb2 hg2; (have HO2 := Aside0.mk ho2); (have HB2 := Aside0.mk hb2); clear ho2 hb2 hg2))
    go_ret
    refine ⟨v1, rfl, ?_, HB2.out⟩
    have h := HO2.out
    simp only [List.length_replicate, Int.toNat_natCast, Nat.min_self, List.take_length, List.drop_replicate, Nat.sub_self, List.replicate_zero, List.append_nil] at h
    exact h
  · cases h

/-! ### codec_PutUint_p: function 9 -/
def codec_PutUint_p.f (k : Nat) (l0 : List Int) (a1 : Int) : Option (List Int) := (codec_twin.f l0 10).bind fun t125 => ((codec_number.f k t125 a1).bind fun t128 => (some t128))
theorem codec_PutUint_p.mono : ∀ a0 a1 k, LeO (codec_PutUint_p.f k a0 a1) (codec_PutUint_p.f (k + 1) a0 a1) := by
  intro a0 a1 k
  unfold codec_PutUint_p.f
  repeat' first
      | (with_reducible exact codec_number.mono _ _ _)
      | (with_reducible exact LeO.refl _)
      | (with_reducible exact LeO.none _)
      | (with_reducible refine LeO.ite ?_ ?_)
      | (with_reducible refine LeO.bind ?_ (fun _ => ?_))
      | exact codec_number.mono _ _ _
      | exact LeO.none _
      | refine LeO.ite ?_ ?_
      | refine LeO.bind ?_ (fun _ => ?_)
set_option maxHeartbeats 8000000 in
set_option maxRecDepth 100000 in
theorem codec_PutUint_p.calls (k : Nat) (A0 : Option Addr) (c0 : Nat) (l0 : List Int) (a1 : Int) (r : List Int) (w : World) (hr0 : Kd.C (Kd.int .u8) w A0 l0.length l0) (hc0 : l0.length ≤ c0) (h : codec_PutUint_p.f k l0 a1 = some r) :
    Calls Try.prog 9 #[.slice A0 l0.length c0, .int .u64 a1] w fun e w' => ∃ v0_ : Value, e = .returned (v0_) ∧ Kd.R (Kd.int .u8) 5 w' w.heap.size (fun _ => True) v0_ r ∧ Below w.heap.size w w' := by
  have HR0 := Aside0.mk hr0
  have HC0 := Aside0.mk hc0
  clear hr0 hc0
  have HB := Aside0.mk (Below.refl w.heap.size w)
  have H : ((codec_twin.f l0 10).bind fun t125 => ((codec_number.f k t125 a1).bind fun t128 => (some t128))) = some r := h
  clear h
  replace H := Option.bind_eq_some_iff.mp H
  obtain ⟨t125, A30, H⟩ := H
  replace H : ((codec_number.f k t125 a1).bind fun t128 => (some t128)) = some r := H
  have A3 := Aside0.mk A30
  clear A30
  replace H := Option.bind_eq_some_iff.mp H
  obtain ⟨t128, A40, H⟩ := H
  replace H : (some t128) = some r := H
  have A4 := Aside0.mk A40
  clear A40
  obtain rfl := Option.some.inj H
  go_enter Try.func9, Try.ntmps9
  go_wp2_with (first | ((with_reducible refine gate_callee (f := 18) rfl ?_); refine goesL_ (some 6) rfl rfl Try.func18 (by kernel_rfl) rfl #[.slice A0 l0.length c0, .int .i64 10] rfl (by (try simp only [List.map_toArray, List.map_cons, List.map_nil]); first | done | rfl | (simp only [List.length_drop, List.length_take]; rfl)) ?_; (with_reducible refine (codec_twin.calls _ _ l0 10 t125 _ ?side1 ?side2 A3.out).mono ?_); (case side1 => repeat (first | exact HR0.out | (with_reducible refine Kd.C_alloc ?_ _) | (with_reducible refine Kd.C_drewN ?_ _) | (with_reducible refine Kd.C_drew ?_))); (case side2 => exact HC0.out); rintro e w5 ⟨v126, rfl, ho0, hb⟩; refine ⟨_, rfl, ?_⟩; have n0_ := Aside0.mk (Kd.R_lower ho0 (below_size (by repeat (first | (with_reducible first | exact HB.out | apply below_alloc | apply pw_below_drewN | apply below_drew1) | exact HB.out)))); have n1_ := Aside0.mk (below_step (by repeat (first | (with_reducible first | exact HB.out | apply below_alloc | apply pw_below_drewN | apply below_drew1) | exact HB.out)) hb); clear HB; have HO127 := n0_; have HB := n1_; clear n0_ n1_; (try clear hb); (try clear hb2); (try clear hk); (try clear hi); (try clear ho0); obtain ⟨Ao6, co6, eo6⟩ := Kd.R_slice HO127.out; subst eo6) | ((with_reducible refine gate_callee (f := 17) rfl ?_); refine goesL_ (some 8) rfl rfl Try.func17 (by kernel_rfl) rfl #[.slice Ao6 t125.length co6, .int .u64 a1] rfl (by (try simp only [List.map_toArray, List.map_cons, List.map_nil]); first | done | rfl | (simp only [List.length_drop, List.length_take]; rfl)) ?_; (with_reducible refine (codec_number.calls k (fun k_ => some k_ = (.slice Ao6 t125.length co6 : Value).ownBlock) (.slice Ao6 t125.length co6) t125 a1 t128 w _ ?side1 ?side2 A4.out).mono ?_); (case side1 => repeat (first | (with_reducible first | exact HB.out | apply below_alloc | apply pw_below_drewN | apply below_drew1) | exact HB.out)); (case side2 => exact Kd.R_tight rfl HO127.out); rintro e w7 ⟨v129, rfl, ho0, hb, hkp⟩; refine ⟨_, rfl, ?_⟩; have n0_ := Aside0.mk (Kd.R_mono (ok' := fun k_ => True) ho0 (fun k_ hk_ => trivial)); have n1_ := Aside0.mk (hb); clear HB; clear HO127; have HO130 := n0_; have HB := n1_; clear n0_ n1_; (try clear hb); (try clear hkp); (try clear ho0)))
  go_ret
  exact ⟨_, by first | rfl | (simp [errW_none, errW_some] <;> rfl) | (simp [*, errW_none, errW_some] <;> rfl), by (with_reducible repeat (first | apply Kd.R_alloc | apply Kd.R_drewN | apply Kd.R_drew)); exact HO130.out, by repeat (first | (with_reducible first | exact HB.out | apply below_alloc | apply pw_below_drewN | apply below_drew1) | exact HB.out)⟩

/-! ### codec_PutUint: function 9 -/
theorem codec_number_ev (n : Nat) : ∀ l : List Int, n < 18446744073709551616 → l.length + (numL n).length ≤ 140737488355328 → Ev (fun k => codec_number.l0 k l (n : Int)) (l ++ numL n) := by
  induction n using Nat.strongRecOn with
  | _ n ih =>
    intro l hn hl
    by_cases h : n < 128
    · rw [numL_small h] at hl ⊢
      refine Ev.step (f := fun _ => some (l ++ [(n : Int)])) (fun k => ?_) (Ev.now _)
      simp only [codec_number.l0]
      rw [if_neg (by omega), if_pos (by simp at hl; omega), show (n : Int) % 256 = n by omega]
    · rw [numL_big h] at hl ⊢
      simp only [List.length_cons] at hl
      have h2 := ih (n / 128) (by omega) (l ++ [((n % 128 + 128 : Nat) : Int)]) (by omega) (by simp; omega)
      rw [List.append_assoc] at h2
      refine Ev.step (fun k => ?_) h2
      simp only [codec_number.l0]
      rw [if_pos (by omega), if_pos (by omega), own_or128 _ (by omega)]
      rfl
def codec_PutUint.f (l0 : List Int) (a1 : Int) : Option (List Int) := if 0 ≤ a1 ∧ a1 < 18446744073709551616 ∧ l0.length ≤ 140737488355000 then some (l0 ++ numL a1.toNat) else none
theorem codec_PutUint.calls (A0 : Option Addr) (c0 : Nat) (l0 : List Int) (a1 : Int) (r : List Int) (w : World) (hr0 : Kd.C (Kd.int .u8) w A0 l0.length l0) (hc0 : l0.length ≤ c0) (h : codec_PutUint.f l0 a1 = some r) :
    Calls Try.prog 9 #[.slice A0 l0.length c0, .int .u64 a1] w fun e w' => ∃ v0_ : Value, e = .returned (v0_) ∧ Kd.R (Kd.int .u8) 5 w' w.heap.size (fun _ => True) v0_ r ∧ Below w.heap.size w w' := by
  unfold codec_PutUint.f at h
  split at h
  · rename_i hh
    obtain ⟨n, rfl⟩ := Int.eq_ofNat_of_zero_le hh.1
    have h10 := numL_len10 (n := n) (by omega)
    obtain ⟨k, hk⟩ := (codec_number_ev n l0 (by omega) (by omega)).rounds
    refine codec_PutUint_p.calls k A0 c0 l0 _ r w hr0 hc0 ?_
    unfold codec_PutUint_p.f codec_twin.f codec_number.f
    rw [if_pos (by omega)]
    simp only [Option.bind_some]
    rw [hk]
    exact h
  · cases h

/-! ### screeref2_Number_p: function 10 -/
def screeref2_Number_p.l0 : Nat → Int → List Int → Option (List Int)
  | 0, _, _ => none
  | k + 1, x0, x3 => if x0 ≥ 128 then (if x3.length < 140737488355328 then (screeref2_Number_p.l0 k (IntKind.u64.wrap (Int.tdiv x0 128)) (x3 ++ [((Int.tmod x0 128) + 128) % 256])) else (none)) else (if x3.length < 140737488355328 then (some (x3 ++ [(x0) % 256])) else (none))
def screeref2_Number_p.f (k : Nat) (a0 : Int) : Option (List Int) := screeref2_Number_p.l0 k a0 ([] : List Int)
theorem screeref2_Number_p.mono_l : ∀ k, (∀ y0 y1, LeO (screeref2_Number_p.l0 k y0 y1) (screeref2_Number_p.l0 (k + 1) y0 y1))
  | 0 => fun _ _ r h => by simp [screeref2_Number_p.l0] at h
  | k + 1 => by
    have ih0 := screeref2_Number_p.mono_l k
    · intro y0 y1
      unfold screeref2_Number_p.l0
      repeat' first
      | (with_reducible exact ih0 _ _)
      | (with_reducible exact LeO.refl _)
      | (with_reducible exact LeO.none _)
      | (with_reducible refine LeO.ite ?_ ?_)
      | (with_reducible refine LeO.bind ?_ (fun _ => ?_))
      | exact ih0 _ _
      | exact LeO.none _
      | refine LeO.ite ?_ ?_
      | refine LeO.bind ?_ (fun _ => ?_)
theorem screeref2_Number_p.mono : ∀ a0 k, LeO (screeref2_Number_p.f k a0) (screeref2_Number_p.f (k + 1) a0) := by
  intro a0 k
  have ih0 := screeref2_Number_p.mono_l k
  unfold screeref2_Number_p.f
  repeat' first
      | (with_reducible exact ih0 _ _)
      | (with_reducible exact LeO.refl _)
      | (with_reducible exact LeO.none _)
      | (with_reducible refine LeO.ite ?_ ?_)
      | (with_reducible refine LeO.bind ?_ (fun _ => ?_))
      | exact ih0 _ _
      | exact LeO.none _
      | refine LeO.ite ?_ ?_
      | refine LeO.bind ?_ (fun _ => ?_)
set_option maxHeartbeats 8000000 in
set_option maxRecDepth 100000 in
theorem screeref2_Number_p.calls (k : Nat) (a0 : Int) (r : List Int) (w : World) (h : screeref2_Number_p.f k a0 = some r) :
    Calls Try.prog 10 #[.int .u64 a0] w fun e w' => ∃ v0_ : Value, e = .returned (v0_) ∧ Kd.R (Kd.int .u8) 5 w' w.heap.size (fun _ => True) v0_ r ∧ Below w.heap.size w w' := by
  have HB := Aside0.mk (Below.refl w.heap.size w)
  have H : (screeref2_Number_p.l0 k a0 ([] : List Int)) = some r := h
  clear h
  have H' := Aside0.mk H
  clear H
  go_enter Try.func10, Try.ntmps10
  go_wp2
  go_loopg [0, 3] k (fun kq v0 v3 w' => ∃ (x0_1 : Int) (x3_1 : List Int), v0 = .int .u64 x0_1 ∧ Aside0 (screeref2_Number_p.l0 kq x0_1 x3_1 = some r) ∧ Aside0 (kq ≤ k) ∧ Aside0 (Kd.R (Kd.int .u8) 5 w' w.heap.size (fun _ => True) v3 x3_1) ∧ Aside0 (Below w.heap.size w w'))
  case atStart => exact ⟨(a0), (([] : List Int)), (by first | rfl | (simp; done) | (simp [*]; done)), H', ⟨Nat.le_refl _⟩, ⟨by first | exact Kd.R_nil _ _ _ _ _ | exact Kd.N_nil _ _ _ _ _ | exact Kd.V_nil _ _ _ _ _ | exact Kd.Q_nil _ _ _ _ _ | exact Kd.S_nil _ _ _ _ _⟩, ⟨by repeat (first | (with_reducible first | exact HB.out | apply below_alloc | apply pw_below_drewN | apply below_drew1) | exact HB.out)⟩⟩
  case round =>
    clear H'
    try clear c1
    obtain ⟨x0_1, x3_1, rfl, HA, HK1, HO_3, HB⟩ := hrel
    cases gk with
    | zero => exact absurd HA.out (by simp [screeref2_Number_p.l0])
    | succ k1 =>
      have H := HA.out
      clear HA
      simp only [screeref2_Number_p.l0] at H
      by_cases c2 : x0_1 ≥ 128
      · rw [if_pos c2] at H
        have c2b0 : decide (128 ≤ x0_1) = true := decide_eq_true c2
        clear c2
        by_cases c3 : x3_1.length < 140737488355328
        · rw [if_pos c3] at H
          have LMc3 := Aside0.mk c3
          clear c3
          obtain ⟨y131, hy131⟩ : ∃ y_ : List Int, y_ = (x3_1 ++ [((Int.tmod x0_1 128) + 128) % 256]) := ⟨_, rfl⟩
          replace H : (screeref2_Number_p.l0 k1 (IntKind.u64.wrap (Int.tdiv x0_1 128)) y131) = some r := by first | (rw [hy131]; with_reducible exact H) | (have H2_ := (Option.bind_some _ _).symm.trans H; rw [hy131]; with_reducible exact H2_) | (have H2_ := (Option.bind_some _ _).symm.trans H; with_reducible exact H2_) | with_reducible exact H | (rw [hy131]; exact H) | exact H
          have Ny131 := Aside0.mk hy131
          clear hy131
          have H' := Aside0.mk H
          clear H
          go_wp2_with (first | ((with_reducible refine gate_builtin (b := .append) (xs := #[.tmp 6, .tmp 11]) rfl ?_); at_builtin; refine Kd.R_append (Kd.int .u8) (w0 := w) w.heap.size rfl (.tmp 6) (.tmp 11) 23 5 (.int .u8 0) 1 rfl Try.underlying23 info5 rfl (by decide) (by omega) u3 x3_1 (((Int.tmod x0_1 128) + 128) % 256) [.int .u8 (((Int.tmod x0_1 128) + 128) % 256)] (fun _ => True) (fun _ => False) rfl rfl ?aP (fun _ hk => hk.elim) ?aF ?aO ?aB ?aS ?aL ?_; (case aP => exact rfl); (case aB => exact (by repeat (first | (with_reducible first | exact HB.out | apply below_alloc | apply pw_below_drewN | apply below_drew1) | exact HB.out))); (case aF => exact (fun _ _ => trivial)); (case aO => exact (by (with_reducible repeat (first | apply Kd.R_alloc | apply Kd.R_drewN | apply Kd.R_drew)); exact HO_3.out)); (case aS => exact (below_size (by repeat (first | (with_reducible first | exact HB.out | apply below_alloc | apply pw_below_drewN | apply below_drew1) | exact HB.out)))); (case aL => have := LMc3.out; omega); intro v132 w4 ho hb hg hat; rw [← Ny131.out] at ho; have n0_ := Aside0.mk (hb); have n1_ := Aside0.mk (ho); clear HB; clear HO_3; have HB := n0_; have HO133 := n1_; clear n0_ n1_; clear ho hb hg hat))
          go_roundg k1
          case measure => have := HK1.out; omega
          case rel => exact ⟨(IntKind.u64.wrap (Int.tdiv x0_1 128)), (y131), (by first | rfl | (simp; done) | (simp [*]; done)), H', ⟨by have := HK1.out; omega⟩, ⟨by (with_reducible repeat (first | apply Kd.R_alloc | apply Kd.R_drewN | apply Kd.R_drew)); exact HO133.out⟩, ⟨by repeat (first | (with_reducible first | exact HB.out | apply below_alloc | apply pw_below_drewN | apply below_drew1) | exact HB.out)⟩⟩
        · rw [if_neg c3] at H
          exact absurd H (by simp)
      · rw [if_neg c2] at H
        have c2b0 : decide (128 ≤ x0_1) = false := decide_eq_false c2
        clear c2
        by_cases c5 : x3_1.length < 140737488355328
        · rw [if_pos c5] at H
          have LMc5 := Aside0.mk c5
          clear c5
          obtain ⟨y134, hy134⟩ : ∃ y_ : List Int, y_ = (x3_1 ++ [(x0_1) % 256]) := ⟨_, rfl⟩
          replace H : (some y134) = some r := by first | (rw [hy134]; with_reducible exact H) | (have H2_ := (Option.bind_some _ _).symm.trans H; rw [hy134]; with_reducible exact H2_) | (have H2_ := (Option.bind_some _ _).symm.trans H; with_reducible exact H2_) | with_reducible exact H | (rw [hy134]; exact H) | exact H
          have Ny134 := Aside0.mk hy134
          clear hy134
          obtain rfl := Option.some.inj H
          go_wp2_with (first | ((with_reducible refine gate_builtin (b := .append) (xs := #[.tmp 15, .tmp 18]) rfl ?_); at_builtin; refine Kd.R_append (Kd.int .u8) (w0 := w) w.heap.size rfl (.tmp 15) (.tmp 18) 23 5 (.int .u8 0) 1 rfl Try.underlying23 info5 rfl (by decide) (by omega) u3 x3_1 ((x0_1) % 256) [.int .u8 ((x0_1) % 256)] (fun _ => True) (fun _ => False) rfl rfl ?aP (fun _ hk => hk.elim) ?aF ?aO ?aB ?aS ?aL ?_; (case aP => exact rfl); (case aB => exact (by repeat (first | (with_reducible first | exact HB.out | apply below_alloc | apply pw_below_drewN | apply below_drew1) | exact HB.out))); (case aF => exact (fun _ _ => trivial)); (case aO => exact (by (with_reducible repeat (first | apply Kd.R_alloc | apply Kd.R_drewN | apply Kd.R_drew)); exact HO_3.out)); (case aS => exact (below_size (by repeat (first | (with_reducible first | exact HB.out | apply below_alloc | apply pw_below_drewN | apply below_drew1) | exact HB.out)))); (case aL => have := LMc5.out; omega); intro v135 w6 ho hb hg hat; rw [← Ny134.out] at ho; have n0_ := Aside0.mk (hb); have n1_ := Aside0.mk (ho); clear HB; clear HO_3; have HB := n0_; have HO136 := n1_; clear n0_ n1_; clear ho hb hg hat))
          go_ret
          exact ⟨_, by first | rfl | (simp [errW_none, errW_some] <;> rfl) | (simp [*, errW_none, errW_some] <;> rfl), by (with_reducible repeat (first | apply Kd.R_alloc | apply Kd.R_drewN | apply Kd.R_drew)); exact HO136.out, by repeat (first | (with_reducible first | exact HB.out | apply below_alloc | apply pw_below_drewN | apply below_drew1) | exact HB.out)⟩
        · rw [if_neg c5] at H
          exact absurd H (by simp)

/-! ### screeref2_Number: function 10 -/
theorem screeref2_Number_ev (n : Nat) : ∀ l : List Int, n < 18446744073709551616 → l.length + (numL n).length ≤ 140737488355328 → Ev (fun k => screeref2_Number_p.l0 k (n : Int) l) (l ++ numL n) := by
  induction n using Nat.strongRecOn with
  | _ n ih =>
    intro l hn hl
    by_cases h : n < 128
    · rw [numL_small h] at hl ⊢
      refine Ev.step (f := fun _ => some (l ++ [(n : Int)])) (fun k => ?_) (Ev.now _)
      simp only [screeref2_Number_p.l0]
      rw [if_neg (by omega), if_pos (by simp at hl; omega), show (n : Int) % 256 = n by omega]
    · rw [numL_big h] at hl ⊢
      simp only [List.length_cons] at hl
      have h2 := ih (n / 128) (by omega) (l ++ [((n % 128 + 128 : Nat) : Int)]) (by omega) (by simp; omega)
      rw [List.append_assoc] at h2
      refine Ev.step (fun k => ?_) h2
      simp only [screeref2_Number_p.l0]
      rw [if_pos (by omega), if_pos (by omega), show IntKind.u64.wrap (Int.tdiv (n : Int) 128) = ((n / 128 : Nat) : Int) by rw [show Int.tdiv (n : Int) 128 = ((n / 128 : Nat) : Int) from rfl]; simp [IntKind.wrap, IntKind.bits, IntKind.signed]; omega, show ((Int.tmod (n : Int) 128) + 128) % 256 = ((n % 128 + 128 : Nat) : Int) by rw [show Int.tmod (n : Int) 128 = ((n % 128 : Nat) : Int) from rfl]; omega]
def screeref2_Number.f (a0 : Int) : Option (List Int) := if 0 ≤ a0 ∧ a0 < 18446744073709551616 then some (numL a0.toNat) else none
theorem screeref2_Number.calls (a0 : Int) (r : List Int) (w : World) (h : screeref2_Number.f a0 = some r) :
    Calls Try.prog 10 #[.int .u64 a0] w fun e w' => ∃ v0_ : Value, e = .returned (v0_) ∧ Kd.R (Kd.int .u8) 5 w' w.heap.size (fun _ => True) v0_ r ∧ Below w.heap.size w w' := by
  unfold screeref2_Number.f at h
  split at h
  · rename_i hh
    obtain ⟨n, rfl⟩ := Int.eq_ofNat_of_zero_le hh.1
    have h10 := numL_len10 (n := n) (by omega)
    obtain ⟨k, hk⟩ := (screeref2_Number_ev n [] (by omega) (by simp; omega)).rounds
    refine screeref2_Number_p.calls k _ r w ?_
    unfold screeref2_Number_p.f
    rw [hk]
    exact h
  · cases h

/-! ### codec_Uint_p: function 19 -/
mutual
def codec_Uint_p.l0 : Nat → Int → List Int → Int → Int → Option (Int × Int × Int)
  | 0, _, _, _, _ => none
  | k + 1, x5, x8, x9, x10 => if x10 < x9 then (if 0 ≤ x10 then (if x10 < (x8.length : Int) then (if (rd x8 x10) = 0 then (if x10 > 0 then (codec_Uint_p.j1 k x5 x10 (rd x8 x10) x8 x9 x10 true) else (if x10 = 9 then (codec_Uint_p.j1 k x5 x10 (rd x8 x10) x8 x9 x10 ((rd x8 x10) != 1)) else (codec_Uint_p.j1 k x5 x10 (rd x8 x10) x8 x9 x10 false))) else (if x10 = 9 then (codec_Uint_p.j1 k x5 x10 (rd x8 x10) x8 x9 x10 ((rd x8 x10) != 1)) else (codec_Uint_p.j1 k x5 x10 (rd x8 x10) x8 x9 x10 false))) else (none)) else (none)) else (some (0, 0, 20))
def codec_Uint_p.j1 : Nat → Int → Int → Int → List Int → Int → Int → Bool → Option (Int × Int × Int)
  | 0, _, _, _, _, _, _, _ => none
  | k + 1, x5, x6, x7, x8, x9, x10, x28 => if x28 = true then (some (0, 0, 21)) else (if 0 ≤ (wrap64 (7 * x6)) then (if x7 < 128 then (some (Go.bits .or .u64 x5 (shl .u64 (IntKind.u64.wrap (Go.bits .and .u8 x7 127)) (wrap64 (7 * x6))), wrap64 (x6 + 1), 0)) else (codec_Uint_p.l0 k (Go.bits .or .u64 x5 (shl .u64 (IntKind.u64.wrap (Go.bits .and .u8 x7 127)) (wrap64 (7 * x6)))) x8 x9 (wrap64 (x10 + 1)))) else (none))
end
def codec_Uint_p.f (k : Nat) (l0 : List Int) : Option (Int × Int × Int) := codec_Uint_p.l0 k 0 l0 (l0.length : Int) 0
theorem codec_Uint_p.mono_l : ∀ k, (∀ y0 y1 y2 y3, LeO (codec_Uint_p.l0 k y0 y1 y2 y3) (codec_Uint_p.l0 (k + 1) y0 y1 y2 y3)) ∧ (∀ y0 y1 y2 y3 y4 y5 y6, LeO (codec_Uint_p.j1 k y0 y1 y2 y3 y4 y5 y6) (codec_Uint_p.j1 (k + 1) y0 y1 y2 y3 y4 y5 y6))
  | 0 => ⟨fun _ _ _ _ r h => by simp [codec_Uint_p.l0] at h, fun _ _ _ _ _ _ _ r h => by simp [codec_Uint_p.j1] at h⟩
  | k + 1 => by
    obtain ⟨ih0, ih1⟩ := codec_Uint_p.mono_l k
    refine ⟨?_, ?_⟩
    · intro y0 y1 y2 y3
      unfold codec_Uint_p.l0
      repeat' first
      | (with_reducible exact ih0 _ _ _ _)
      | (with_reducible exact ih1 _ _ _ _ _ _ _)
      | (with_reducible exact LeO.refl _)
      | (with_reducible exact LeO.none _)
      | (with_reducible refine LeO.ite ?_ ?_)
      | (with_reducible refine LeO.bind ?_ (fun _ => ?_))
      | exact ih0 _ _ _ _
      | exact ih1 _ _ _ _ _ _ _
      | exact LeO.none _
      | refine LeO.ite ?_ ?_
      | refine LeO.bind ?_ (fun _ => ?_)
    · intro y0 y1 y2 y3 y4 y5 y6
      unfold codec_Uint_p.j1
      repeat' first
      | (with_reducible exact ih0 _ _ _ _)
      | (with_reducible exact ih1 _ _ _ _ _ _ _)
      | (with_reducible exact LeO.refl _)
      | (with_reducible exact LeO.none _)
      | (with_reducible refine LeO.ite ?_ ?_)
      | (with_reducible refine LeO.bind ?_ (fun _ => ?_))
      | exact ih0 _ _ _ _
      | exact ih1 _ _ _ _ _ _ _
      | exact LeO.none _
      | refine LeO.ite ?_ ?_
      | refine LeO.bind ?_ (fun _ => ?_)
theorem codec_Uint_p.mono : ∀ a0 k, LeO (codec_Uint_p.f k a0) (codec_Uint_p.f (k + 1) a0) := by
  intro a0 k
  obtain ⟨ih0, ih1⟩ := codec_Uint_p.mono_l k
  unfold codec_Uint_p.f
  repeat' first
      | (with_reducible exact ih0 _ _ _ _)
      | (with_reducible exact ih1 _ _ _ _ _ _ _)
      | (with_reducible exact LeO.refl _)
      | (with_reducible exact LeO.none _)
      | (with_reducible refine LeO.ite ?_ ?_)
      | (with_reducible refine LeO.bind ?_ (fun _ => ?_))
      | exact ih0 _ _ _ _
      | exact ih1 _ _ _ _ _ _ _
      | exact LeO.none _
      | refine LeO.ite ?_ ?_
      | refine LeO.bind ?_ (fun _ => ?_)
set_option maxHeartbeats 8000000 in
set_option maxRecDepth 100000 in
theorem codec_Uint_p.calls (k : Nat) (A0 : Option Addr) (c0 : Nat) (l0 : List Int) (r1 : Int) (r2 : Int) (r3 : Int) (w : World) (hr0 : Kd.C (Kd.int .u8) w A0 l0.length l0) (hc0 : l0.length ≤ c0) (h : codec_Uint_p.f k l0 = some (r1, r2, r3)) :
    Calls Try.prog 19 #[.slice A0 l0.length c0] w fun e w' => e = .returned (.tuple #[.int .u64 r1, .int .i64 r2, .int .i64 r3]) ∧ Drawn0 w w' := by
  have HR0 := Aside0.mk hr0
  have HC0 := Aside0.mk hc0
  clear hr0 hc0
  have H : (codec_Uint_p.l0 k 0 l0 (l0.length : Int) 0) = some (r1, r2, r3) := h
  clear h
  have H' := Aside0.mk H
  clear H
  go_enter Try.func19, Try.ntmps19
  go_wp2
  go_loopg [5, 10] k (fun kq v5 v10 w' => ∃ (x5_1 : Int) (x10_1 : Int), v5 = .int .u64 x5_1 ∧ v10 = .int .i64 x10_1 ∧ Aside0 (codec_Uint_p.l0 kq x5_1 l0 (l0.length : Int) x10_1 = some (r1, r2, r3)) ∧ Aside0 (kq ≤ k) ∧ Drawn0 w w')
  case atStart => exact ⟨(0), (0), (by first | rfl | (simp; done) | (simp [*]; done)), (by first | rfl | (simp; done) | (simp [*]; done)), H', ⟨Nat.le_refl _⟩, by repeat (first | exact Drawn0.refl _ | apply Drawn0.step)⟩
  case round =>
    clear H'
    try clear c1
    obtain ⟨x5_1, x10_1, rfl, rfl, HA, HK1, ⟨m1, rfl⟩⟩ := hrel
    cases gk with
    | zero => exact absurd HA.out (by simp [codec_Uint_p.l0])
    | succ k1 =>
      have H := HA.out
      clear HA
      simp only [codec_Uint_p.l0] at H
      by_cases c2 : x10_1 < (l0.length : Int)
      · rw [if_pos c2] at H
        have c2b0 : decide (x10_1 < (l0.length : Int)) = true := decide_eq_true c2
        clear c2
        by_cases c3 : 0 ≤ x10_1
        · rw [if_pos c3] at H
          have c3b0 : decide (0 ≤ x10_1) = true := decide_eq_true c3
          clear c3
          by_cases c4 : x10_1 < (l0.length : Int)
          · rw [if_pos c4] at H
            have c4b0 : decide (x10_1 < (l0.length : Int)) = true := decide_eq_true c4
            clear c4
            have HC5 := Aside0.mk H
            clear H
            have p137 : 0 ≤ (x10_1 : Int) := of_decide_eq_true (by first | (with_reducible assumption) | assumption)
            have q137 : x10_1 < (l0.length : Int) := of_decide_eq_true (by first | (with_reducible assumption) | assumption)
            obtain ⟨ad137, e137, hx137_0⟩ := Kd.at_int HR0.out x10_1 p137 q137
            cases e137
            replace p137 := eq_true p137
            replace q137 := eq_true q137
            go_upto_region 5 with (fail)
            go_cut [28] (fun v28 wc => ∃ (kq : Nat) (x28_4 : Bool), v28 = .bool x28_4 ∧ Aside0 (codec_Uint_p.j1 kq x5_1 x10_1 (rd l0 x10_1) l0 (l0.length : Int) x10_1 x28_4 = some (r1, r2, r3)) ∧ Aside0 (kq ≤ k1) ∧ Drawn0 w wc)
            case first =>
              have H := HC5.out
              clear HC5
              by_cases c6 : (rd l0 x10_1) = 0
              · rw [if_pos c6] at H
                have c6b0 : ((rd l0 x10_1) == 0) = true := beq_iff_eq.mpr c6
                have c6b1 : ((rd l0 x10_1) != 0) = false := bne_eq_false_iff_eq.mpr c6
                clear c6
                (first | rw [c6b0] | (simp only [i64_w, i32_w]; rw [c6b0]) | skip)
                by_cases c7 : x10_1 > 0
                · rw [if_pos c7] at H
                  have c7b0 : decide (0 < x10_1) = true := decide_eq_true c7
                  clear c7
                  have H' := Aside0.mk H
                  clear H
                  go_wp2
                  go_meet
                  case rel => exact ⟨_, (true), (by first | rfl | (simp; done) | (simp [*]; done)), H', ⟨by have := HK1.out; first | omega | exact Nat.le_refl _⟩, by repeat (first | exact Drawn0.refl _ | apply Drawn0.step)⟩
                · rw [if_neg c7] at H
                  have c7b0 : decide (0 < x10_1) = false := decide_eq_false c7
                  clear c7
                  by_cases c8 : x10_1 = 9
                  · rw [if_pos c8] at H
                    have c8b0 : (x10_1 == 9) = true := beq_iff_eq.mpr c8
                    have c8b1 : (x10_1 != 9) = false := bne_eq_false_iff_eq.mpr c8
                    clear c8
                    have H' := Aside0.mk H
                    clear H
                    go_wp2
                    go_meet
                    case rel => exact ⟨_, (((rd l0 x10_1) != 1)), (by first | rfl | (simp; done) | (simp [*]; done)), H', ⟨by have := HK1.out; first | omega | exact Nat.le_refl _⟩, by repeat (first | exact Drawn0.refl _ | apply Drawn0.step)⟩
                  · rw [if_neg c8] at H
                    have c8b0 : (x10_1 == 9) = false := beq_eq_false_iff_ne.mpr c8
                    have c8b1 : (x10_1 != 9) = true := bne_iff_ne.mpr c8
                    have H' := Aside0.mk H
                    clear H
                    go_wp2
                    go_meet
                    case rel => exact ⟨_, (false), (by first | rfl | (simp; done) | (simp [*]; done)), H', ⟨by have := HK1.out; first | omega | exact Nat.le_refl _⟩, by repeat (first | exact Drawn0.refl _ | apply Drawn0.step)⟩
              · rw [if_neg c6] at H
                have c6b0 : ((rd l0 x10_1) == 0) = false := beq_eq_false_iff_ne.mpr c6
                have c6b1 : ((rd l0 x10_1) != 0) = true := bne_iff_ne.mpr c6
                (first | rw [c6b0] | (simp only [i64_w, i32_w]; rw [c6b0]) | skip)
                by_cases c9 : x10_1 = 9
                · rw [if_pos c9] at H
                  have c9b0 : (x10_1 == 9) = true := beq_iff_eq.mpr c9
                  have c9b1 : (x10_1 != 9) = false := bne_eq_false_iff_eq.mpr c9
                  clear c9
                  have H' := Aside0.mk H
                  clear H
                  go_wp2
                  go_meet
                  case rel => exact ⟨_, (((rd l0 x10_1) != 1)), (by first | rfl | (simp; done) | (simp [*]; done)), H', ⟨by have := HK1.out; first | omega | exact Nat.le_refl _⟩, by repeat (first | exact Drawn0.refl _ | apply Drawn0.step)⟩
                · rw [if_neg c9] at H
                  have c9b0 : (x10_1 == 9) = false := beq_eq_false_iff_ne.mpr c9
                  have c9b1 : (x10_1 != 9) = true := bne_iff_ne.mpr c9
                  have H' := Aside0.mk H
                  clear H
                  go_wp2
                  go_meet
                  case rel => exact ⟨_, (false), (by first | rfl | (simp; done) | (simp [*]; done)), H', ⟨by have := HK1.out; first | omega | exact Nat.le_refl _⟩, by repeat (first | exact Drawn0.refl _ | apply Drawn0.step)⟩
            case rest =>
              clear HC5
              try clear c1
              try clear p1
              try clear q1
              try clear hx1
              try clear c2
              try clear c2b0
              try clear p2
              try clear c3
              try clear c3b0
              try clear c4
              try clear c4b0
              try clear c6
              try clear c6b0
              try clear c6b1
              try clear c7
              try clear c7b0
              try clear c8
              try clear c8b0
              try clear c8b1
              try clear c9
              try clear c9b0
              try clear c9b1
              try clear hx137_0
              try clear p137
              try clear q137
              obtain ⟨kq, x28_4, rfl, HA, HJ4, ⟨mc4, rfl⟩⟩ := hcut
              cases kq with
              | zero => exact absurd HA.out (by simp [codec_Uint_p.j1])
              | succ kj4 =>
                have H := HA.out
                clear HA
                simp only [codec_Uint_p.j1] at H
                by_cases c10 : x28_4 = true
                · subst c10
                  have H1 : (some (0, 0, 21)) = some (r1, r2, r3) := by rw [if_pos rfl] at H; exact H
                  clear H
                  have H := H1
                  clear H1
                  simp only [Option.some.injEq, Prod.mk.injEq] at H
                  obtain ⟨rfl, rfl, rfl⟩ := H
                  go_wp2
                  go_ret3
                  exact ⟨by first | rfl | (simp; done) | (simp [*]; done), by repeat (first | exact Drawn0.refl _ | apply Drawn0.step)⟩
                · replace c10 := Bool.eq_false_iff.mpr c10
                  subst c10
                  have H1 : (if 0 ≤ (wrap64 (7 * x10_1)) then (if (rd l0 x10_1) < 128 then (some (Go.bits .or .u64 x5_1 (shl .u64 (IntKind.u64.wrap (Go.bits .and .u8 (rd l0 x10_1) 127)) (wrap64 (7 * x10_1))), wrap64 (x10_1 + 1), 0)) else (codec_Uint_p.l0 kj4 (Go.bits .or .u64 x5_1 (shl .u64 (IntKind.u64.wrap (Go.bits .and .u8 (rd l0 x10_1) 127)) (wrap64 (7 * x10_1)))) l0 (l0.length : Int) (wrap64 (x10_1 + 1)))) else (none)) = some (r1, r2, r3) := by rw [if_neg (show ¬ (false = true) by decide)] at H; exact H
                  clear H
                  have H := H1
                  clear H1
                  obtain ⟨ji11, hji11⟩ : ∃ j_ : Int, (wrap64 (7 * x10_1)) = j_ := ⟨_, rfl⟩
                  replace H : (if 0 ≤ (ji11) then (if (rd l0 x10_1) < 128 then (some (Go.bits .or .u64 x5_1 (shl .u64 (IntKind.u64.wrap (Go.bits .and .u8 (rd l0 x10_1) 127)) (ji11)), wrap64 (x10_1 + 1), 0)) else (codec_Uint_p.l0 kj4 (Go.bits .or .u64 x5_1 (shl .u64 (IntKind.u64.wrap (Go.bits .and .u8 (rd l0 x10_1) 127)) (ji11))) l0 (l0.length : Int) (wrap64 (x10_1 + 1)))) else (none)) = some (r1, r2, r3) := by first | (rw [hji11] at H; exact H) | (simp only [hji11] at H ⊢; exact H)
                  have hji11w : (IntKind.i64.wrap (7 * x10_1)) = ji11 := (i64_w _).trans hji11
                  by_cases c12 : 0 ≤ (ji11)
                  · rw [if_pos c12] at H
                    have c12b0 := eq_true c12
                    have c12b1 : decide (0 ≤ (ji11)) = true := decide_eq_true c12
                    clear c12
                    obtain ⟨ji13, hji13⟩ : ∃ j_ : Int, (shl .u64 (IntKind.u64.wrap (Go.bits .and .u8 (rd l0 x10_1) 127)) (ji11)) = j_ := ⟨_, rfl⟩
                    replace H : (if (rd l0 x10_1) < 128 then (some (Go.bits .or .u64 x5_1 (ji13), wrap64 (x10_1 + 1), 0)) else (codec_Uint_p.l0 kj4 (Go.bits .or .u64 x5_1 (ji13)) l0 (l0.length : Int) (wrap64 (x10_1 + 1)))) = some (r1, r2, r3) := by first | (rw [hji13] at H; exact H) | (simp only [hji13] at H ⊢; exact H)
                    have hji13_ : (IntKind.u64.wrap ((IntKind.u64.wrap (Go.bits .and .u8 (rd l0 x10_1) 127)) * 2 ^ min (ji11).toNat 64)) = ji13 := hji13
                    have hji13z : (ji11) ≤ 64 → (IntKind.u64.wrap ((IntKind.u64.wrap (Go.bits .and .u8 (rd l0 x10_1) 127)) * 2 ^ (ji11).toNat)) = ji13 := shl_small hji13
                    by_cases c14 : (rd l0 x10_1) < 128
                    · rw [if_pos c14] at H
                      have c14b0 : decide ((rd l0 x10_1) < 128) = true := decide_eq_true c14
                      clear c14
                      simp only [Option.some.injEq, Prod.mk.injEq] at H
                      obtain ⟨rfl, rfl, rfl⟩ := H
                      go_wp2
                      go_ret3
                      exact ⟨by first | rfl | (simp; done) | (simp only [← hji11, ← hji13] <;> (first | rfl | simp)) | (simp [*]; done), by repeat (first | exact Drawn0.refl _ | apply Drawn0.step)⟩
                    · rw [if_neg c14] at H
                      have c14b0 : decide ((rd l0 x10_1) < 128) = false := decide_eq_false c14
                      clear c14
                      have H' := Aside0.mk H
                      clear H
                      go_wp2
                      go_roundg kj4
                      case measure => have := HK1.out; have := HJ4.out; omega
                      case rel => exact ⟨(Go.bits .or .u64 x5_1 (ji13)), (wrap64 (x10_1 + 1)), (by first | rfl | (simp; done) | (simp only [← hji13] <;> (first | rfl | simp)) | (simp [*]; done)), (by first | rfl | (simp; done) | (simp [*]; done)), H', ⟨by have := HK1.out; have := HJ4.out; omega⟩, by repeat (first | exact Drawn0.refl _ | apply Drawn0.step)⟩
                  · rw [if_neg c12] at H
                    exact absurd H (by simp)
          · rw [if_neg c4] at H
            exact absurd H (by simp)
        · rw [if_neg c3] at H
          exact absurd H (by simp)
      · rw [if_neg c2] at H
        have c2b0 : decide (x10_1 < (l0.length : Int)) = false := decide_eq_false c2
        clear c2
        simp only [Option.some.injEq, Prod.mk.injEq] at H
        obtain ⟨rfl, rfl, rfl⟩ := H
        go_wp2
        go_ret3
        exact ⟨by first | rfl | (simp; done) | (simp [*]; done), by repeat (first | exact Drawn0.refl _ | apply Drawn0.step)⟩

end Go.Proofs.Ytipefhadafildaa.QA
