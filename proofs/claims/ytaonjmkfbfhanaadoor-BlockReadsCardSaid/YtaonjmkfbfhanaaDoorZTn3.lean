/- Lemmas of this claim's own, put together: QBox3, DMkA, DMkL, DMkY, DMkN, DMkC, DMkG, DMkH. -/
import Derived.Test.YtaonjmkfbfhanaaDoorZTn2
import Derived.BigQuiet
import Derived.Deep.QuietTactic
import Derived.Deep.DeepCutAuto
import Derived.Deep.RegionWith
import Derived.Deep.RegionLaw
import Derived.Lib.AppendStr
import Derived.WalkLawsBesides
namespace Go.Proofs.YtaonjmkfbfhanaaDoor.QBo
open Go.Proofs.YtaonjmkfbfhanaaDoor.Own
open Go.RowKit Go.Proofs.YtaonjmkfbfhanaaDoorW.PrintWords Go.Proofs.YtaonjmkfbfhanaaDoorW.PrintLast Go.Proofs.YtaonjmkfbfhanaaDoorW.PrintMore
attribute [local go_sem] max2_int min2_int max_two min_two max_three min_three max_four min_four   -- for this text's walks alone
set_option linter.unusedVariables false
set_option linter.unusedSimpArgs false
def ikey_CheckBatch.l0 : Nat → List (S112) → Int → Int → Option (Int)
  | 0, _, _, _ => none
  | k + 1, x9, x10, x11 => if x11 < x10 then (if 0 ≤ x11 then (if x11 < (x9.length : Int) then ((ikey_Check.f ((rd_T112 x9 x11).f0)).bind fun t111 => (if t111 = 0 then (if ((rd_T112 x9 x11).f1 = true) then (ikey_CheckBatch.l0 k x9 x10 (wrap64 (x11 + 1))) else (if (((rd_T112 x9 x11).f2).size : Int) > 512 then (some 12) else (ikey_CheckBatch.l0 k x9 x10 (wrap64 (x11 + 1))))) else (some t111))) else (none)) else (none)) else (some 0)
def ikey_CheckBatch.f (k : Nat) (l0 : List (S112)) : Option (Int) := if (l0.length : Int) > 16 then (some 13) else (ikey_CheckBatch.l0 k l0 (l0.length : Int) 0)
theorem ikey_CheckBatch.mono_l : ∀ k, (∀ y0 y1 y2, LeO (ikey_CheckBatch.l0 k y0 y1 y2) (ikey_CheckBatch.l0 (k + 1) y0 y1 y2))
  | 0 => fun _ _ _ r h => by simp [ikey_CheckBatch.l0] at h
  | k + 1 => by
    have ih0 := ikey_CheckBatch.mono_l k
    · intro y0 y1 y2
      unfold ikey_CheckBatch.l0
      repeat' first
      | (with_reducible exact ih0 _ _ _)
      | (with_reducible exact LeO.refl _)
      | (with_reducible exact LeO.none _)
      | (with_reducible refine LeO.ite ?_ ?_)
      | (with_reducible refine LeO.bind ?_ (fun _ => ?_))
      | exact ih0 _ _ _
      | exact LeO.none _
      | refine LeO.ite ?_ ?_
      | refine LeO.bind ?_ (fun _ => ?_)
theorem ikey_CheckBatch.mono : ∀ a0 k, LeO (ikey_CheckBatch.f k a0) (ikey_CheckBatch.f (k + 1) a0) := by
  intro a0 k
  have ih0 := ikey_CheckBatch.mono_l k
  unfold ikey_CheckBatch.f
  repeat' first
      | (with_reducible exact ih0 _ _ _)
      | (with_reducible exact LeO.refl _)
      | (with_reducible exact LeO.none _)
      | (with_reducible refine LeO.ite ?_ ?_)
      | (with_reducible refine LeO.bind ?_ (fun _ => ?_))
      | exact ih0 _ _ _
      | exact LeO.none _
      | refine LeO.ite ?_ ?_
      | refine LeO.bind ?_ (fun _ => ?_)
set_option maxHeartbeats 8000000 in
set_option maxRecDepth 100000 in
theorem ikey_CheckBatch.calls (k : Nat) (A0 : Option Addr) (c0 : Nat) (l0 : List (S112)) (r : Int) (w : World) (hr0 : Kd.C k112 w A0 l0.length l0) (hc0 : l0.length ≤ c0) (h : ikey_CheckBatch.f k l0 = some r) :
    Calls Tryd.prog 87 #[.slice A0 l0.length c0] w fun e w' => e = .returned (.int .i64 r) ∧ Below w.heap.size w w' := by
  have hu112 := Tryd.underlying112
  have HR0 := Aside0.mk hr0
  have HC0 := Aside0.mk hc0
  clear hr0 hc0
  have HB := Aside0.mk (Below.refl w.heap.size w)
  have H : (if (l0.length : Int) > 16 then (some 13) else (ikey_CheckBatch.l0 k l0 (l0.length : Int) 0)) = some r := h
  clear h
  by_cases c2 : (l0.length : Int) > 16
  · rw [if_pos c2] at H
    have c2b0 : decide (16 < (l0.length : Int)) = true := decide_eq_true c2
    have c2b1 : decide (16 < l0.length) = true := decide_eq_true (by omega)
    clear c2
    obtain rfl := Option.some.inj H
    go_enter Tryd.func87, Tryd.ntmps87
    go_wp2
    go_ret
    exact ⟨by first | rfl | (simp [errW_none, errW_some] <;> rfl) | (simp [*, errW_none, errW_some] <;> rfl), by repeat (first | (with_reducible first | exact HB.out | apply below_alloc | apply pw_below_drewN | apply below_drew1) | exact HB.out)⟩
  · rw [if_neg c2] at H
    have c2b0 : decide (16 < (l0.length : Int)) = false := decide_eq_false c2
    have c2b1 : decide (16 < l0.length) = false := decide_eq_false (by omega)
    clear c2
    have H' := Aside0.mk H
    clear H
    go_enter Tryd.func87, Tryd.ntmps87
    go_wp2
    go_loopg [11] k (fun kq v11 w' => ∃ (x11_1 : Int), v11 = .int .i64 x11_1 ∧ Aside0 (ikey_CheckBatch.l0 kq l0 (l0.length : Int) x11_1 = some r) ∧ Aside0 (kq ≤ k) ∧ Aside0 (Below w.heap.size w w'))
    case atStart => exact ⟨(0), (by first | rfl | (simp; done) | (simp [*]; done)), H', ⟨Nat.le_refl _⟩, ⟨by repeat (first | (with_reducible first | exact HB.out | apply below_alloc | apply pw_below_drewN | apply below_drew1) | exact HB.out)⟩⟩
    case round =>
      clear H'
      try clear c2
      try clear c2b0
      try clear c2b1
      try clear p2
      obtain ⟨x11_1, rfl, HA, HK1, HB⟩ := hrel
      cases gk with
      | zero => exact absurd HA.out (by simp [ikey_CheckBatch.l0])
      | succ k1 =>
        have H := HA.out
        clear HA
        simp only [ikey_CheckBatch.l0] at H
        by_cases c3 : x11_1 < (l0.length : Int)
        · rw [if_pos c3] at H
          have c3b0 : decide (x11_1 < (l0.length : Int)) = true := decide_eq_true c3
          clear c3
          by_cases c4 : 0 ≤ x11_1
          · rw [if_pos c4] at H
            have c4b0 : decide (0 ≤ x11_1) = true := decide_eq_true c4
            clear c4
            by_cases c5 : x11_1 < (l0.length : Int)
            · rw [if_pos c5] at H
              have c5b0 : decide (x11_1 < (l0.length : Int)) = true := decide_eq_true c5
              clear c5
              replace H := Option.bind_eq_some_iff.mp H
              obtain ⟨t111, A60, H⟩ := H
              replace H : (if t111 = 0 then (if ((rd_T112 l0 x11_1).f1 = true) then (ikey_CheckBatch.l0 k1 l0 (l0.length : Int) (wrap64 (x11_1 + 1))) else (if (((rd_T112 l0 x11_1).f2).size : Int) > 512 then (some 12) else (ikey_CheckBatch.l0 k1 l0 (l0.length : Int) (wrap64 (x11_1 + 1))))) else (some t111)) = some r := H
              have A6 := Aside0.mk A60
              clear A60
              by_cases c7 : t111 = 0
              · rw [if_pos c7] at H
                have c7b0 : (t111 == 0) = true := beq_iff_eq.mpr c7
                have c7b1 : (t111 != 0) = false := bne_eq_false_iff_eq.mpr c7
                clear c7
                obtain ⟨bq8, hbq8⟩ : ∃ b_ : Bool, b_ = ((rd_T112 l0 x11_1).f1) := ⟨_, rfl⟩
                replace H : (if (bq8 = true) then (ikey_CheckBatch.l0 k1 l0 (l0.length : Int) (wrap64 (x11_1 + 1))) else (if (((rd_T112 l0 x11_1).f2).size : Int) > 512 then (some 12) else (ikey_CheckBatch.l0 k1 l0 (l0.length : Int) (wrap64 (x11_1 + 1))))) = some r := by rw [← hbq8] at H; exact H
                have Nbq8 := Aside0.mk hbq8
                clear hbq8
                by_cases c9 : (bq8 = true)
                · subst c9
                  have H1 : (ikey_CheckBatch.l0 k1 l0 (l0.length : Int) (wrap64 (x11_1 + 1))) = some r := by rw [if_pos rfl] at H; exact H
                  clear H
                  have H := H1
                  clear H1
                  have H' := Aside0.mk H
                  clear H
                  have p109 : 0 ≤ (x11_1 : Int) := of_decide_eq_true (by first | (with_reducible assumption) | assumption)
                  have q109 : x11_1 < (l0.length : Int) := of_decide_eq_true (by first | (with_reducible assumption) | assumption)
                  obtain ⟨ad109, e109, hx109_0, hx109_1, hx109_2⟩ := at_T112 HR0.out x11_1 p109 q109
                  (try rw [← Nbq8.out] at hx109_1)
                  cases e109
                  replace hx109_0 := (HB.out.cell (World.block_lt_of_cell? w _ hx109_0)).trans hx109_0
                  replace hx109_1 := (HB.out.cell (World.block_lt_of_cell? w _ hx109_1)).trans hx109_1
                  replace hx109_2 := (HB.out.cell (World.block_lt_of_cell? w _ hx109_2)).trans hx109_2
                  replace p109 := eq_true p109
                  replace q109 := eq_true q109
                  go_wp2_with (first | ((with_reducible refine gate_dst (N := 4) rfl ?_); (try (refine gate_guard (by rfl) ?_; dsimp only)); refine box_event ?hg (N := 4) ?hd (cs := #[.string (⟨#[]⟩ : ByteArray), .bool false, .string (⟨#[]⟩ : ByteArray)]) (t := 112) ?hr ?_; (case hd => rfl); (case hg => rfl); (case hr => first | (go_simp; done) | (go_simp; rfl)); intro gb110 hg w10 hbox hb; have n0_ := Aside0.mk (below_step (by repeat (first | (with_reducible first | exact HB.out | apply below_alloc | apply pw_below_drewN | apply below_drew1) | exact HB.out)) hb); have n1_ := Aside0.mk (hbox); have n2_ := Aside0.mk ((by rw [hg]; exact (below_size (by repeat (first | (with_reducible first | exact HB.out | apply below_alloc | apply pw_below_drewN | apply below_drew1) | exact HB.out))) : w.heap.size ≤ gb110)); have n3_ := Aside0.mk ((by rw [hg]; exact (below_size (by repeat (first | (with_reducible first | exact HB.out | apply below_alloc | apply pw_below_drewN | apply below_drew1) | exact HB.out))) : w.heap.size ≤ gb110)); clear HB; have HB := n0_; have BK110 := n1_; have GW110 := n2_; have GE110 := n3_; clear n0_ n1_ n2_ n3_; clear hb hbox hg; have hcz11_0 : w10.cell? ⟨gb110, 0, none⟩ = some (.string (⟨#[]⟩ : ByteArray)) := (blk_cell BK110.out 0).trans rfl; have hcz11_1 : w10.cell? ⟨gb110, 1, none⟩ = some (.bool false) := (blk_cell BK110.out 1).trans rfl; have hcz11_2 : w10.cell? ⟨gb110, 2, none⟩ = some (.string (⟨#[]⟩ : ByteArray)) := (blk_cell BK110.out 2).trans rfl; have hfz11_0 := blk_frozen BK110.out 0; have hfz11_1 := blk_frozen BK110.out 1; have hfz11_2 := blk_frozen BK110.out 2) | ((with_reducible refine gate_callee (f := 90) rfl ?_); refine goesL_ (some 17) rfl rfl Tryd.func90 (by kernel_rfl) rfl #[.string ((rd_T112 l0 x11_1).f0)] rfl (by (try simp only [List.map_toArray, List.map_cons, List.map_nil]); first | done | rfl | (simp only [List.length_drop, List.length_take]; rfl)) ?_; (with_reducible refine (ikey_Check.calls ((rd_T112 l0 x11_1).f0) t111 _ A6.out).mono ?_); rintro e w' ⟨rfl, ⟨nd, rfl⟩⟩; refine ⟨_, rfl, ?_⟩))
                  go_roundg k1
                  case measure => have := HK1.out; omega
                  case rel => exact ⟨(wrap64 (x11_1 + 1)), (by first | rfl | (simp; done) | (simp [*]; done)), H', ⟨by have := HK1.out; omega⟩, ⟨by repeat (first | (with_reducible first | exact HB.out | apply below_alloc | apply pw_below_drewN | apply below_drew1 | refine below_set ?_ GE110.out) | exact HB.out)⟩⟩
                · replace c9 := Bool.eq_false_iff.mpr c9
                  subst c9
                  have H1 : (if (((rd_T112 l0 x11_1).f2).size : Int) > 512 then (some 12) else (ikey_CheckBatch.l0 k1 l0 (l0.length : Int) (wrap64 (x11_1 + 1)))) = some r := by rw [if_neg (show ¬ (false = true) by decide)] at H; exact H
                  clear H
                  have H := H1
                  clear H1
                  by_cases c12 : (((rd_T112 l0 x11_1).f2).size : Int) > 512
                  · rw [if_pos c12] at H
                    have c12b0 : decide (512 < (((rd_T112 l0 x11_1).f2).size : Int)) = true := decide_eq_true c12
                    have c12b1 : decide (512 < ((rd_T112 l0 x11_1).f2).size) = true := decide_eq_true (by omega)
                    clear c12
                    obtain rfl := Option.some.inj H
                    have p109 : 0 ≤ (x11_1 : Int) := of_decide_eq_true (by first | (with_reducible assumption) | assumption)
                    have q109 : x11_1 < (l0.length : Int) := of_decide_eq_true (by first | (with_reducible assumption) | assumption)
                    obtain ⟨ad109, e109, hx109_0, hx109_1, hx109_2⟩ := at_T112 HR0.out x11_1 p109 q109
                    (try rw [← Nbq8.out] at hx109_1)
                    cases e109
                    replace hx109_0 := (HB.out.cell (World.block_lt_of_cell? w _ hx109_0)).trans hx109_0
                    replace hx109_1 := (HB.out.cell (World.block_lt_of_cell? w _ hx109_1)).trans hx109_1
                    replace hx109_2 := (HB.out.cell (World.block_lt_of_cell? w _ hx109_2)).trans hx109_2
                    replace p109 := eq_true p109
                    replace q109 := eq_true q109
                    go_wp2_with (first | ((with_reducible refine gate_dst (N := 4) rfl ?_); (try (refine gate_guard (by rfl) ?_; dsimp only)); refine box_event ?hg (N := 4) ?hd (cs := #[.string (⟨#[]⟩ : ByteArray), .bool false, .string (⟨#[]⟩ : ByteArray)]) (t := 112) ?hr ?_; (case hd => rfl); (case hg => rfl); (case hr => first | (go_simp; done) | (go_simp; rfl)); intro gb110 hg w13 hbox hb; have n0_ := Aside0.mk (below_step (by repeat (first | (with_reducible first | exact HB.out | apply below_alloc | apply pw_below_drewN | apply below_drew1) | exact HB.out)) hb); have n1_ := Aside0.mk (hbox); have n2_ := Aside0.mk ((by rw [hg]; exact (below_size (by repeat (first | (with_reducible first | exact HB.out | apply below_alloc | apply pw_below_drewN | apply below_drew1) | exact HB.out))) : w.heap.size ≤ gb110)); have n3_ := Aside0.mk ((by rw [hg]; exact (below_size (by repeat (first | (with_reducible first | exact HB.out | apply below_alloc | apply pw_below_drewN | apply below_drew1) | exact HB.out))) : w.heap.size ≤ gb110)); clear HB; have HB := n0_; have BK110 := n1_; have GW110 := n2_; have GE110 := n3_; clear n0_ n1_ n2_ n3_; clear hb hbox hg; have hcz14_0 : w13.cell? ⟨gb110, 0, none⟩ = some (.string (⟨#[]⟩ : ByteArray)) := (blk_cell BK110.out 0).trans rfl; have hcz14_1 : w13.cell? ⟨gb110, 1, none⟩ = some (.bool false) := (blk_cell BK110.out 1).trans rfl; have hcz14_2 : w13.cell? ⟨gb110, 2, none⟩ = some (.string (⟨#[]⟩ : ByteArray)) := (blk_cell BK110.out 2).trans rfl; have hfz14_0 := blk_frozen BK110.out 0; have hfz14_1 := blk_frozen BK110.out 1; have hfz14_2 := blk_frozen BK110.out 2) | ((with_reducible refine gate_callee (f := 90) rfl ?_); refine goesL_ (some 17) rfl rfl Tryd.func90 (by kernel_rfl) rfl #[.string ((rd_T112 l0 x11_1).f0)] rfl (by (try simp only [List.map_toArray, List.map_cons, List.map_nil]); first | done | rfl | (simp only [List.length_drop, List.length_take]; rfl)) ?_; (with_reducible refine (ikey_Check.calls ((rd_T112 l0 x11_1).f0) t111 _ A6.out).mono ?_); rintro e w' ⟨rfl, ⟨nd, rfl⟩⟩; refine ⟨_, rfl, ?_⟩))
                    go_ret
                    exact ⟨by first | rfl | (simp [errW_none, errW_some] <;> rfl) | (simp [*, errW_none, errW_some] <;> rfl), by repeat (first | (with_reducible first | exact HB.out | apply below_alloc | apply pw_below_drewN | apply below_drew1 | refine below_set ?_ GE110.out) | exact HB.out)⟩
                  · rw [if_neg c12] at H
                    have c12b0 : decide (512 < (((rd_T112 l0 x11_1).f2).size : Int)) = false := decide_eq_false c12
                    have c12b1 : decide (512 < ((rd_T112 l0 x11_1).f2).size) = false := decide_eq_false (by omega)
                    clear c12
                    have H' := Aside0.mk H
                    clear H
                    have p109 : 0 ≤ (x11_1 : Int) := of_decide_eq_true (by first | (with_reducible assumption) | assumption)
                    have q109 : x11_1 < (l0.length : Int) := of_decide_eq_true (by first | (with_reducible assumption) | assumption)
                    obtain ⟨ad109, e109, hx109_0, hx109_1, hx109_2⟩ := at_T112 HR0.out x11_1 p109 q109
                    (try rw [← Nbq8.out] at hx109_1)
                    cases e109
                    replace hx109_0 := (HB.out.cell (World.block_lt_of_cell? w _ hx109_0)).trans hx109_0
                    replace hx109_1 := (HB.out.cell (World.block_lt_of_cell? w _ hx109_1)).trans hx109_1
                    replace hx109_2 := (HB.out.cell (World.block_lt_of_cell? w _ hx109_2)).trans hx109_2
                    replace p109 := eq_true p109
                    replace q109 := eq_true q109
                    go_wp2_with (first | ((with_reducible refine gate_dst (N := 4) rfl ?_); (try (refine gate_guard (by rfl) ?_; dsimp only)); refine box_event ?hg (N := 4) ?hd (cs := #[.string (⟨#[]⟩ : ByteArray), .bool false, .string (⟨#[]⟩ : ByteArray)]) (t := 112) ?hr ?_; (case hd => rfl); (case hg => rfl); (case hr => first | (go_simp; done) | (go_simp; rfl)); intro gb110 hg w15 hbox hb; have n0_ := Aside0.mk (below_step (by repeat (first | (with_reducible first | exact HB.out | apply below_alloc | apply pw_below_drewN | apply below_drew1) | exact HB.out)) hb); have n1_ := Aside0.mk (hbox); have n2_ := Aside0.mk ((by rw [hg]; exact (below_size (by repeat (first | (with_reducible first | exact HB.out | apply below_alloc | apply pw_below_drewN | apply below_drew1) | exact HB.out))) : w.heap.size ≤ gb110)); have n3_ := Aside0.mk ((by rw [hg]; exact (below_size (by repeat (first | (with_reducible first | exact HB.out | apply below_alloc | apply pw_below_drewN | apply below_drew1) | exact HB.out))) : w.heap.size ≤ gb110)); clear HB; have HB := n0_; have BK110 := n1_; have GW110 := n2_; have GE110 := n3_; clear n0_ n1_ n2_ n3_; clear hb hbox hg; have hcz16_0 : w15.cell? ⟨gb110, 0, none⟩ = some (.string (⟨#[]⟩ : ByteArray)) := (blk_cell BK110.out 0).trans rfl; have hcz16_1 : w15.cell? ⟨gb110, 1, none⟩ = some (.bool false) := (blk_cell BK110.out 1).trans rfl; have hcz16_2 : w15.cell? ⟨gb110, 2, none⟩ = some (.string (⟨#[]⟩ : ByteArray)) := (blk_cell BK110.out 2).trans rfl; have hfz16_0 := blk_frozen BK110.out 0; have hfz16_1 := blk_frozen BK110.out 1; have hfz16_2 := blk_frozen BK110.out 2) | ((with_reducible refine gate_callee (f := 90) rfl ?_); refine goesL_ (some 17) rfl rfl Tryd.func90 (by kernel_rfl) rfl #[.string ((rd_T112 l0 x11_1).f0)] rfl (by (try simp only [List.map_toArray, List.map_cons, List.map_nil]); first | done | rfl | (simp only [List.length_drop, List.length_take]; rfl)) ?_; (with_reducible refine (ikey_Check.calls ((rd_T112 l0 x11_1).f0) t111 _ A6.out).mono ?_); rintro e w' ⟨rfl, ⟨nd, rfl⟩⟩; refine ⟨_, rfl, ?_⟩))
                    go_roundg k1
                    case measure => have := HK1.out; omega
                    case rel => exact ⟨(wrap64 (x11_1 + 1)), (by first | rfl | (simp; done) | (simp [*]; done)), H', ⟨by have := HK1.out; omega⟩, ⟨by repeat (first | (with_reducible first | exact HB.out | apply below_alloc | apply pw_below_drewN | apply below_drew1 | refine below_set ?_ GE110.out) | exact HB.out)⟩⟩
              · rw [if_neg c7] at H
                have c7b0 : (t111 == 0) = false := beq_eq_false_iff_ne.mpr c7
                have c7b1 : (t111 != 0) = true := bne_iff_ne.mpr c7
                obtain rfl := Option.some.inj H
                have p109 : 0 ≤ (x11_1 : Int) := of_decide_eq_true (by first | (with_reducible assumption) | assumption)
                have q109 : x11_1 < (l0.length : Int) := of_decide_eq_true (by first | (with_reducible assumption) | assumption)
                obtain ⟨ad109, e109, hx109_0, hx109_1, hx109_2⟩ := at_T112 HR0.out x11_1 p109 q109
                cases e109
                replace hx109_0 := (HB.out.cell (World.block_lt_of_cell? w _ hx109_0)).trans hx109_0
                replace hx109_1 := (HB.out.cell (World.block_lt_of_cell? w _ hx109_1)).trans hx109_1
                replace hx109_2 := (HB.out.cell (World.block_lt_of_cell? w _ hx109_2)).trans hx109_2
                replace p109 := eq_true p109
                replace q109 := eq_true q109
                go_wp2_with (first | ((with_reducible refine gate_dst (N := 4) rfl ?_); (try (refine gate_guard (by rfl) ?_; dsimp only)); refine box_event ?hg (N := 4) ?hd (cs := #[.string (⟨#[]⟩ : ByteArray), .bool false, .string (⟨#[]⟩ : ByteArray)]) (t := 112) ?hr ?_; (case hd => rfl); (case hg => rfl); (case hr => first | (go_simp; done) | (go_simp; rfl)); intro gb110 hg w17 hbox hb; have n0_ := Aside0.mk (below_step (by repeat (first | (with_reducible first | exact HB.out | apply below_alloc | apply pw_below_drewN | apply below_drew1) | exact HB.out)) hb); have n1_ := Aside0.mk (hbox); have n2_ := Aside0.mk ((by rw [hg]; exact (below_size (by repeat (first | (with_reducible first | exact HB.out | apply below_alloc | apply pw_below_drewN | apply below_drew1) | exact HB.out))) : w.heap.size ≤ gb110)); have n3_ := Aside0.mk ((by rw [hg]; exact (below_size (by repeat (first | (with_reducible first | exact HB.out | apply below_alloc | apply pw_below_drewN | apply below_drew1) | exact HB.out))) : w.heap.size ≤ gb110)); clear HB; have HB := n0_; have BK110 := n1_; have GW110 := n2_; have GE110 := n3_; clear n0_ n1_ n2_ n3_; clear hb hbox hg; have hcz18_0 : w17.cell? ⟨gb110, 0, none⟩ = some (.string (⟨#[]⟩ : ByteArray)) := (blk_cell BK110.out 0).trans rfl; have hcz18_1 : w17.cell? ⟨gb110, 1, none⟩ = some (.bool false) := (blk_cell BK110.out 1).trans rfl; have hcz18_2 : w17.cell? ⟨gb110, 2, none⟩ = some (.string (⟨#[]⟩ : ByteArray)) := (blk_cell BK110.out 2).trans rfl; have hfz18_0 := blk_frozen BK110.out 0; have hfz18_1 := blk_frozen BK110.out 1; have hfz18_2 := blk_frozen BK110.out 2) | ((with_reducible refine gate_callee (f := 90) rfl ?_); refine goesL_ (some 17) rfl rfl Tryd.func90 (by kernel_rfl) rfl #[.string ((rd_T112 l0 x11_1).f0)] rfl (by (try simp only [List.map_toArray, List.map_cons, List.map_nil]); first | done | rfl | (simp only [List.length_drop, List.length_take]; rfl)) ?_; (with_reducible refine (ikey_Check.calls ((rd_T112 l0 x11_1).f0) t111 _ A6.out).mono ?_); rintro e w' ⟨rfl, ⟨nd, rfl⟩⟩; refine ⟨_, rfl, ?_⟩))
                go_ret
                exact ⟨by first | rfl | (simp [errW_none, errW_some] <;> rfl) | (simp [*, errW_none, errW_some] <;> rfl), by repeat (first | (with_reducible first | exact HB.out | apply below_alloc | apply pw_below_drewN | apply below_drew1 | refine below_set ?_ GE110.out) | exact HB.out)⟩
            · rw [if_neg c5] at H
              exact absurd H (by simp)
          · rw [if_neg c4] at H
            exact absurd H (by simp)
        · rw [if_neg c3] at H
          have c3b0 : decide (x11_1 < (l0.length : Int)) = false := decide_eq_false c3
          clear c3
          obtain rfl := Option.some.inj H
          go_wp2
          go_ret
          exact ⟨by first | rfl | (simp [errW_none, errW_some] <;> rfl) | (simp [*, errW_none, errW_some] <;> rfl), by repeat (first | (with_reducible first | exact HB.out | apply below_alloc | apply pw_below_drewN | apply below_drew1) | exact HB.out)⟩
def block_writable.f (k : Nat) (a0_0 : ByteArray) (a0_1 : Int) (a0_2 : Bool) (a0_3 : ByteArray) : Option (Int) := (ikey_CheckBatch.f k (([(⟨a0_0, a0_2, a0_3⟩ : S112)] : List (S112)))).bind fun t116 => (if t116 = 0 then (if a0_1 > 72057594037927935 then (some 91) else (if a0_2 = true then (if a0_3.toList = ([] : List UInt8) then (some 0) else (some 91)) else (some 0))) else (some t116))
theorem block_writable.mono : ∀ a0 a1 a2 a3 k, LeO (block_writable.f k a0 a1 a2 a3) (block_writable.f (k + 1) a0 a1 a2 a3) := by
  intro a0 a1 a2 a3 k
  unfold block_writable.f
  repeat' first
      | (with_reducible exact ikey_CheckBatch.mono _ _)
      | (with_reducible exact LeO.refl _)
      | (with_reducible exact LeO.none _)
      | (with_reducible refine LeO.ite ?_ ?_)
      | (with_reducible refine LeO.bind ?_ (fun _ => ?_))
      | exact ikey_CheckBatch.mono _ _
      | exact LeO.none _
      | refine LeO.ite ?_ ?_
      | refine LeO.bind ?_ (fun _ => ?_)
set_option maxHeartbeats 8000000 in
set_option maxRecDepth 100000 in
theorem block_writable.calls (k : Nat) (a0_0 : ByteArray) (a0_1 : Int) (a0_2 : Bool) (a0_3 : ByteArray) (r : Int) (w : World) (h : block_writable.f k a0_0 a0_1 a0_2 a0_3 = some r) :
    Calls Tryd.prog 73 #[.agg #[.string a0_0, .int .u64 a0_1, .bool a0_2, .string a0_3]] w fun e w' => e = .returned (.int .i64 r) ∧ Below w.heap.size w w' := by
  have hu30 := Tryd.underlying30
  have hu112 := Tryd.underlying112
  have HB := Aside0.mk (Below.refl w.heap.size w)
  have H : ((ikey_CheckBatch.f k (([(⟨a0_0, a0_2, a0_3⟩ : S112)] : List (S112)))).bind fun t116 => (if t116 = 0 then (if a0_1 > 72057594037927935 then (some 91) else (if a0_2 = true then (if a0_3.toList = ([] : List UInt8) then (some 0) else (some 91)) else (some 0))) else (some t116))) = some r := h
  clear h
  obtain ⟨y113, hy113⟩ : ∃ y_ : List (S112), y_ = (([(⟨a0_0, a0_2, a0_3⟩ : S112)] : List (S112))) := ⟨_, rfl⟩
  replace H : ((ikey_CheckBatch.f k y113).bind fun t116 => (if t116 = 0 then (if a0_1 > 72057594037927935 then (some 91) else (if a0_2 = true then (if a0_3.toList = ([] : List UInt8) then (some 0) else (some 91)) else (some 0))) else (some t116))) = some r := by first | (rw [hy113]; with_reducible exact H) | (have H2_ := (Option.bind_some _ _).symm.trans H; rw [hy113]; with_reducible exact H2_) | (have H2_ := (Option.bind_some _ _).symm.trans H; with_reducible exact H2_) | with_reducible exact H | (rw [hy113]; exact H) | exact H
  have Ny113 := Aside0.mk hy113
  clear hy113
  replace H := Option.bind_eq_some_iff.mp H
  obtain ⟨t116, A20, H⟩ := H
  replace H : (if t116 = 0 then (if a0_1 > 72057594037927935 then (some 91) else (if a0_2 = true then (if a0_3.toList = ([] : List UInt8) then (some 0) else (some 91)) else (some 0))) else (some t116)) = some r := H
  have A2 := Aside0.mk A20
  clear A20
  by_cases c3 : t116 = 0
  · rw [if_pos c3] at H
    have c3b0 : (t116 == 0) = true := beq_iff_eq.mpr c3
    have c3b1 : (t116 != 0) = false := bne_eq_false_iff_eq.mpr c3
    clear c3
    by_cases c4 : a0_1 > 72057594037927935
    · rw [if_pos c4] at H
      have c4b0 : decide (72057594037927935 < a0_1) = true := decide_eq_true c4
      clear c4
      obtain rfl := Option.some.inj H
      go_enter Tryd.func73, Tryd.ntmps73
      go_wp2_with (first | ((with_reducible refine gate_dst (N := 1) rfl ?_); refine box_event ?hg (N := 1) ?hd (cs := #[.string a0_0, .int .u64 a0_1, .bool a0_2, .string a0_3]) (t := 30) ?hr ?_; (case hd => rfl); (case hg => rfl); (case hr => first | (go_simp; done) | (go_simp; rfl)); intro gb112 hg w5 hbox hb; have n0_ := Aside0.mk (below_step (by repeat (first | (with_reducible first | exact HB.out | apply below_alloc | apply pw_below_drewN | apply below_drew1) | exact HB.out)) hb); have n1_ := Aside0.mk (hbox); have n2_ := Aside0.mk ((by rw [hg]; exact (below_size (by repeat (first | (with_reducible first | exact HB.out | apply below_alloc | apply pw_below_drewN | apply below_drew1) | exact HB.out))) : w.heap.size ≤ gb112)); have n3_ := Aside0.mk ((by rw [hg]; exact (below_size (by repeat (first | (with_reducible first | exact HB.out | apply below_alloc | apply pw_below_drewN | apply below_drew1) | exact HB.out))) : w.heap.size ≤ gb112)); clear HB; have HB := n0_; have BK112 := n1_; have GW112 := n2_; have GE112 := n3_; clear n0_ n1_ n2_ n3_; clear hb hbox hg; have hcz6_0 : w5.cell? ⟨gb112, 0, none⟩ = some (.string a0_0) := (blk_cell BK112.out 0).trans rfl; have hcz6_1 : w5.cell? ⟨gb112, 1, none⟩ = some (.int .u64 a0_1) := (blk_cell BK112.out 1).trans rfl; have hcz6_2 : w5.cell? ⟨gb112, 2, none⟩ = some (.bool a0_2) := (blk_cell BK112.out 2).trans rfl; have hcz6_3 : w5.cell? ⟨gb112, 3, none⟩ = some (.string a0_3) := (blk_cell BK112.out 3).trans rfl; have hfz6_0 := blk_frozen BK112.out 0; have hfz6_1 := blk_frozen BK112.out 1; have hfz6_2 := blk_frozen BK112.out 2; have hfz6_3 := blk_frozen BK112.out 3) | ((with_reducible refine gate_dst (N := 11) rfl ?_); refine Kd.R_lit k112 _ 112 ?hg (N := 11) ?hd (xs := ([(⟨a0_0, a0_2, a0_3⟩ : S112)] : List (S112))) (inner := [.string a0_0, .bool a0_2, .string a0_3]) (ok := fun _ => True) (okp := fun _ => True) ?hr ?hp (fun _ hk => hk) trivial (Below.refl _ _) (Nat.le_refl _) (by simp) ?_; (case hd => rfl); (case hg => rfl); (case hr => first | (go_simp; done) | (go_simp; rfl)); (case hp => exact (Reps.c3 (show Kd.M k112 _ _ _ (⟨a0_0, a0_2, a0_3⟩ : S112) [.string a0_0, .bool a0_2, .string a0_3] from (k112_mkM _ _ _ (⟨a0_0, a0_2, a0_3⟩ : S112) )) (Reps.none _ _))); intro v114 w7 ho8 hb hg_ hnew_; clear hg_ hnew_; (first | rw [← Ny113.out] at ho8 | (simp only [Int.reduceToNat] at ho8; rw [← Ny113.out] at ho8)); have n0_ := Aside0.mk (Kd.R_lower ho8 (below_size (by repeat (first | (with_reducible first | exact HB.out | apply below_alloc | apply pw_below_drewN | apply below_drew1 | refine below_set ?_ GE112.out) | exact HB.out)))); have n1_ := Aside0.mk (blk_below (g := gb112) (o := .cells #[.string a0_0, .int .u64 a0_1, .bool a0_2, .string a0_3] 30 (0, 0)) (by (with_reducible repeat (first | refine blk_drewN ?_ _ | refine blk_drew ?_ | refine blk_alloc ?_ _)); exact BK112.out) hb); have n2_ := Aside0.mk (below_step (by repeat (first | (with_reducible first | exact HB.out | apply below_alloc | apply pw_below_drewN | apply below_drew1 | refine below_set ?_ GE112.out) | exact HB.out)) hb); clear BK112; clear HB; have HO115 := n0_; have BK112 := n1_; have HB := n2_; clear n0_ n1_ n2_; clear hb ho8; obtain ⟨Ao9, co9, eo9⟩ := Kd.R_slice HO115.out; subst eo9) | ((with_reducible refine gate_callee (f := 87) rfl ?_); refine goesL_ (some 12) rfl rfl Tryd.func87 (by kernel_rfl) rfl #[.slice Ao9 y113.length co9] rfl (by (try simp only [List.map_toArray, List.map_cons, List.map_nil]); first | done | rfl | (simp only [List.length_drop, List.length_take]; rfl)) ?_; (with_reducible refine (ikey_CheckBatch.calls k _ _ y113 t116 _ ?side1 ?side2 A2.out).mono ?_); (case side1 => repeat (first | exact (Kd.R_reads' HO115.out).2.2 | (with_reducible refine Kd.C_alloc ?_ _) | (with_reducible refine Kd.C_drewN ?_ _) | (with_reducible refine Kd.C_drew ?_))); (case side2 => exact (Kd.R_reads' HO115.out).2.1); rintro e w10 ⟨rfl, hb⟩; refine ⟨_, rfl, ?_⟩; have n0_ := Aside0.mk (Kd.R_below (by (with_reducible repeat (first | apply Kd.R_alloc | apply Kd.R_drewN | apply Kd.R_drew)); exact HO115.out) hb); have n1_ := Aside0.mk (blk_below (g := gb112) (o := .cells #[.string a0_0, .int .u64 a0_1, .bool a0_2, .string a0_3] 30 (0, 0)) (by (with_reducible repeat (first | refine blk_drewN ?_ _ | refine blk_drew ?_ | refine blk_alloc ?_ _)); exact BK112.out) hb); have n2_ := Aside0.mk (below_step (by repeat (first | (with_reducible first | exact HB.out | apply below_alloc | apply pw_below_drewN | apply below_drew1 | refine below_set ?_ GE112.out) | exact HB.out)) hb); clear HO115; clear BK112; clear HB; have HO115 := n0_; have BK112 := n1_; have HB := n2_; clear n0_ n1_ n2_; (try clear hb); (try clear hb2); (try clear hk); (try clear hi); have hcz11_0 : w10.cell? ⟨gb112, 0, none⟩ = some (.string a0_0) := (blk_cell BK112.out 0).trans rfl; have hcz11_1 : w10.cell? ⟨gb112, 1, none⟩ = some (.int .u64 a0_1) := (blk_cell BK112.out 1).trans rfl; have hcz11_2 : w10.cell? ⟨gb112, 2, none⟩ = some (.bool a0_2) := (blk_cell BK112.out 2).trans rfl; have hcz11_3 : w10.cell? ⟨gb112, 3, none⟩ = some (.string a0_3) := (blk_cell BK112.out 3).trans rfl; have hfz11_0 := blk_frozen BK112.out 0; have hfz11_1 := blk_frozen BK112.out 1; have hfz11_2 := blk_frozen BK112.out 2; have hfz11_3 := blk_frozen BK112.out 3))
      go_ret
      exact ⟨by first | rfl | (simp [errW_none, errW_some] <;> rfl) | (simp [*, errW_none, errW_some] <;> rfl), by repeat (first | (with_reducible first | exact HB.out | apply below_alloc | apply pw_below_drewN | apply below_drew1 | refine below_set ?_ GE112.out) | exact HB.out)⟩
    · rw [if_neg c4] at H
      have c4b0 : decide (72057594037927935 < a0_1) = false := decide_eq_false c4
      clear c4
      by_cases c12 : a0_2 = true
      · subst c12
        have H1 : (if a0_3.toList = ([] : List UInt8) then (some 0) else (some 91)) = some r := by rw [if_pos rfl] at H; exact H
        clear H
        have H := H1
        clear H1
        by_cases c13 : a0_3.toList = ([] : List UInt8)
        · rw [if_pos c13] at H
          have c13b0 : (a0_3.toList == ([] : List UInt8)) = true := beq_iff_eq.mpr c13
          have c13b1 : (a0_3.toList != ([] : List UInt8)) = false := bne_eq_false_iff_eq.mpr c13
          clear c13
          obtain rfl := Option.some.inj H
          go_enter Tryd.func73, Tryd.ntmps73
          go_wp2_with (first | ((with_reducible refine gate_dst (N := 1) rfl ?_); refine box_event ?hg (N := 1) ?hd (cs := #[.string a0_0, .int .u64 a0_1, .bool true, .string a0_3]) (t := 30) ?hr ?_; (case hd => rfl); (case hg => rfl); (case hr => first | (go_simp; done) | (go_simp; rfl)); intro gb112 hg w14 hbox hb; have n0_ := Aside0.mk (below_step (by repeat (first | (with_reducible first | exact HB.out | apply below_alloc | apply pw_below_drewN | apply below_drew1) | exact HB.out)) hb); have n1_ := Aside0.mk (hbox); have n2_ := Aside0.mk ((by rw [hg]; exact (below_size (by repeat (first | (with_reducible first | exact HB.out | apply below_alloc | apply pw_below_drewN | apply below_drew1) | exact HB.out))) : w.heap.size ≤ gb112)); have n3_ := Aside0.mk ((by rw [hg]; exact (below_size (by repeat (first | (with_reducible first | exact HB.out | apply below_alloc | apply pw_below_drewN | apply below_drew1) | exact HB.out))) : w.heap.size ≤ gb112)); clear HB; have HB := n0_; have BK112 := n1_; have GW112 := n2_; have GE112 := n3_; clear n0_ n1_ n2_ n3_; clear hb hbox hg; have hcz15_0 : w14.cell? ⟨gb112, 0, none⟩ = some (.string a0_0) := (blk_cell BK112.out 0).trans rfl; have hcz15_1 : w14.cell? ⟨gb112, 1, none⟩ = some (.int .u64 a0_1) := (blk_cell BK112.out 1).trans rfl; have hcz15_2 : w14.cell? ⟨gb112, 2, none⟩ = some (.bool true) := (blk_cell BK112.out 2).trans rfl; have hcz15_3 : w14.cell? ⟨gb112, 3, none⟩ = some (.string a0_3) := (blk_cell BK112.out 3).trans rfl; have hfz15_0 := blk_frozen BK112.out 0; have hfz15_1 := blk_frozen BK112.out 1; have hfz15_2 := blk_frozen BK112.out 2; have hfz15_3 := blk_frozen BK112.out 3) | ((with_reducible refine gate_dst (N := 11) rfl ?_); refine Kd.R_lit k112 _ 112 ?hg (N := 11) ?hd (xs := ([(⟨a0_0, true, a0_3⟩ : S112)] : List (S112))) (inner := [.string a0_0, .bool true, .string a0_3]) (ok := fun _ => True) (okp := fun _ => True) ?hr ?hp (fun _ hk => hk) trivial (Below.refl _ _) (Nat.le_refl _) (by simp) ?_; (case hd => rfl); (case hg => rfl); (case hr => first | (go_simp; done) | (go_simp; rfl)); (case hp => exact (Reps.c3 (show Kd.M k112 _ _ _ (⟨a0_0, true, a0_3⟩ : S112) [.string a0_0, .bool true, .string a0_3] from (k112_mkM _ _ _ (⟨a0_0, true, a0_3⟩ : S112) )) (Reps.none _ _))); intro v114 w16 ho17 hb hg_ hnew_; clear hg_ hnew_; (first | rw [← Ny113.out] at ho17 | (simp only [Int.reduceToNat] at ho17; rw [← Ny113.out] at ho17)); have n0_ := Aside0.mk (Kd.R_lower ho17 (below_size (by repeat (first | (with_reducible first | exact HB.out | apply below_alloc | apply pw_below_drewN | apply below_drew1 | refine below_set ?_ GE112.out) | exact HB.out)))); have n1_ := Aside0.mk (blk_below (g := gb112) (o := .cells #[.string a0_0, .int .u64 a0_1, .bool true, .string a0_3] 30 (0, 0)) (by (with_reducible repeat (first | refine blk_drewN ?_ _ | refine blk_drew ?_ | refine blk_alloc ?_ _)); exact BK112.out) hb); have n2_ := Aside0.mk (below_step (by repeat (first | (with_reducible first | exact HB.out | apply below_alloc | apply pw_below_drewN | apply below_drew1 | refine below_set ?_ GE112.out) | exact HB.out)) hb); clear BK112; clear HB; have HO115 := n0_; have BK112 := n1_; have HB := n2_; clear n0_ n1_ n2_; clear hb ho17; obtain ⟨Ao18, co18, eo18⟩ := Kd.R_slice HO115.out; subst eo18) | ((with_reducible refine gate_callee (f := 87) rfl ?_); refine goesL_ (some 12) rfl rfl Tryd.func87 (by kernel_rfl) rfl #[.slice Ao18 y113.length co18] rfl (by (try simp only [List.map_toArray, List.map_cons, List.map_nil]); first | done | rfl | (simp only [List.length_drop, List.length_take]; rfl)) ?_; (with_reducible refine (ikey_CheckBatch.calls k _ _ y113 t116 _ ?side1 ?side2 A2.out).mono ?_); (case side1 => repeat (first | exact (Kd.R_reads' HO115.out).2.2 | (with_reducible refine Kd.C_alloc ?_ _) | (with_reducible refine Kd.C_drewN ?_ _) | (with_reducible refine Kd.C_drew ?_))); (case side2 => exact (Kd.R_reads' HO115.out).2.1); rintro e w19 ⟨rfl, hb⟩; refine ⟨_, rfl, ?_⟩; have n0_ := Aside0.mk (Kd.R_below (by (with_reducible repeat (first | apply Kd.R_alloc | apply Kd.R_drewN | apply Kd.R_drew)); exact HO115.out) hb); have n1_ := Aside0.mk (blk_below (g := gb112) (o := .cells #[.string a0_0, .int .u64 a0_1, .bool true, .string a0_3] 30 (0, 0)) (by (with_reducible repeat (first | refine blk_drewN ?_ _ | refine blk_drew ?_ | refine blk_alloc ?_ _)); exact BK112.out) hb); have n2_ := Aside0.mk (below_step (by repeat (first | (with_reducible first | exact HB.out | apply below_alloc | apply pw_below_drewN | apply below_drew1 | refine below_set ?_ GE112.out) | exact HB.out)) hb); clear HO115; clear BK112; clear HB; have HO115 := n0_; have BK112 := n1_; have HB := n2_; clear n0_ n1_ n2_; (try clear hb); (try clear hb2); (try clear hk); (try clear hi); have hcz20_0 : w19.cell? ⟨gb112, 0, none⟩ = some (.string a0_0) := (blk_cell BK112.out 0).trans rfl; have hcz20_1 : w19.cell? ⟨gb112, 1, none⟩ = some (.int .u64 a0_1) := (blk_cell BK112.out 1).trans rfl; have hcz20_2 : w19.cell? ⟨gb112, 2, none⟩ = some (.bool true) := (blk_cell BK112.out 2).trans rfl; have hcz20_3 : w19.cell? ⟨gb112, 3, none⟩ = some (.string a0_3) := (blk_cell BK112.out 3).trans rfl; have hfz20_0 := blk_frozen BK112.out 0; have hfz20_1 := blk_frozen BK112.out 1; have hfz20_2 := blk_frozen BK112.out 2; have hfz20_3 := blk_frozen BK112.out 3))
          go_ret
          exact ⟨by first | rfl | (simp [errW_none, errW_some] <;> rfl) | (simp [*, errW_none, errW_some] <;> rfl), by repeat (first | (with_reducible first | exact HB.out | apply below_alloc | apply pw_below_drewN | apply below_drew1 | refine below_set ?_ GE112.out) | exact HB.out)⟩
        · rw [if_neg c13] at H
          have c13b0 : (a0_3.toList == ([] : List UInt8)) = false := beq_eq_false_iff_ne.mpr c13
          have c13b1 : (a0_3.toList != ([] : List UInt8)) = true := bne_iff_ne.mpr c13
          obtain rfl := Option.some.inj H
          go_enter Tryd.func73, Tryd.ntmps73
          go_wp2_with (first | ((with_reducible refine gate_dst (N := 1) rfl ?_); refine box_event ?hg (N := 1) ?hd (cs := #[.string a0_0, .int .u64 a0_1, .bool true, .string a0_3]) (t := 30) ?hr ?_; (case hd => rfl); (case hg => rfl); (case hr => first | (go_simp; done) | (go_simp; rfl)); intro gb112 hg w21 hbox hb; have n0_ := Aside0.mk (below_step (by repeat (first | (with_reducible first | exact HB.out | apply below_alloc | apply pw_below_drewN | apply below_drew1) | exact HB.out)) hb); have n1_ := Aside0.mk (hbox); have n2_ := Aside0.mk ((by rw [hg]; exact (below_size (by repeat (first | (with_reducible first | exact HB.out | apply below_alloc | apply pw_below_drewN | apply below_drew1) | exact HB.out))) : w.heap.size ≤ gb112)); have n3_ := Aside0.mk ((by rw [hg]; exact (below_size (by repeat (first | (with_reducible first | exact HB.out | apply below_alloc | apply pw_below_drewN | apply below_drew1) | exact HB.out))) : w.heap.size ≤ gb112)); clear HB; have HB := n0_; have BK112 := n1_; have GW112 := n2_; have GE112 := n3_; clear n0_ n1_ n2_ n3_; clear hb hbox hg; have hcz22_0 : w21.cell? ⟨gb112, 0, none⟩ = some (.string a0_0) := (blk_cell BK112.out 0).trans rfl; have hcz22_1 : w21.cell? ⟨gb112, 1, none⟩ = some (.int .u64 a0_1) := (blk_cell BK112.out 1).trans rfl; have hcz22_2 : w21.cell? ⟨gb112, 2, none⟩ = some (.bool true) := (blk_cell BK112.out 2).trans rfl; have hcz22_3 : w21.cell? ⟨gb112, 3, none⟩ = some (.string a0_3) := (blk_cell BK112.out 3).trans rfl; have hfz22_0 := blk_frozen BK112.out 0; have hfz22_1 := blk_frozen BK112.out 1; have hfz22_2 := blk_frozen BK112.out 2; have hfz22_3 := blk_frozen BK112.out 3) | ((with_reducible refine gate_dst (N := 11) rfl ?_); refine Kd.R_lit k112 _ 112 ?hg (N := 11) ?hd (xs := ([(⟨a0_0, true, a0_3⟩ : S112)] : List (S112))) (inner := [.string a0_0, .bool true, .string a0_3]) (ok := fun _ => True) (okp := fun _ => True) ?hr ?hp (fun _ hk => hk) trivial (Below.refl _ _) (Nat.le_refl _) (by simp) ?_; (case hd => rfl); (case hg => rfl); (case hr => first | (go_simp; done) | (go_simp; rfl)); (case hp => exact (Reps.c3 (show Kd.M k112 _ _ _ (⟨a0_0, true, a0_3⟩ : S112) [.string a0_0, .bool true, .string a0_3] from (k112_mkM _ _ _ (⟨a0_0, true, a0_3⟩ : S112) )) (Reps.none _ _))); intro v114 w23 ho24 hb hg_ hnew_; clear hg_ hnew_; (first | rw [← Ny113.out] at ho24 | (simp only [Int.reduceToNat] at ho24; rw [← Ny113.out] at ho24)); have n0_ := Aside0.mk (Kd.R_lower ho24 (below_size (by repeat (first | (with_reducible first | exact HB.out | apply below_alloc | apply pw_below_drewN | apply below_drew1 | refine below_set ?_ GE112.out) | exact HB.out)))); have n1_ := Aside0.mk (blk_below (g := gb112) (o := .cells #[.string a0_0, .int .u64 a0_1, .bool true, .string a0_3] 30 (0, 0)) (by (with_reducible repeat (first | refine blk_drewN ?_ _ | refine blk_drew ?_ | refine blk_alloc ?_ _)); exact BK112.out) hb); have n2_ := Aside0.mk (below_step (by repeat (first | (with_reducible first | exact HB.out | apply below_alloc | apply pw_below_drewN | apply below_drew1 | refine below_set ?_ GE112.out) | exact HB.out)) hb); clear BK112; clear HB; have HO115 := n0_; have BK112 := n1_; have HB := n2_; clear n0_ n1_ n2_; clear hb ho24; obtain ⟨Ao25, co25, eo25⟩ := Kd.R_slice HO115.out; subst eo25) | ((with_reducible refine gate_callee (f := 87) rfl ?_); refine goesL_ (some 12) rfl rfl Tryd.func87 (by kernel_rfl) rfl #[.slice Ao25 y113.length co25] rfl (by (try simp only [List.map_toArray, List.map_cons, List.map_nil]); first | done | rfl | (simp only [List.length_drop, List.length_take]; rfl)) ?_; (with_reducible refine (ikey_CheckBatch.calls k _ _ y113 t116 _ ?side1 ?side2 A2.out).mono ?_); (case side1 => repeat (first | exact (Kd.R_reads' HO115.out).2.2 | (with_reducible refine Kd.C_alloc ?_ _) | (with_reducible refine Kd.C_drewN ?_ _) | (with_reducible refine Kd.C_drew ?_))); (case side2 => exact (Kd.R_reads' HO115.out).2.1); rintro e w26 ⟨rfl, hb⟩; refine ⟨_, rfl, ?_⟩; have n0_ := Aside0.mk (Kd.R_below (by (with_reducible repeat (first | apply Kd.R_alloc | apply Kd.R_drewN | apply Kd.R_drew)); exact HO115.out) hb); have n1_ := Aside0.mk (blk_below (g := gb112) (o := .cells #[.string a0_0, .int .u64 a0_1, .bool true, .string a0_3] 30 (0, 0)) (by (with_reducible repeat (first | refine blk_drewN ?_ _ | refine blk_drew ?_ | refine blk_alloc ?_ _)); exact BK112.out) hb); have n2_ := Aside0.mk (below_step (by repeat (first | (with_reducible first | exact HB.out | apply below_alloc | apply pw_below_drewN | apply below_drew1 | refine below_set ?_ GE112.out) | exact HB.out)) hb); clear HO115; clear BK112; clear HB; have HO115 := n0_; have BK112 := n1_; have HB := n2_; clear n0_ n1_ n2_; (try clear hb); (try clear hb2); (try clear hk); (try clear hi); have hcz27_0 : w26.cell? ⟨gb112, 0, none⟩ = some (.string a0_0) := (blk_cell BK112.out 0).trans rfl; have hcz27_1 : w26.cell? ⟨gb112, 1, none⟩ = some (.int .u64 a0_1) := (blk_cell BK112.out 1).trans rfl; have hcz27_2 : w26.cell? ⟨gb112, 2, none⟩ = some (.bool true) := (blk_cell BK112.out 2).trans rfl; have hcz27_3 : w26.cell? ⟨gb112, 3, none⟩ = some (.string a0_3) := (blk_cell BK112.out 3).trans rfl; have hfz27_0 := blk_frozen BK112.out 0; have hfz27_1 := blk_frozen BK112.out 1; have hfz27_2 := blk_frozen BK112.out 2; have hfz27_3 := blk_frozen BK112.out 3))
          go_ret
          exact ⟨by first | rfl | (simp [errW_none, errW_some] <;> rfl) | (simp [*, errW_none, errW_some] <;> rfl), by repeat (first | (with_reducible first | exact HB.out | apply below_alloc | apply pw_below_drewN | apply below_drew1 | refine below_set ?_ GE112.out) | exact HB.out)⟩
      · replace c12 := Bool.eq_false_iff.mpr c12
        subst c12
        have H1 : (some 0) = some r := by rw [if_neg (show ¬ (false = true) by decide)] at H; exact H
        clear H
        have H := H1
        clear H1
        obtain rfl := Option.some.inj H
        go_enter Tryd.func73, Tryd.ntmps73
        go_wp2_with (first | ((with_reducible refine gate_dst (N := 1) rfl ?_); refine box_event ?hg (N := 1) ?hd (cs := #[.string a0_0, .int .u64 a0_1, .bool false, .string a0_3]) (t := 30) ?hr ?_; (case hd => rfl); (case hg => rfl); (case hr => first | (go_simp; done) | (go_simp; rfl)); intro gb112 hg w28 hbox hb; have n0_ := Aside0.mk (below_step (by repeat (first | (with_reducible first | exact HB.out | apply below_alloc | apply pw_below_drewN | apply below_drew1) | exact HB.out)) hb); have n1_ := Aside0.mk (hbox); have n2_ := Aside0.mk ((by rw [hg]; exact (below_size (by repeat (first | (with_reducible first | exact HB.out | apply below_alloc | apply pw_below_drewN | apply below_drew1) | exact HB.out))) : w.heap.size ≤ gb112)); have n3_ := Aside0.mk ((by rw [hg]; exact (below_size (by repeat (first | (with_reducible first | exact HB.out | apply below_alloc | apply pw_below_drewN | apply below_drew1) | exact HB.out))) : w.heap.size ≤ gb112)); clear HB; have HB := n0_; have BK112 := n1_; have GW112 := n2_; have GE112 := n3_; clear n0_ n1_ n2_ n3_; clear hb hbox hg; have hcz29_0 : w28.cell? ⟨gb112, 0, none⟩ = some (.string a0_0) := (blk_cell BK112.out 0).trans rfl; have hcz29_1 : w28.cell? ⟨gb112, 1, none⟩ = some (.int .u64 a0_1) := (blk_cell BK112.out 1).trans rfl; have hcz29_2 : w28.cell? ⟨gb112, 2, none⟩ = some (.bool false) := (blk_cell BK112.out 2).trans rfl; have hcz29_3 : w28.cell? ⟨gb112, 3, none⟩ = some (.string a0_3) := (blk_cell BK112.out 3).trans rfl; have hfz29_0 := blk_frozen BK112.out 0; have hfz29_1 := blk_frozen BK112.out 1; have hfz29_2 := blk_frozen BK112.out 2; have hfz29_3 := blk_frozen BK112.out 3) | ((with_reducible refine gate_dst (N := 11) rfl ?_); refine Kd.R_lit k112 _ 112 ?hg (N := 11) ?hd (xs := ([(⟨a0_0, false, a0_3⟩ : S112)] : List (S112))) (inner := [.string a0_0, .bool false, .string a0_3]) (ok := fun _ => True) (okp := fun _ => True) ?hr ?hp (fun _ hk => hk) trivial (Below.refl _ _) (Nat.le_refl _) (by simp) ?_; (case hd => rfl); (case hg => rfl); (case hr => first | (go_simp; done) | (go_simp; rfl)); (case hp => exact (Reps.c3 (show Kd.M k112 _ _ _ (⟨a0_0, false, a0_3⟩ : S112) [.string a0_0, .bool false, .string a0_3] from (k112_mkM _ _ _ (⟨a0_0, false, a0_3⟩ : S112) )) (Reps.none _ _))); intro v114 w30 ho31 hb hg_ hnew_; clear hg_ hnew_; (first | rw [← Ny113.out] at ho31 | (simp only [Int.reduceToNat] at ho31; rw [← Ny113.out] at ho31)); have n0_ := Aside0.mk (Kd.R_lower ho31 (below_size (by repeat (first | (with_reducible first | exact HB.out | apply below_alloc | apply pw_below_drewN | apply below_drew1 | refine below_set ?_ GE112.out) | exact HB.out)))); have n1_ := Aside0.mk (blk_below (g := gb112) (o := .cells #[.string a0_0, .int .u64 a0_1, .bool false, .string a0_3] 30 (0, 0)) (by (with_reducible repeat (first | refine blk_drewN ?_ _ | refine blk_drew ?_ | refine blk_alloc ?_ _)); exact BK112.out) hb); have n2_ := Aside0.mk (below_step (by repeat (first | (with_reducible first | exact HB.out | apply below_alloc | apply pw_below_drewN | apply below_drew1 | refine below_set ?_ GE112.out) | exact HB.out)) hb); clear BK112; clear HB; have HO115 := n0_; have BK112 := n1_; have HB := n2_; clear n0_ n1_ n2_; clear hb ho31; obtain ⟨Ao32, co32, eo32⟩ := Kd.R_slice HO115.out; subst eo32) | ((with_reducible refine gate_callee (f := 87) rfl ?_); refine goesL_ (some 12) rfl rfl Tryd.func87 (by kernel_rfl) rfl #[.slice Ao32 y113.length co32] rfl (by (try simp only [List.map_toArray, List.map_cons, List.map_nil]); first | done | rfl | (simp only [List.length_drop, List.length_take]; rfl)) ?_; (with_reducible refine (ikey_CheckBatch.calls k _ _ y113 t116 _ ?side1 ?side2 A2.out).mono ?_); (case side1 => repeat (first | exact (Kd.R_reads' HO115.out).2.2 | (with_reducible refine Kd.C_alloc ?_ _) | (with_reducible refine Kd.C_drewN ?_ _) | (with_reducible refine Kd.C_drew ?_))); (case side2 => exact (Kd.R_reads' HO115.out).2.1); rintro e w33 ⟨rfl, hb⟩; refine ⟨_, rfl, ?_⟩; have n0_ := Aside0.mk (Kd.R_below (by (with_reducible repeat (first | apply Kd.R_alloc | apply Kd.R_drewN | apply Kd.R_drew)); exact HO115.out) hb); have n1_ := Aside0.mk (blk_below (g := gb112) (o := .cells #[.string a0_0, .int .u64 a0_1, .bool false, .string a0_3] 30 (0, 0)) (by (with_reducible repeat (first | refine blk_drewN ?_ _ | refine blk_drew ?_ | refine blk_alloc ?_ _)); exact BK112.out) hb); have n2_ := Aside0.mk (below_step (by repeat (first | (with_reducible first | exact HB.out | apply below_alloc | apply pw_below_drewN | apply below_drew1 | refine below_set ?_ GE112.out) | exact HB.out)) hb); clear HO115; clear BK112; clear HB; have HO115 := n0_; have BK112 := n1_; have HB := n2_; clear n0_ n1_ n2_; (try clear hb); (try clear hb2); (try clear hk); (try clear hi); have hcz34_0 : w33.cell? ⟨gb112, 0, none⟩ = some (.string a0_0) := (blk_cell BK112.out 0).trans rfl; have hcz34_1 : w33.cell? ⟨gb112, 1, none⟩ = some (.int .u64 a0_1) := (blk_cell BK112.out 1).trans rfl; have hcz34_2 : w33.cell? ⟨gb112, 2, none⟩ = some (.bool false) := (blk_cell BK112.out 2).trans rfl; have hcz34_3 : w33.cell? ⟨gb112, 3, none⟩ = some (.string a0_3) := (blk_cell BK112.out 3).trans rfl; have hfz34_0 := blk_frozen BK112.out 0; have hfz34_1 := blk_frozen BK112.out 1; have hfz34_2 := blk_frozen BK112.out 2; have hfz34_3 := blk_frozen BK112.out 3))
        go_ret
        exact ⟨by first | rfl | (simp [errW_none, errW_some] <;> rfl) | (simp [*, errW_none, errW_some] <;> rfl), by repeat (first | (with_reducible first | exact HB.out | apply below_alloc | apply pw_below_drewN | apply below_drew1 | refine below_set ?_ GE112.out) | exact HB.out)⟩
  · rw [if_neg c3] at H
    have c3b0 : (t116 == 0) = false := beq_eq_false_iff_ne.mpr c3
    have c3b1 : (t116 != 0) = true := bne_iff_ne.mpr c3
    obtain rfl := Option.some.inj H
    go_enter Tryd.func73, Tryd.ntmps73
    go_wp2_with (first | ((with_reducible refine gate_dst (N := 1) rfl ?_); refine box_event ?hg (N := 1) ?hd (cs := #[.string a0_0, .int .u64 a0_1, .bool a0_2, .string a0_3]) (t := 30) ?hr ?_; (case hd => rfl); (case hg => rfl); (case hr => first | (go_simp; done) | (go_simp; rfl)); intro gb112 hg w35 hbox hb; have n0_ := Aside0.mk (below_step (by repeat (first | (with_reducible first | exact HB.out | apply below_alloc | apply pw_below_drewN | apply below_drew1) | exact HB.out)) hb); have n1_ := Aside0.mk (hbox); have n2_ := Aside0.mk ((by rw [hg]; exact (below_size (by repeat (first | (with_reducible first | exact HB.out | apply below_alloc | apply pw_below_drewN | apply below_drew1) | exact HB.out))) : w.heap.size ≤ gb112)); have n3_ := Aside0.mk ((by rw [hg]; exact (below_size (by repeat (first | (with_reducible first | exact HB.out | apply below_alloc | apply pw_below_drewN | apply below_drew1) | exact HB.out))) : w.heap.size ≤ gb112)); clear HB; have HB := n0_; have BK112 := n1_; have GW112 := n2_; have GE112 := n3_; clear n0_ n1_ n2_ n3_; clear hb hbox hg; have hcz36_0 : w35.cell? ⟨gb112, 0, none⟩ = some (.string a0_0) := (blk_cell BK112.out 0).trans rfl; have hcz36_1 : w35.cell? ⟨gb112, 1, none⟩ = some (.int .u64 a0_1) := (blk_cell BK112.out 1).trans rfl; have hcz36_2 : w35.cell? ⟨gb112, 2, none⟩ = some (.bool a0_2) := (blk_cell BK112.out 2).trans rfl; have hcz36_3 : w35.cell? ⟨gb112, 3, none⟩ = some (.string a0_3) := (blk_cell BK112.out 3).trans rfl; have hfz36_0 := blk_frozen BK112.out 0; have hfz36_1 := blk_frozen BK112.out 1; have hfz36_2 := blk_frozen BK112.out 2; have hfz36_3 := blk_frozen BK112.out 3) | ((with_reducible refine gate_dst (N := 11) rfl ?_); refine Kd.R_lit k112 _ 112 ?hg (N := 11) ?hd (xs := ([(⟨a0_0, a0_2, a0_3⟩ : S112)] : List (S112))) (inner := [.string a0_0, .bool a0_2, .string a0_3]) (ok := fun _ => True) (okp := fun _ => True) ?hr ?hp (fun _ hk => hk) trivial (Below.refl _ _) (Nat.le_refl _) (by simp) ?_; (case hd => rfl); (case hg => rfl); (case hr => first | (go_simp; done) | (go_simp; rfl)); (case hp => exact (Reps.c3 (show Kd.M k112 _ _ _ (⟨a0_0, a0_2, a0_3⟩ : S112) [.string a0_0, .bool a0_2, .string a0_3] from (k112_mkM _ _ _ (⟨a0_0, a0_2, a0_3⟩ : S112) )) (Reps.none _ _))); intro v114 w37 ho38 hb hg_ hnew_; clear hg_ hnew_; (first | rw [← Ny113.out] at ho38 | (simp only [Int.reduceToNat] at ho38; rw [← Ny113.out] at ho38)); have n0_ := Aside0.mk (Kd.R_lower ho38 (below_size (by repeat (first | (with_reducible first | exact HB.out | apply below_alloc | apply pw_below_drewN | apply below_drew1 | refine below_set ?_ GE112.out) | exact HB.out)))); have n1_ := Aside0.mk (blk_below (g := gb112) (o := .cells #[.string a0_0, .int .u64 a0_1, .bool a0_2, .string a0_3] 30 (0, 0)) (by (with_reducible repeat (first | refine blk_drewN ?_ _ | refine blk_drew ?_ | refine blk_alloc ?_ _)); exact BK112.out) hb); have n2_ := Aside0.mk (below_step (by repeat (first | (with_reducible first | exact HB.out | apply below_alloc | apply pw_below_drewN | apply below_drew1 | refine below_set ?_ GE112.out) | exact HB.out)) hb); clear BK112; clear HB; have HO115 := n0_; have BK112 := n1_; have HB := n2_; clear n0_ n1_ n2_; clear hb ho38; obtain ⟨Ao39, co39, eo39⟩ := Kd.R_slice HO115.out; subst eo39) | ((with_reducible refine gate_callee (f := 87) rfl ?_); refine goesL_ (some 12) rfl rfl Tryd.func87 (by kernel_rfl) rfl #[.slice Ao39 y113.length co39] rfl (by (try simp only [List.map_toArray, List.map_cons, List.map_nil]); first | done | rfl | (simp only [List.length_drop, List.length_take]; rfl)) ?_; (with_reducible refine (ikey_CheckBatch.calls k _ _ y113 t116 _ ?side1 ?side2 A2.out).mono ?_); (case side1 => repeat (first | exact (Kd.R_reads' HO115.out).2.2 | (with_reducible refine Kd.C_alloc ?_ _) | (with_reducible refine Kd.C_drewN ?_ _) | (with_reducible refine Kd.C_drew ?_))); (case side2 => exact (Kd.R_reads' HO115.out).2.1); rintro e w40 ⟨rfl, hb⟩; refine ⟨_, rfl, ?_⟩; have n0_ := Aside0.mk (Kd.R_below (by (with_reducible repeat (first | apply Kd.R_alloc | apply Kd.R_drewN | apply Kd.R_drew)); exact HO115.out) hb); have n1_ := Aside0.mk (blk_below (g := gb112) (o := .cells #[.string a0_0, .int .u64 a0_1, .bool a0_2, .string a0_3] 30 (0, 0)) (by (with_reducible repeat (first | refine blk_drewN ?_ _ | refine blk_drew ?_ | refine blk_alloc ?_ _)); exact BK112.out) hb); have n2_ := Aside0.mk (below_step (by repeat (first | (with_reducible first | exact HB.out | apply below_alloc | apply pw_below_drewN | apply below_drew1 | refine below_set ?_ GE112.out) | exact HB.out)) hb); clear HO115; clear BK112; clear HB; have HO115 := n0_; have BK112 := n1_; have HB := n2_; clear n0_ n1_ n2_; (try clear hb); (try clear hb2); (try clear hk); (try clear hi)))
    go_ret
    exact ⟨by first | rfl | (simp [errW_none, errW_some] <;> rfl) | (simp [*, errW_none, errW_some] <;> rfl), by repeat (first | (with_reducible first | exact HB.out | apply below_alloc | apply pw_below_drewN | apply below_drew1 | refine below_set ?_ GE112.out) | exact HB.out)⟩
def codec_number.l0 : Nat → List Int → Int → Option (List Int)
  | 0, _, _ => none
  | k + 1, x0, x1 => if x1 ≥ 128 then (if x0.length < 140737488355328 then (codec_number.l0 k (x0 ++ [Go.bits .or .u8 ((x1) % 256) 128]) (x1 / 128)) else (none)) else (if x0.length < 140737488355328 then (some (x0 ++ [(x1) % 256])) else (none))
def codec_number.f (k : Nat) (l0 : List Int) (a1 : Int) : Option (List Int) := codec_number.l0 k l0 a1
theorem codec_number.mono_l : ∀ k, (∀ y0 y1, LeO (codec_number.l0 k y0 y1) (codec_number.l0 (k + 1) y0 y1))
  | 0 => fun _ _ r h => by simp [codec_number.l0] at h
  | k + 1 => by
    have ih0 := codec_number.mono_l k
    · intro y0 y1
      unfold codec_number.l0
      repeat' first
      | (with_reducible exact ih0 _ _)
      | (with_reducible exact LeO.refl _)
      | (with_reducible exact LeO.none _)
      | (with_reducible refine LeO.ite ?_ ?_)
      | (with_reducible refine LeO.bind ?_ (fun _ => ?_))
      | exact ih0 _ _
      | exact LeO.none _
      | refine LeO.ite ?_ ?_
      | refine LeO.bind ?_ (fun _ => ?_)
theorem codec_number.mono : ∀ a0 a1 k, LeO (codec_number.f k a0 a1) (codec_number.f (k + 1) a0 a1) := by
  intro a0 a1 k
  have ih0 := codec_number.mono_l k
  unfold codec_number.f
  repeat' first
      | (with_reducible exact ih0 _ _)
      | (with_reducible exact LeO.refl _)
      | (with_reducible exact LeO.none _)
      | (with_reducible refine LeO.ite ?_ ?_)
      | (with_reducible refine LeO.bind ?_ (fun _ => ?_))
      | exact ih0 _ _
      | exact LeO.none _
      | refine LeO.ite ?_ ?_
      | refine LeO.bind ?_ (fun _ => ?_)
set_option maxHeartbeats 8000000 in
set_option maxRecDepth 100000 in
theorem codec_number.calls (k : Nat) (P0_ : Nat → Prop) (u9000_ : Value) (l0 : List Int) (a1 : Int) (r : List Int) (w0 w : World) (hB : Below w0.heap.size w0 w) (ho0 : Kd.R (Kd.int .u8) 5 w w0.heap.size P0_ u9000_ l0) (h : codec_number.f k l0 a1 = some r) :
    Calls Tryd.prog 88 #[u9000_, .int .u64 a1] w fun e w' => ∃ v0_ : Value, e = .returned (v0_) ∧ Kd.R (Kd.int .u8) 5 w' w0.heap.size (fun k_ => (P0_ k_ ∨ w.heap.size ≤ k_)) v0_ r ∧ Below w0.heap.size w0 w' ∧ Kept w w' (fun k_ => P0_ k_) := by
  have HO0 := Aside0.mk (show Kd.R (Kd.int .u8) 5 w w0.heap.size (fun k_ => (P0_ k_ ∨ w.heap.size ≤ k_)) u9000_ l0 from Kd.R_mono ho0 (fun k_ hk => (.inl hk)))
  have HK := Aside0.mk (Kept.refl w (fun k_ => P0_ k_))
  have HW0 := Aside0.mk hB.size
  have HB := Aside0.mk hB
  clear hB
  have H : (codec_number.l0 k l0 a1) = some r := h
  clear h
  have H' := Aside0.mk H
  clear H
  go_enter Tryd.func88, Tryd.ntmps88
  go_wp2
  go_loopg [0, 1] k (fun kq v0 v1 w' => ∃ (x0_1 : List Int) (x1_1 : Int), v1 = .int .u64 x1_1 ∧ Aside0 (codec_number.l0 kq x0_1 x1_1 = some r) ∧ Aside0 (kq ≤ k) ∧ Aside0 (Kd.R (Kd.int .u8) 5 w' w0.heap.size (fun k_ => (P0_ k_ ∨ w.heap.size ≤ k_)) v0 x0_1) ∧ Aside0 (Kept w w' (fun k_ => P0_ k_)) ∧ Aside0 (Below w0.heap.size w0 w'))
  case atStart => exact ⟨(l0), (a1), (by first | rfl | (simp; done) | (simp [*]; done)), H', ⟨Nat.le_refl _⟩, ⟨by (with_reducible repeat (first | apply Kd.R_alloc | apply Kd.R_drewN | apply Kd.R_drew)); exact HO0.out⟩, ⟨by repeat (first | (with_reducible first | exact HK.out | apply Kept.alloc | apply Kept.drewN | apply Kept.drew) | exact HK.out)⟩, ⟨by repeat (first | (with_reducible first | exact HB.out | apply below_alloc | apply pw_below_drewN | apply below_drew1) | exact HB.out)⟩⟩
  case round =>
    clear H'
    try clear p2
    obtain ⟨x0_1, x1_1, rfl, HA, HK1, HO_0, HK, HB⟩ := hrel
    cases gk with
    | zero => exact absurd HA.out (by simp [codec_number.l0])
    | succ k1 =>
      have H := HA.out
      clear HA
      simp only [codec_number.l0] at H
      by_cases c3 : x1_1 ≥ 128
      · rw [if_pos c3] at H
        have c3b0 : decide (128 ≤ x1_1) = true := decide_eq_true c3
        clear c3
        by_cases c4 : x0_1.length < 140737488355328
        · rw [if_pos c4] at H
          have LMc4 := Aside0.mk c4
          clear c4
          obtain ⟨y117, hy117⟩ : ∃ y_ : List Int, y_ = (x0_1 ++ [Go.bits .or .u8 ((x1_1) % 256) 128]) := ⟨_, rfl⟩
          replace H : (codec_number.l0 k1 y117 (x1_1 / 128)) = some r := by first | (rw [hy117]; with_reducible exact H) | (have H2_ := (Option.bind_some _ _).symm.trans H; rw [hy117]; with_reducible exact H2_) | (have H2_ := (Option.bind_some _ _).symm.trans H; with_reducible exact H2_) | with_reducible exact H | (rw [hy117]; exact H) | exact H
          have Ny117 := Aside0.mk hy117
          clear hy117
          have H' := Aside0.mk H
          clear H
          go_wp2_with (first | ((with_reducible refine gate_builtin (b := .append) (xs := #[.tmp 7, .tmp 11]) rfl ?_); at_builtin; refine Kd.R_append (Kd.int .u8) (w0 := w0) w0.heap.size rfl (.tmp 7) (.tmp 11) 22 5 (.int .u8 0) 1 rfl Tryd.underlying22 info5 rfl (by decide) (by omega) u0 x0_1 (Go.bits .or .u8 ((x1_1) % 256) 128) [.int .u8 (Go.bits .or .u8 ((x1_1) % 256) 128)] (fun k_ => (P0_ k_ ∨ w.heap.size ≤ k_)) (fun _ => False) rfl rfl ?aP (fun _ hk => hk.elim) ?aF ?aO ?aB ?aS ?aL ?_; (case aP => exact rfl); (case aB => exact (by repeat (first | (with_reducible first | exact HB.out | apply below_alloc | apply pw_below_drewN | apply below_drew1) | exact HB.out))); (case aF => exact (fun k_ hk => (.inr (Nat.le_trans (by first | exact HK.out.1 | exact (show Kept w _ (fun k_ => P0_ k_) from by repeat (first | (with_reducible first | exact HK.out | apply Kept.alloc | apply Kept.drewN | apply Kept.drew) | exact HK.out)).1) hk)))); (case aO => exact (by (with_reducible repeat (first | apply Kd.R_alloc | apply Kd.R_drewN | apply Kd.R_drew)); exact HO_0.out)); (case aS => exact (below_size (by repeat (first | (with_reducible first | exact HB.out | apply below_alloc | apply pw_below_drewN | apply below_drew1) | exact HB.out)))); (case aL => have := LMc4.out; omega); intro v118 w5 ho hb hg hat; rw [← Ny117.out] at ho; have n0_ := Aside0.mk (hb); have n1_ := Aside0.mk (Kept.of_grown (S := (fun k_ => P0_ k_)) hg (by repeat (first | (with_reducible first | exact HK.out | apply Kept.alloc | apply Kept.drewN | apply Kept.drew) | exact HK.out)) (fun k_ e_ => (HO_0.out.1 k_ e_))); have n2_ := Aside0.mk (ho); clear HB; clear HK; clear HO_0; have HB := n0_; have HK := n1_; have HO119 := n2_; clear n0_ n1_ n2_; clear ho hb hg hat))
          go_roundg k1
          case measure => have := HK1.out; omega
          case rel => exact ⟨(y117), (x1_1 / 128), (by first | rfl | (simp; done) | (simp [*]; done)), H', ⟨by have := HK1.out; omega⟩, ⟨by (with_reducible repeat (first | apply Kd.R_alloc | apply Kd.R_drewN | apply Kd.R_drew)); exact HO119.out⟩, ⟨by repeat (first | (with_reducible first | exact HK.out | apply Kept.alloc | apply Kept.drewN | apply Kept.drew) | exact HK.out)⟩, ⟨by repeat (first | (with_reducible first | exact HB.out | apply below_alloc | apply pw_below_drewN | apply below_drew1) | exact HB.out)⟩⟩
        · rw [if_neg c4] at H
          exact absurd H (by simp)
      · rw [if_neg c3] at H
        have c3b0 : decide (128 ≤ x1_1) = false := decide_eq_false c3
        clear c3
        by_cases c6 : x0_1.length < 140737488355328
        · rw [if_pos c6] at H
          have LMc6 := Aside0.mk c6
          clear c6
          obtain ⟨y120, hy120⟩ : ∃ y_ : List Int, y_ = (x0_1 ++ [(x1_1) % 256]) := ⟨_, rfl⟩
          replace H : (some y120) = some r := by first | (rw [hy120]; with_reducible exact H) | (have H2_ := (Option.bind_some _ _).symm.trans H; rw [hy120]; with_reducible exact H2_) | (have H2_ := (Option.bind_some _ _).symm.trans H; with_reducible exact H2_) | with_reducible exact H | (rw [hy120]; exact H) | exact H
          have Ny120 := Aside0.mk hy120
          clear hy120
          obtain rfl := Option.some.inj H
          go_wp2_with (first | ((with_reducible refine gate_builtin (b := .append) (xs := #[.tmp 15, .tmp 18]) rfl ?_); at_builtin; refine Kd.R_append (Kd.int .u8) (w0 := w0) w0.heap.size rfl (.tmp 15) (.tmp 18) 22 5 (.int .u8 0) 1 rfl Tryd.underlying22 info5 rfl (by decide) (by omega) u0 x0_1 ((x1_1) % 256) [.int .u8 ((x1_1) % 256)] (fun k_ => (P0_ k_ ∨ w.heap.size ≤ k_)) (fun _ => False) rfl rfl ?aP (fun _ hk => hk.elim) ?aF ?aO ?aB ?aS ?aL ?_; (case aP => exact rfl); (case aB => exact (by repeat (first | (with_reducible first | exact HB.out | apply below_alloc | apply pw_below_drewN | apply below_drew1) | exact HB.out))); (case aF => exact (fun k_ hk => (.inr (Nat.le_trans (by first | exact HK.out.1 | exact (show Kept w _ (fun k_ => P0_ k_) from by repeat (first | (with_reducible first | exact HK.out | apply Kept.alloc | apply Kept.drewN | apply Kept.drew) | exact HK.out)).1) hk)))); (case aO => exact (by (with_reducible repeat (first | apply Kd.R_alloc | apply Kd.R_drewN | apply Kd.R_drew)); exact HO_0.out)); (case aS => exact (below_size (by repeat (first | (with_reducible first | exact HB.out | apply below_alloc | apply pw_below_drewN | apply below_drew1) | exact HB.out)))); (case aL => have := LMc6.out; omega); intro v121 w7 ho hb hg hat; rw [← Ny120.out] at ho; have n0_ := Aside0.mk (hb); have n1_ := Aside0.mk (Kept.of_grown (S := (fun k_ => P0_ k_)) hg (by repeat (first | (with_reducible first | exact HK.out | apply Kept.alloc | apply Kept.drewN | apply Kept.drew) | exact HK.out)) (fun k_ e_ => (HO_0.out.1 k_ e_))); have n2_ := Aside0.mk (ho); clear HB; clear HK; clear HO_0; have HB := n0_; have HK := n1_; have HO122 := n2_; clear n0_ n1_ n2_; clear ho hb hg hat))
          go_ret
          exact ⟨_, by first | rfl | (simp [errW_none, errW_some] <;> rfl) | (simp [*, errW_none, errW_some] <;> rfl), by (with_reducible repeat (first | apply Kd.R_alloc | apply Kd.R_drewN | apply Kd.R_drew)); exact HO122.out, by repeat (first | (with_reducible first | exact HB.out | apply below_alloc | apply pw_below_drewN | apply below_drew1) | exact HB.out), by repeat (first | (with_reducible first | exact HK.out | apply Kept.alloc | apply Kept.drewN | apply Kept.drew) | exact HK.out)⟩
        · rw [if_neg c6] at H
          exact absurd H (by simp)
def codec_twin.f (l0 : List Int) (a1 : Int) : Option (List Int) := if 0 ≤ a1 ∧ l0.length + a1.toNat ≤ 281474976710656 then some l0 else none
set_option maxHeartbeats 400000 in
set_option maxRecDepth 100000 in
theorem codec_twin.calls (A0 : Option Addr) (c0 : Nat) (l0 : List Int) (a1 : Int) (r : List Int) (w : World) (hr0 : Kd.C (Kd.int .u8) w A0 l0.length l0) (hc0 : l0.length ≤ c0) (h : codec_twin.f l0 a1 = some r) :
    Calls Tryd.prog 89 #[.slice A0 l0.length c0, .int .i64 a1] w fun e w' => ∃ v0_ : Value, e = .returned (v0_) ∧ Kd.R (Kd.int .u8) 5 w' w.heap.size (fun _ => True) v0_ r ∧ Below w.heap.size w w' := by
  unfold codec_twin.f at h
  split at h
  · rename_i h12
    obtain ⟨h1, h2⟩ := h12
    obtain rfl := Option.some.inj h
    clear h
    have HR0 := Aside0.mk hr0
    clear hr0
    go_enter Tryd.func89, Tryd.ntmps89
    go_wp2_with (first
      | (at_make; go_must (refine R_make_cap (enc := Value.int .u8) (h1 := fun _ => rfl) (w0 := w) w.heap.size 5 rfl (N := 12) rfl 22 _ _ rfl (l0.length : Int) ((l0.length : Int) + a1) rfl rfl Tryd.underlying22 (0 : Int) 1 info5 rfl (by omega) (ok := fun _ => True) trivial (by omega) (by omega) (by omega) (Below.refl _ _) (Nat.le_refl _) ?_); intro v1 w1 ho hb hg hn; (have HO := Aside0.mk ho); (have HB := Aside0.mk hb); clear ho hb hg hn)
      | ((with_reducible refine gate_builtin (b := .copy) (xs := #[.tmp 13, .tmp 14]) rfl ?_); go_must (refine Kd.R_copy (enc := Value.int .u8) (h1 := fun _ => rfl) (0 : Int) (w0 := w) w.heap.size rfl (.tmp 13) (.tmp 14) 22 22 5 rfl Tryd.underlying22 (by kernel_rfl) v1 (List.replicate (l0.length : Int).toNat 0) l0 A0 l0.length c0 (fun _ => True) rfl rfl HO.out (Kd.C_below HR0.out HB.out) HB.out HB.out.size ?_); intro w2 ho2 hb2 hg2; (have HO2 := Aside0.mk ho2); (have HB2 := Aside0.mk hb2); clear ho2 hb2 hg2))
    go_ret
    refine ⟨v1, rfl, ?_, HB2.out⟩
    have h := HO2.out
    simp only [List.length_replicate, Int.toNat_natCast, Nat.min_self, List.take_length, List.drop_replicate, Nat.sub_self, List.replicate_zero, List.append_nil] at h
    exact h
  · cases h
def codec_PutUint_p.f (k : Nat) (l0 : List Int) (a1 : Int) : Option (List Int) := (codec_twin.f l0 10).bind fun t123 => ((codec_number.f k t123 a1).bind fun t126 => (some t126))
theorem codec_PutUint_p.mono : ∀ a0 a1 k, LeO (codec_PutUint_p.f k a0 a1) (codec_PutUint_p.f (k + 1) a0 a1) := by
  intro a0 a1 k
  unfold codec_PutUint_p.f
  repeat' first
      | (with_reducible exact codec_number.mono _ _ _)
      | (with_reducible exact LeO.refl _)
      | (with_reducible exact LeO.none _)
      | (with_reducible refine LeO.ite ?_ ?_)
      | (with_reducible refine LeO.bind ?_ (fun _ => ?_))
      | exact codec_number.mono _ _ _
      | exact LeO.none _
      | refine LeO.ite ?_ ?_
      | refine LeO.bind ?_ (fun _ => ?_)
set_option maxHeartbeats 8000000 in
set_option maxRecDepth 100000 in
theorem codec_PutUint_p.calls (k : Nat) (A0 : Option Addr) (c0 : Nat) (l0 : List Int) (a1 : Int) (r : List Int) (w : World) (hr0 : Kd.C (Kd.int .u8) w A0 l0.length l0) (hc0 : l0.length ≤ c0) (h : codec_PutUint_p.f k l0 a1 = some r) :
    Calls Tryd.prog 74 #[.slice A0 l0.length c0, .int .u64 a1] w fun e w' => ∃ v0_ : Value, e = .returned (v0_) ∧ Kd.R (Kd.int .u8) 5 w' w.heap.size (fun _ => True) v0_ r ∧ Below w.heap.size w w' := by
  have HR0 := Aside0.mk hr0
  have HC0 := Aside0.mk hc0
  clear hr0 hc0
  have HB := Aside0.mk (Below.refl w.heap.size w)
  have H : ((codec_twin.f l0 10).bind fun t123 => ((codec_number.f k t123 a1).bind fun t126 => (some t126))) = some r := h
  clear h
  replace H := Option.bind_eq_some_iff.mp H
  obtain ⟨t123, A30, H⟩ := H
  replace H : ((codec_number.f k t123 a1).bind fun t126 => (some t126)) = some r := H
  have A3 := Aside0.mk A30
  clear A30
  replace H := Option.bind_eq_some_iff.mp H
  obtain ⟨t126, A40, H⟩ := H
  replace H : (some t126) = some r := H
  have A4 := Aside0.mk A40
  clear A40
  obtain rfl := Option.some.inj H
  go_enter Tryd.func74, Tryd.ntmps74
  go_wp2_with (first | ((with_reducible refine gate_callee (f := 89) rfl ?_); refine goesL_ (some 6) rfl rfl Tryd.func89 (by kernel_rfl) rfl #[.slice A0 l0.length c0, .int .i64 10] rfl (by (try simp only [List.map_toArray, List.map_cons, List.map_nil]); first | done | rfl | (simp only [List.length_drop, List.length_take]; rfl)) ?_; (with_reducible refine (codec_twin.calls _ _ l0 10 t123 _ ?side1 ?side2 A3.out).mono ?_); (case side1 => repeat (first | exact HR0.out | (with_reducible refine Kd.C_alloc ?_ _) | (with_reducible refine Kd.C_drewN ?_ _) | (with_reducible refine Kd.C_drew ?_))); (case side2 => exact HC0.out); rintro e w5 ⟨v124, rfl, ho0, hb⟩; refine ⟨_, rfl, ?_⟩; have n0_ := Aside0.mk (Kd.R_lower ho0 (below_size (by repeat (first | (with_reducible first | exact HB.out | apply below_alloc | apply pw_below_drewN | apply below_drew1) | exact HB.out)))); have n1_ := Aside0.mk (below_step (by repeat (first | (with_reducible first | exact HB.out | apply below_alloc | apply pw_below_drewN | apply below_drew1) | exact HB.out)) hb); clear HB; have HO125 := n0_; have HB := n1_; clear n0_ n1_; (try clear hb); (try clear hb2); (try clear hk); (try clear hi); (try clear ho0); obtain ⟨Ao6, co6, eo6⟩ := Kd.R_slice HO125.out; subst eo6) | ((with_reducible refine gate_callee (f := 88) rfl ?_); refine goesL_ (some 8) rfl rfl Tryd.func88 (by kernel_rfl) rfl #[.slice Ao6 t123.length co6, .int .u64 a1] rfl (by (try simp only [List.map_toArray, List.map_cons, List.map_nil]); first | done | rfl | (simp only [List.length_drop, List.length_take]; rfl)) ?_; (with_reducible refine (codec_number.calls k (fun k_ => some k_ = (.slice Ao6 t123.length co6 : Value).ownBlock) (.slice Ao6 t123.length co6) t123 a1 t126 w _ ?side1 ?side2 A4.out).mono ?_); (case side1 => repeat (first | (with_reducible first | exact HB.out | apply below_alloc | apply pw_below_drewN | apply below_drew1) | exact HB.out)); (case side2 => exact Kd.R_tight rfl HO125.out); rintro e w7 ⟨v127, rfl, ho0, hb, hkp⟩; refine ⟨_, rfl, ?_⟩; have n0_ := Aside0.mk (Kd.R_mono (ok' := fun k_ => True) ho0 (fun k_ hk_ => trivial)); have n1_ := Aside0.mk (hb); clear HB; clear HO125; have HO128 := n0_; have HB := n1_; clear n0_ n1_; (try clear hb); (try clear hkp); (try clear ho0)))
  go_ret
  exact ⟨_, by first | rfl | (simp [errW_none, errW_some] <;> rfl) | (simp [*, errW_none, errW_some] <;> rfl), by (with_reducible repeat (first | apply Kd.R_alloc | apply Kd.R_drewN | apply Kd.R_drew)); exact HO128.out, by repeat (first | (with_reducible first | exact HB.out | apply below_alloc | apply pw_below_drewN | apply below_drew1) | exact HB.out)⟩
theorem codec_number_ev (n : Nat) : ∀ l : List Int, n < 18446744073709551616 → l.length + (numL n).length ≤ 140737488355328 → Ev (fun k => codec_number.l0 k l (n : Int)) (l ++ numL n) := by
  induction n using Nat.strongRecOn with
  | _ n ih =>
    intro l hn hl
    by_cases h : n < 128
    · rw [numL_small h] at hl ⊢
      refine Ev.step (f := fun _ => some (l ++ [(n : Int)])) (fun k => ?_) (Ev.now _)
      simp only [codec_number.l0]
      rw [if_neg (by omega), if_pos (by simp at hl; omega), show (n : Int) % 256 = n by omega]
    · rw [numL_big h] at hl ⊢
      simp only [List.length_cons] at hl
      have h2 := ih (n / 128) (by omega) (l ++ [((n % 128 + 128 : Nat) : Int)]) (by omega) (by simp; omega)
      rw [List.append_assoc] at h2
      refine Ev.step (fun k => ?_) h2
      simp only [codec_number.l0]
      rw [if_pos (by omega), if_pos (by omega), own_or128 _ (by omega)]
      rfl
def codec_PutUint.f (l0 : List Int) (a1 : Int) : Option (List Int) := if 0 ≤ a1 ∧ a1 < 18446744073709551616 ∧ l0.length ≤ 140737488355000 then some (l0 ++ numL a1.toNat) else none
theorem codec_PutUint.calls (A0 : Option Addr) (c0 : Nat) (l0 : List Int) (a1 : Int) (r : List Int) (w : World) (hr0 : Kd.C (Kd.int .u8) w A0 l0.length l0) (hc0 : l0.length ≤ c0) (h : codec_PutUint.f l0 a1 = some r) :
    Calls Tryd.prog 74 #[.slice A0 l0.length c0, .int .u64 a1] w fun e w' => ∃ v0_ : Value, e = .returned (v0_) ∧ Kd.R (Kd.int .u8) 5 w' w.heap.size (fun _ => True) v0_ r ∧ Below w.heap.size w w' := by
  unfold codec_PutUint.f at h
  split at h
  · rename_i hh
    obtain ⟨n, rfl⟩ := Int.eq_ofNat_of_zero_le hh.1
    have h10 := numL_len10 (n := n) (by omega)
    obtain ⟨k, hk⟩ := (codec_number_ev n l0 (by omega) (by omega)).rounds
    refine codec_PutUint_p.calls k A0 c0 l0 _ r w hr0 hc0 ?_
    unfold codec_PutUint_p.f codec_twin.f codec_number.f
    rw [if_pos (by omega)]
    simp only [Option.bind_some]
    rw [hk]
    exact h
  · cases h
def codec_PutText_p.f (k : Nat) (l0 : List Int) (a1 : ByteArray) : Option (List Int) := (codec_twin.f l0 (wrap64 (10 + (a1.size : Int)))).bind fun t129 => ((codec_number.f k t129 (IntKind.u64.wrap ((a1.size : Int)))).bind fun t132 => (if t132.length + a1.size < 140737488355328 then (some (t132 ++ bytesOf a1)) else (none)))
theorem codec_PutText_p.mono : ∀ a0 a1 k, LeO (codec_PutText_p.f k a0 a1) (codec_PutText_p.f (k + 1) a0 a1) := by
  intro a0 a1 k
  unfold codec_PutText_p.f
  repeat' first
      | (with_reducible exact codec_number.mono _ _ _)
      | (with_reducible exact LeO.refl _)
      | (with_reducible exact LeO.none _)
      | (with_reducible refine LeO.ite ?_ ?_)
      | (with_reducible refine LeO.bind ?_ (fun _ => ?_))
      | exact codec_number.mono _ _ _
      | exact LeO.none _
      | refine LeO.ite ?_ ?_
      | refine LeO.bind ?_ (fun _ => ?_)
set_option maxHeartbeats 8000000 in
set_option maxRecDepth 100000 in
theorem codec_PutText_p.calls (k : Nat) (A0 : Option Addr) (c0 : Nat) (l0 : List Int) (a1 : ByteArray) (r : List Int) (w : World) (hr0 : Kd.C (Kd.int .u8) w A0 l0.length l0) (hc0 : l0.length ≤ c0) (h : codec_PutText_p.f k l0 a1 = some r) :
    Calls Tryd.prog 75 #[.slice A0 l0.length c0, .string a1] w fun e w' => ∃ v0_ : Value, e = .returned (v0_) ∧ Kd.R (Kd.int .u8) 5 w' w.heap.size (fun _ => True) v0_ r ∧ Below w.heap.size w w' := by
  have HR0 := Aside0.mk hr0
  have HC0 := Aside0.mk hc0
  clear hr0 hc0
  have HB := Aside0.mk (Below.refl w.heap.size w)
  have H : ((codec_twin.f l0 (wrap64 (10 + (a1.size : Int)))).bind fun t129 => ((codec_number.f k t129 (IntKind.u64.wrap ((a1.size : Int)))).bind fun t132 => (if t132.length + a1.size < 140737488355328 then (some (t132 ++ bytesOf a1)) else (none)))) = some r := h
  clear h
  replace H := Option.bind_eq_some_iff.mp H
  obtain ⟨t129, A30, H⟩ := H
  replace H : ((codec_number.f k t129 (IntKind.u64.wrap ((a1.size : Int)))).bind fun t132 => (if t132.length + a1.size < 140737488355328 then (some (t132 ++ bytesOf a1)) else (none))) = some r := H
  have A3 := Aside0.mk A30
  clear A30
  replace H := Option.bind_eq_some_iff.mp H
  obtain ⟨t132, A40, H⟩ := H
  replace H : (if t132.length + a1.size < 140737488355328 then (some (t132 ++ bytesOf a1)) else (none)) = some r := H
  have A4 := Aside0.mk A40
  clear A40
  by_cases c5 : t132.length + a1.size < 140737488355328
  · rw [if_pos c5] at H
    have LMc5 := Aside0.mk c5
    clear c5
    obtain ⟨y135, hy135⟩ : ∃ y_ : List Int, y_ = (t132 ++ bytesOf a1) := ⟨_, rfl⟩
    replace H : (some y135) = some r := by first | (rw [hy135]; with_reducible exact H) | (have H2_ := (Option.bind_some _ _).symm.trans H; rw [hy135]; with_reducible exact H2_) | (have H2_ := (Option.bind_some _ _).symm.trans H; with_reducible exact H2_) | with_reducible exact H | (rw [hy135]; exact H) | exact H
    have Ny135 := Aside0.mk hy135
    clear hy135
    obtain rfl := Option.some.inj H
    go_enter Tryd.func75, Tryd.ntmps75
    go_wp2_with (first | ((with_reducible refine gate_callee (f := 89) rfl ?_); refine goesL_ (some 9) rfl rfl Tryd.func89 (by kernel_rfl) rfl #[.slice A0 l0.length c0, .int .i64 (wrap64 (10 + (a1.size : Int)))] rfl (by (try simp only [List.map_toArray, List.map_cons, List.map_nil]); first | done | rfl | (simp only [List.length_drop, List.length_take]; rfl)) ?_; (with_reducible refine (codec_twin.calls _ _ l0 (wrap64 (10 + (a1.size : Int))) t129 _ ?side1 ?side2 A3.out).mono ?_); (case side1 => repeat (first | exact HR0.out | (with_reducible refine Kd.C_alloc ?_ _) | (with_reducible refine Kd.C_drewN ?_ _) | (with_reducible refine Kd.C_drew ?_))); (case side2 => exact HC0.out); rintro e w6 ⟨v130, rfl, ho0, hb⟩; refine ⟨_, rfl, ?_⟩; have n0_ := Aside0.mk (Kd.R_lower ho0 (below_size (by repeat (first | (with_reducible first | exact HB.out | apply below_alloc | apply pw_below_drewN | apply below_drew1) | exact HB.out)))); have n1_ := Aside0.mk (below_step (by repeat (first | (with_reducible first | exact HB.out | apply below_alloc | apply pw_below_drewN | apply below_drew1) | exact HB.out)) hb); clear HB; have HO131 := n0_; have HB := n1_; clear n0_ n1_; (try clear hb); (try clear hb2); (try clear hk); (try clear hi); (try clear ho0); obtain ⟨Ao7, co7, eo7⟩ := Kd.R_slice HO131.out; subst eo7) | ((with_reducible refine gate_callee (f := 88) rfl ?_); refine goesL_ (some 13) rfl rfl Tryd.func88 (by kernel_rfl) rfl #[.slice Ao7 t129.length co7, .int .u64 (IntKind.u64.wrap ((a1.size : Int)))] rfl (by (try simp only [List.map_toArray, List.map_cons, List.map_nil]); first | done | rfl | (simp only [List.length_drop, List.length_take]; rfl)) ?_; (with_reducible refine (codec_number.calls k (fun k_ => some k_ = (.slice Ao7 t129.length co7 : Value).ownBlock) (.slice Ao7 t129.length co7) t129 (IntKind.u64.wrap ((a1.size : Int))) t132 w _ ?side1 ?side2 A4.out).mono ?_); (case side1 => repeat (first | (with_reducible first | exact HB.out | apply below_alloc | apply pw_below_drewN | apply below_drew1) | exact HB.out)); (case side2 => exact Kd.R_tight rfl HO131.out); rintro e w8 ⟨v133, rfl, ho0, hb, hkp⟩; refine ⟨_, rfl, ?_⟩; have n0_ := Aside0.mk (Kd.R_mono (ok' := fun k_ => True) ho0 (fun k_ hk_ => trivial)); have n1_ := Aside0.mk (hb); clear HB; clear HO131; have HO134 := n0_; have HB := n1_; clear n0_ n1_; (try clear hb); (try clear hkp); (try clear ho0)) | (at_builtin; refine print_append_str (w0 := w) w.heap.size rfl (.tmp 13) _ 22 9 5 rfl Tryd.underlying22 Tryd.underlying9 info5 v133 t132 a1 rfl rfl ?aO ?aB ?aS ?aL ?_; (case aB => exact (by repeat (first | (with_reducible first | exact HB.out | apply below_alloc | apply pw_below_drewN | apply below_drew1) | exact HB.out))); (case aO => exact (Kd.own_of_R (by (with_reducible repeat (first | apply Kd.R_alloc | apply Kd.R_drewN | apply Kd.R_drew)); exact HO134.out))); (case aS => exact (below_size (by repeat (first | (with_reducible first | exact HB.out | apply below_alloc | apply pw_below_drewN | apply below_drew1) | exact HB.out)))); (case aL => have := LMc5.out; omega); intro v136 w9 ho0 hb hg; have ho := Kd.R_of_own (h1 := fun _ => rfl) (ok := fun _ => True) ho0 (fun _ _ => trivial); clear ho0; have hat := True.intro; rw [← Ny135.out] at ho; change Kd.R (Kd.int .u8) 5 w9 w.heap.size (fun _ => True) v136 y135 at ho; have n0_ := Aside0.mk (hb); have n1_ := Aside0.mk (ho); clear HB; clear HO134; have HB := n0_; have HO137 := n1_; clear n0_ n1_; clear ho hb hg hat))
    go_ret
    exact ⟨_, by first | rfl | (simp [errW_none, errW_some] <;> rfl) | (simp [*, errW_none, errW_some] <;> rfl), by (with_reducible repeat (first | apply Kd.R_alloc | apply Kd.R_drewN | apply Kd.R_drew)); exact HO137.out, by repeat (first | (with_reducible first | exact HB.out | apply below_alloc | apply pw_below_drewN | apply below_drew1) | exact HB.out)⟩
  · rw [if_neg c5] at H
    exact absurd H (by simp)
def codec_PutText.f (l0 : List Int) (a1 : ByteArray) : Option (List Int) := if l0.length + a1.size ≤ 140737488355000 then some (l0 ++ (numL a1.size ++ bytesOf a1)) else none
theorem codec_PutText.calls (A0 : Option Addr) (c0 : Nat) (l0 : List Int) (a1 : ByteArray) (r : List Int) (w : World) (hr0 : Kd.C (Kd.int .u8) w A0 l0.length l0) (hc0 : l0.length ≤ c0) (h : codec_PutText.f l0 a1 = some r) :
    Calls Tryd.prog 75 #[.slice A0 l0.length c0, .string a1] w fun e w' => ∃ v0_ : Value, e = .returned (v0_) ∧ Kd.R (Kd.int .u8) 5 w' w.heap.size (fun _ => True) v0_ r ∧ Below w.heap.size w w' := by
  unfold codec_PutText.f at h
  split at h
  · rename_i hh
    have h10 := numL_len10 (n := a1.size) (by omega)
    obtain ⟨k, hk⟩ := (codec_number_ev a1.size l0 (by omega) (by omega)).rounds
    refine codec_PutText_p.calls k A0 c0 l0 a1 r w hr0 hc0 ?_
    unfold codec_PutText_p.f codec_twin.f codec_number.f
    have hw : wrap64 (10 + (a1.size : Int)) = 10 + (a1.size : Int) := by unfold wrap64; omega
    have hu : IntKind.u64.wrap (a1.size : Int) = (a1.size : Int) := u64_nat (by omega)
    rw [hw, hu, if_pos (by omega)]
    simp only [Option.bind_some]
    rw [hk]
    simp only [Option.bind_some]
    rw [if_pos (by simp; omega), ← h, List.append_assoc]
  · cases h
def bytes_Equal.f (l0 : List Int) (l1 : List Int) : Option (Bool) := some ((strOfNums l0).toList == (strOfNums l1).toList)
set_option maxHeartbeats 8000000 in
set_option maxRecDepth 100000 in
theorem bytes_Equal.calls (A0 : Option Addr) (c0 : Nat) (l0 : List Int) (A1 : Option Addr) (c1 : Nat) (l1 : List Int) (r : Bool) (w : World) (hr0 : Kd.C (Kd.int .u8) w A0 l0.length l0) (hc0 : l0.length ≤ c0) (hr1 : Kd.C (Kd.int .u8) w A1 l1.length l1) (hc1 : l1.length ≤ c1) (h : bytes_Equal.f l0 l1 = some r) :
    Calls Tryd.prog 42 #[.slice A0 l0.length c0, .slice A1 l1.length c1] w fun e w' => e = .returned (.bool r) ∧ Drawn0 w w' := by
  have HR0 := Aside0.mk hr0
  have HC0 := Aside0.mk hc0
  clear hr0 hc0
  have HR1 := Aside0.mk hr1
  have HC1 := Aside0.mk hc1
  clear hr1 hc1
  have H : (some ((strOfNums l0).toList == (strOfNums l1).toList)) = some r := h
  clear h
  obtain rfl := Option.some.inj H
  have hcv3 := Kd.C_string (P := Tryd.prog) (A := A0) (c := c0) Tryd.underlying22 Tryd.underlying5 Tryd.underlying9 HR0.out
  have hcv4 := Kd.C_string (P := Tryd.prog) (A := A1) (c := c1) Tryd.underlying22 Tryd.underlying5 Tryd.underlying9 HR1.out
  go_enter Tryd.func42, Tryd.ntmps42
  go_wp2
  go_ret
  exact ⟨by first | rfl | (simp; done) | (simp [*]; done), by repeat (first | exact Drawn0.refl _ | apply Drawn0.step)⟩
def block_Maker_Size.f (s0_0 : Int) (s0_1 : List Int) (s0_2 : List Int) (s0_3 : Int) (s0_4 : ByteArray) : Option (Int × Int × Int × ByteArray) := some (wrap64 ((wrap64 ((s0_1.length : Int) + (wrap64 (4 * (s0_2.length : Int))))) + 8), s0_0, s0_3, s0_4)
def block_four.f (l0 : List Int) (a1 : Int) : Option (List Int) := (some (([(a1) % 256, (a1 / 256) % 256, (a1 / 65536) % 256, (a1 / 16777216) % 256] : List Int) : List Int)).bind fun y140 => (if l0.length + y140.length < 140737488355328 then (some (l0 ++ y140)) else (none))
set_option maxHeartbeats 8000000 in
set_option maxRecDepth 100000 in
theorem block_four.calls (P0_ : Nat → Prop) (u9000_ : Value) (l0 : List Int) (a1 : Int) (r : List Int) (w0 w : World) (hB : Below w0.heap.size w0 w) (ho0 : Kd.R (Kd.int .u8) 5 w w0.heap.size P0_ u9000_ l0) (h : block_four.f l0 a1 = some r) :
    Calls Tryd.prog 76 #[u9000_, .int .u32 a1] w fun e w' => ∃ v0_ : Value, e = .returned (v0_) ∧ Kd.R (Kd.int .u8) 5 w' w0.heap.size (fun k_ => (P0_ k_ ∨ w.heap.size ≤ k_)) v0_ r ∧ Below w0.heap.size w0 w' ∧ Kept w w' (fun k_ => P0_ k_) := by
  have HO0 := Aside0.mk (show Kd.R (Kd.int .u8) 5 w w0.heap.size (fun k_ => (P0_ k_ ∨ w.heap.size ≤ k_)) u9000_ l0 from Kd.R_mono ho0 (fun k_ hk => (.inl hk)))
  have HK := Aside0.mk (Kept.refl w (fun k_ => P0_ k_))
  have HW0 := Aside0.mk hB.size
  have HB := Aside0.mk hB
  clear hB
  have H : ((some (([(a1) % 256, (a1 / 256) % 256, (a1 / 65536) % 256, (a1 / 16777216) % 256] : List Int) : List Int)).bind fun y140 => (if l0.length + y140.length < 140737488355328 then (some (l0 ++ y140)) else (none))) = some r := h
  clear h
  obtain ⟨y140, hy140⟩ : ∃ y_ : List Int, y_ = (([(a1) % 256, (a1 / 256) % 256, (a1 / 65536) % 256, (a1 / 16777216) % 256] : List Int)) := ⟨_, rfl⟩
  replace H : (if l0.length + y140.length < 140737488355328 then (some (l0 ++ y140)) else (none)) = some r := by first | (rw [hy140]; with_reducible exact H) | (have H2_ := (Option.bind_some _ _).symm.trans H; rw [hy140]; with_reducible exact H2_) | (have H2_ := (Option.bind_some _ _).symm.trans H; with_reducible exact H2_) | with_reducible exact H | (rw [hy140]; exact H) | exact H
  have Ny140 := Aside0.mk hy140
  clear hy140
  by_cases c3 : l0.length + y140.length < 140737488355328
  · rw [if_pos c3] at H
    have LMc3 := Aside0.mk c3
    clear c3
    obtain ⟨y143, hy143⟩ : ∃ y_ : List Int, y_ = (l0 ++ y140) := ⟨_, rfl⟩
    replace H : (some y143) = some r := by first | (rw [hy143]; with_reducible exact H) | (have H2_ := (Option.bind_some _ _).symm.trans H; rw [hy143]; with_reducible exact H2_) | (have H2_ := (Option.bind_some _ _).symm.trans H; with_reducible exact H2_) | with_reducible exact H | (rw [hy143]; exact H) | exact H
    have Ny143 := Aside0.mk hy143
    clear hy143
    obtain rfl := Option.some.inj H
    go_enter Tryd.func76, Tryd.ntmps76
    go_wp2_with (first | ((with_reducible refine gate_dst (N := 17) rfl ?_); refine Kd.R_lit (Kd.int .u8) _ 5 ?hg (N := 17) ?hd (xs := ([(a1) % 256, (a1 / 256) % 256, (a1 / 65536) % 256, (a1 / 16777216) % 256] : List Int)) (inner := [.int .u8 ((a1) % 256), .int .u8 ((a1 / 256) % 256), .int .u8 ((a1 / 65536) % 256), .int .u8 ((a1 / 16777216) % 256)]) (ok := fun _ => True) (okp := fun _ => True) ?hr ?hp (fun _ hk => hk) trivial (Below.refl _ _) (Nat.le_refl _) (by simp) ?_; (case hd => rfl); (case hg => rfl); (case hr => first | (go_simp; done) | (go_simp; rfl)); (case hp => exact (Reps.one (show Kd.M (Kd.int .u8) _ _ _ ((a1) % 256) [.int .u8 ((a1) % 256)] from rfl) (Reps.one (show Kd.M (Kd.int .u8) _ _ _ ((a1 / 256) % 256) [.int .u8 ((a1 / 256) % 256)] from rfl) (Reps.one (show Kd.M (Kd.int .u8) _ _ _ ((a1 / 65536) % 256) [.int .u8 ((a1 / 65536) % 256)] from rfl) (Reps.one (show Kd.M (Kd.int .u8) _ _ _ ((a1 / 16777216) % 256) [.int .u8 ((a1 / 16777216) % 256)] from rfl) (Reps.none _ _)))))); intro v141 w4 ho5 hb hg_ hnew_; clear hg_ hnew_; (first | rw [← Ny140.out] at ho5 | (simp only [Int.reduceToNat] at ho5; rw [← Ny140.out] at ho5)); have n0_ := Aside0.mk (Kd.R_elder' (by (with_reducible repeat (first | apply Kd.R_alloc | apply Kd.R_drewN | apply Kd.R_drew)); exact HO0.out) (Kd.R_base ho5) hb); have n1_ := Aside0.mk (Kd.R_lower (Kd.R_new' (Kd.R_newM (M := fun k_ => (P0_ k_ ∨ w.heap.size ≤ k_)) ho5 (by first | exact HK.out.1 | exact (show Kept w _ (fun k_ => P0_ k_) from by repeat (first | (with_reducible first | exact HK.out | apply Kept.alloc | apply Kept.drewN | apply Kept.drew) | exact HK.out)).1) (fun k_ h_ => .inr h_)) (Kd.R_lt (by (with_reducible repeat (first | apply Kd.R_alloc | apply Kd.R_drewN | apply Kd.R_drew)); exact HO0.out))) (below_size (by repeat (first | (with_reducible first | exact HB.out | apply below_alloc | apply pw_below_drewN | apply below_drew1) | exact HB.out)))); have n2_ := Aside0.mk (Kept.below (S := (fun k_ => P0_ k_)) (by repeat (first | (with_reducible first | exact HK.out | apply Kept.alloc | apply Kept.drewN | apply Kept.drew) | exact HK.out)) hb); have n3_ := Aside0.mk (below_step (by repeat (first | (with_reducible first | exact HB.out | apply below_alloc | apply pw_below_drewN | apply below_drew1) | exact HB.out)) hb); clear HO0; clear HK; clear HB; have HO0 := n0_; have HO142 := n1_; have HK := n2_; have HB := n3_; clear n0_ n1_ n2_ n3_; clear hb ho5; obtain ⟨Ao7, co7, eo7⟩ := Kd.R_slice HO142.out; subst eo7) | ((with_reducible refine gate_builtin (b := .append) (xs := #[.tmp 5, .tmp 17]) rfl ?_); at_builtin; refine Kd.R_append_rows (Kd.int .u8) (w0 := w0) w0.heap.size rfl (.tmp 5) (.tmp 17) 22 5 (.int .u8 0) 1 rfl Tryd.underlying22 info5 rfl (by decide) (by omega) u9000_ l0 y140 _ _ _ (fun k_ => (P0_ k_ ∨ w.heap.size ≤ k_) ∧ some k_ ≠ (.slice Ao7 y140.length co7 : Value).ownBlock) (fun _ => False) rfl rfl ?aO ?aR (fun _ _ h => h) (fun _ h => h.elim) ?aF ?aB ?aS ?aL ?_; (case aR => repeat (first | exact (Kd.R_reads' HO142.out).2.2 | (with_reducible refine Kd.C_alloc ?_ _) | (with_reducible refine Kd.C_drewN ?_ _) | (with_reducible refine Kd.C_drew ?_))); (case aB => exact (by repeat (first | (with_reducible first | exact HB.out | apply below_alloc | apply pw_below_drewN | apply below_drew1) | exact HB.out))); (case aF => exact (fun k_ hk => ⟨(.inr (Nat.le_trans (by first | exact HK.out.1 | exact (show Kept w _ (fun k_ => P0_ k_) from by repeat (first | (with_reducible first | exact HK.out | apply Kept.alloc | apply Kept.drewN | apply Kept.drew) | exact HK.out)).1) hk)), Kd.fresh' (Kd.R_lt (by (with_reducible repeat (first | apply Kd.R_alloc | apply Kd.R_drewN | apply Kd.R_drew)); exact HO142.out)) k_ hk⟩)); (case aO => exact (by (with_reducible repeat (first | apply Kd.R_alloc | apply Kd.R_drewN | apply Kd.R_drew)); exact HO0.out)); (case aS => exact (below_size (by repeat (first | (with_reducible first | exact HB.out | apply below_alloc | apply pw_below_drewN | apply below_drew1) | exact HB.out)))); (case aL => have := LMc3.out; omega); intro v144 w6 ho hb hg hat; rw [← Ny143.out] at ho; have n0_ := Aside0.mk (Kd.R_after (ok := (fun k_ => (P0_ k_ ∨ w.heap.size ≤ k_))) (by (with_reducible repeat (first | apply Kd.R_alloc | apply Kd.R_drewN | apply Kd.R_drew)); exact Kd.R_mono HO142.out (fun _ hk => ⟨hk.1.1, hk.2⟩)) hg hat); have n1_ := Aside0.mk (hb); have n2_ := Aside0.mk (Kept.of_grown (S := (fun k_ => P0_ k_)) hg (by repeat (first | (with_reducible first | exact HK.out | apply Kept.alloc | apply Kept.drewN | apply Kept.drew) | exact HK.out)) (fun k_ e_ => (HO0.out.1 k_ e_).1)); have n3_ := Aside0.mk (ho); clear HO142; clear HB; clear HK; clear HO0; have HO142 := n0_; have HB := n1_; have HK := n2_; have HO145 := n3_; clear n0_ n1_ n2_ n3_; clear ho hb hg hat))
    go_ret
    exact ⟨_, by first | rfl | (simp [errW_none, errW_some] <;> rfl) | (simp [*, errW_none, errW_some] <;> rfl), by (with_reducible repeat (first | apply Kd.R_alloc | apply Kd.R_drewN | apply Kd.R_drew)); exact Kd.R_mono HO145.out (fun _ hk => hk.1), by repeat (first | (with_reducible first | exact HB.out | apply below_alloc | apply pw_below_drewN | apply below_drew1) | exact HB.out), by repeat (first | (with_reducible first | exact HK.out | apply Kept.alloc | apply Kept.drewN | apply Kept.drew) | exact HK.out)⟩
  · rw [if_neg c3] at H
    exact absurd H (by simp)
open Go.Proofs.YtaonjmkfbfhanaaDoor.G
def codec_Sum.f (l0 : List Int) : Option Int := if okB l0 = true then some (sumF l0) else none
theorem codec_Sum.calls (A0 : Option Addr) (c0 : Nat) (l0 : List Int) (r : Int) (w : World) (hr0 : Kd.C (Kd.int .u8) w A0 l0.length l0) (hc0 : l0.length ≤ c0) (h : codec_Sum.f l0 = some r) (hT_ : GT w) :
    Calls Tryd.prog 77 #[.slice A0 l0.length c0] w fun e w' => e = .returned (.int .u32 r) ∧ w' = w := by
  unfold codec_Sum.f at h
  split at h
  · rename_i hh
    rw [← Option.some.inj h]
    exact Go.Proofs.YtaonjmkfbfhanaaDoor.G.sum_calls A0 c0 l0 w hr0 hc0 (okB_iff.1 hh) hT_
  · cases h
def screeref1_Check.f (a0 : ByteArray) : Option (Int) := if (a0.size : Int) = 0 then (some 10) else (if (a0.size : Int) > 64 then (some 11) else (some 0))
set_option maxHeartbeats 8000000 in
set_option maxRecDepth 100000 in
theorem screeref1_Check.calls (a0 : ByteArray) (r : Int) (w : World) (h : screeref1_Check.f a0 = some r) :
    Calls Tryd.prog 83 #[.string a0] w fun e w' => e = .returned (.int .i64 r) ∧ Drawn0 w w' := by
  have H : (if (a0.size : Int) = 0 then (some 10) else (if (a0.size : Int) > 64 then (some 11) else (some 0))) = some r := h
  clear h
  by_cases c2 : (a0.size : Int) = 0
  · rw [if_pos c2] at H
    have c2b0 : ((a0.size : Int) == 0) = true := beq_iff_eq.mpr c2
    have c2b1 : ((a0.size : Int) != 0) = false := bne_eq_false_iff_eq.mpr c2
    clear c2
    obtain rfl := Option.some.inj H
    go_enter Tryd.func83, Tryd.ntmps83
    go_wp2
    go_ret
    exact ⟨by first | rfl | (simp; done) | (simp [*]; done), by repeat (first | exact Drawn0.refl _ | apply Drawn0.step)⟩
  · rw [if_neg c2] at H
    have c2b0 : ((a0.size : Int) == 0) = false := beq_eq_false_iff_ne.mpr c2
    have c2b1 : ((a0.size : Int) != 0) = true := bne_iff_ne.mpr c2
    by_cases c3 : (a0.size : Int) > 64
    · rw [if_pos c3] at H
      have c3b0 : decide (64 < (a0.size : Int)) = true := decide_eq_true c3
      have c3b1 : decide (64 < a0.size) = true := decide_eq_true (by omega)
      clear c3
      obtain rfl := Option.some.inj H
      go_enter Tryd.func83, Tryd.ntmps83
      go_wp2
      go_ret
      exact ⟨by first | rfl | (simp; done) | (simp [*]; done), by repeat (first | exact Drawn0.refl _ | apply Drawn0.step)⟩
    · rw [if_neg c3] at H
      have c3b0 : decide (64 < (a0.size : Int)) = false := decide_eq_false c3
      have c3b1 : decide (64 < a0.size) = false := decide_eq_false (by omega)
      clear c3
      obtain rfl := Option.some.inj H
      go_enter Tryd.func83, Tryd.ntmps83
      go_wp2
      go_ret
      exact ⟨by first | rfl | (simp; done) | (simp [*]; done), by repeat (first | exact Drawn0.refl _ | apply Drawn0.step)⟩
def screeref1_CheckBatch.l0 : Nat → List (S112) → Int → Option (Int)
  | 0, _, _ => none
  | k + 1, x0, x3 => if x3 < (x0.length : Int) then (if 0 ≤ x3 then ((screeref1_Check.f ((rd_T112 x0 x3).f0)).bind fun t154 => (if t154 = 0 then (if ((rd_T112 x0 x3).f1 = true) then (screeref1_CheckBatch.l0 k x0 (wrap64 (x3 + 1))) else (if (((rd_T112 x0 x3).f2).size : Int) > 512 then (some 12) else (screeref1_CheckBatch.l0 k x0 (wrap64 (x3 + 1))))) else (some t154))) else (none)) else (some 0)
def screeref1_CheckBatch.f (k : Nat) (l0 : List (S112)) : Option (Int) := if (l0.length : Int) > 16 then (some 13) else (screeref1_CheckBatch.l0 k l0 0)
theorem screeref1_CheckBatch.mono_l : ∀ k, (∀ y0 y1, LeO (screeref1_CheckBatch.l0 k y0 y1) (screeref1_CheckBatch.l0 (k + 1) y0 y1))
  | 0 => fun _ _ r h => by simp [screeref1_CheckBatch.l0] at h
  | k + 1 => by
    have ih0 := screeref1_CheckBatch.mono_l k
    · intro y0 y1
      unfold screeref1_CheckBatch.l0
      repeat' first
      | (with_reducible exact ih0 _ _)
      | (with_reducible exact LeO.refl _)
      | (with_reducible exact LeO.none _)
      | (with_reducible refine LeO.ite ?_ ?_)
      | (with_reducible refine LeO.bind ?_ (fun _ => ?_))
      | exact ih0 _ _
      | exact LeO.none _
      | refine LeO.ite ?_ ?_
      | refine LeO.bind ?_ (fun _ => ?_)
theorem screeref1_CheckBatch.mono : ∀ a0 k, LeO (screeref1_CheckBatch.f k a0) (screeref1_CheckBatch.f (k + 1) a0) := by
  intro a0 k
  have ih0 := screeref1_CheckBatch.mono_l k
  unfold screeref1_CheckBatch.f
  repeat' first
      | (with_reducible exact ih0 _ _)
      | (with_reducible exact LeO.refl _)
      | (with_reducible exact LeO.none _)
      | (with_reducible refine LeO.ite ?_ ?_)
      | (with_reducible refine LeO.bind ?_ (fun _ => ?_))
      | exact ih0 _ _
      | exact LeO.none _
      | refine LeO.ite ?_ ?_
      | refine LeO.bind ?_ (fun _ => ?_)
set_option maxHeartbeats 8000000 in
set_option maxRecDepth 100000 in
theorem screeref1_CheckBatch.calls (k : Nat) (A0 : Option Addr) (c0 : Nat) (l0 : List (S112)) (r : Int) (w : World) (hr0 : Kd.C k112 w A0 l0.length l0) (hc0 : l0.length ≤ c0) (h : screeref1_CheckBatch.f k l0 = some r) :
    Calls Tryd.prog 65 #[.slice A0 l0.length c0] w fun e w' => e = .returned (.int .i64 r) ∧ Drawn0 w w' := by
  have HR0 := Aside0.mk hr0
  have HC0 := Aside0.mk hc0
  clear hr0 hc0
  have H : (if (l0.length : Int) > 16 then (some 13) else (screeref1_CheckBatch.l0 k l0 0)) = some r := h
  clear h
  by_cases c2 : (l0.length : Int) > 16
  · rw [if_pos c2] at H
    have c2b0 : decide (16 < (l0.length : Int)) = true := decide_eq_true c2
    have c2b1 : decide (16 < l0.length) = true := decide_eq_true (by omega)
    clear c2
    obtain rfl := Option.some.inj H
    go_enter Tryd.func65, Tryd.ntmps65
    go_wp2
    go_ret
    exact ⟨by first | rfl | (simp; done) | (simp [*]; done), by repeat (first | exact Drawn0.refl _ | apply Drawn0.step)⟩
  · rw [if_neg c2] at H
    have c2b0 : decide (16 < (l0.length : Int)) = false := decide_eq_false c2
    have c2b1 : decide (16 < l0.length) = false := decide_eq_false (by omega)
    clear c2
    have H' := Aside0.mk H
    clear H
    go_enter Tryd.func65, Tryd.ntmps65
    go_wp2
    go_loopg [3] k (fun kq v3 w' => ∃ (x3_1 : Int), v3 = .int .i64 x3_1 ∧ Aside0 (screeref1_CheckBatch.l0 kq l0 x3_1 = some r) ∧ Aside0 (kq ≤ k) ∧ Drawn0 w w')
    case atStart => exact ⟨(0), (by first | rfl | (simp; done) | (simp [*]; done)), H', ⟨Nat.le_refl _⟩, by repeat (first | exact Drawn0.refl _ | apply Drawn0.step)⟩
    case round =>
      clear H'
      try clear c2
      try clear c2b0
      try clear c2b1
      try clear p2
      obtain ⟨x3_1, rfl, HA, HK1, ⟨m1, rfl⟩⟩ := hrel
      cases gk with
      | zero => exact absurd HA.out (by simp [screeref1_CheckBatch.l0])
      | succ k1 =>
        have H := HA.out
        clear HA
        simp only [screeref1_CheckBatch.l0] at H
        by_cases c3 : x3_1 < (l0.length : Int)
        · rw [if_pos c3] at H
          have c3b0 : decide (x3_1 < (l0.length : Int)) = true := decide_eq_true c3
          clear c3
          by_cases c4 : 0 ≤ x3_1
          · rw [if_pos c4] at H
            have c4b0 : decide (0 ≤ x3_1) = true := decide_eq_true c4
            clear c4
            replace H := Option.bind_eq_some_iff.mp H
            obtain ⟨t154, A50, H⟩ := H
            replace H : (if t154 = 0 then (if ((rd_T112 l0 x3_1).f1 = true) then (screeref1_CheckBatch.l0 k1 l0 (wrap64 (x3_1 + 1))) else (if (((rd_T112 l0 x3_1).f2).size : Int) > 512 then (some 12) else (screeref1_CheckBatch.l0 k1 l0 (wrap64 (x3_1 + 1))))) else (some t154)) = some r := H
            have A5 := Aside0.mk A50
            clear A50
            by_cases c6 : t154 = 0
            · rw [if_pos c6] at H
              have c6b0 : (t154 == 0) = true := beq_iff_eq.mpr c6
              have c6b1 : (t154 != 0) = false := bne_eq_false_iff_eq.mpr c6
              clear c6
              obtain ⟨bq7, hbq7⟩ : ∃ b_ : Bool, b_ = ((rd_T112 l0 x3_1).f1) := ⟨_, rfl⟩
              replace H : (if (bq7 = true) then (screeref1_CheckBatch.l0 k1 l0 (wrap64 (x3_1 + 1))) else (if (((rd_T112 l0 x3_1).f2).size : Int) > 512 then (some 12) else (screeref1_CheckBatch.l0 k1 l0 (wrap64 (x3_1 + 1))))) = some r := by rw [← hbq7] at H; exact H
              have Nbq7 := Aside0.mk hbq7
              clear hbq7
              by_cases c8 : (bq7 = true)
              · subst c8
                have H1 : (screeref1_CheckBatch.l0 k1 l0 (wrap64 (x3_1 + 1))) = some r := by rw [if_pos rfl] at H; exact H
                clear H
                have H := H1
                clear H1
                have H' := Aside0.mk H
                clear H
                have p153 : 0 ≤ (x3_1 : Int) := of_decide_eq_true (by first | (with_reducible assumption) | assumption)
                have q153 : x3_1 < (l0.length : Int) := of_decide_eq_true (by first | (with_reducible assumption) | assumption)
                obtain ⟨ad153, e153, hx153_0, hx153_1, hx153_2⟩ := at_T112 HR0.out x3_1 p153 q153
                (try rw [← Nbq7.out] at hx153_1)
                cases e153
                replace p153 := eq_true p153
                replace q153 := eq_true q153
                go_wp2_with (first | ((with_reducible refine gate_callee (f := 83) rfl ?_); refine goesL_ (some 19) rfl rfl Tryd.func83 (by kernel_rfl) rfl #[.string ((rd_T112 l0 x3_1).f0)] rfl (by (try simp only [List.map_toArray, List.map_cons, List.map_nil]); first | done | rfl | (simp only [List.length_drop, List.length_take]; rfl)) ?_; (with_reducible refine (screeref1_Check.calls ((rd_T112 l0 x3_1).f0) t154 _ A5.out).mono ?_); rintro e w' ⟨rfl, ⟨nd, rfl⟩⟩; refine ⟨_, rfl, ?_⟩; have p155 : 0 ≤ (x3_1 : Int) := of_decide_eq_true (by first | (with_reducible assumption) | assumption); have q155 : x3_1 < (l0.length : Int) := of_decide_eq_true (by first | (with_reducible assumption) | assumption); obtain ⟨ad155, e155, hx155_0, hx155_1, hx155_2⟩ := at_T112 HR0.out x3_1 p155 q155; (try rw [← Nbq7.out] at hx155_1); obtain rfl : ad153 = ad155 := (by injection e155); replace p155 := eq_true p155; replace q155 := eq_true q155))
                go_roundg k1
                case measure => have := HK1.out; omega
                case rel => exact ⟨(wrap64 (x3_1 + 1)), (by first | rfl | (simp; done) | (simp [*]; done)), H', ⟨by have := HK1.out; omega⟩, by repeat (first | exact Drawn0.refl _ | apply Drawn0.step)⟩
              · replace c8 := Bool.eq_false_iff.mpr c8
                subst c8
                have H1 : (if (((rd_T112 l0 x3_1).f2).size : Int) > 512 then (some 12) else (screeref1_CheckBatch.l0 k1 l0 (wrap64 (x3_1 + 1)))) = some r := by rw [if_neg (show ¬ (false = true) by decide)] at H; exact H
                clear H
                have H := H1
                clear H1
                by_cases c9 : (((rd_T112 l0 x3_1).f2).size : Int) > 512
                · rw [if_pos c9] at H
                  have c9b0 : decide (512 < (((rd_T112 l0 x3_1).f2).size : Int)) = true := decide_eq_true c9
                  have c9b1 : decide (512 < ((rd_T112 l0 x3_1).f2).size) = true := decide_eq_true (by omega)
                  clear c9
                  obtain rfl := Option.some.inj H
                  have p153 : 0 ≤ (x3_1 : Int) := of_decide_eq_true (by first | (with_reducible assumption) | assumption)
                  have q153 : x3_1 < (l0.length : Int) := of_decide_eq_true (by first | (with_reducible assumption) | assumption)
                  obtain ⟨ad153, e153, hx153_0, hx153_1, hx153_2⟩ := at_T112 HR0.out x3_1 p153 q153
                  (try rw [← Nbq7.out] at hx153_1)
                  cases e153
                  replace p153 := eq_true p153
                  replace q153 := eq_true q153
                  go_wp2_with (first | ((with_reducible refine gate_callee (f := 83) rfl ?_); refine goesL_ (some 19) rfl rfl Tryd.func83 (by kernel_rfl) rfl #[.string ((rd_T112 l0 x3_1).f0)] rfl (by (try simp only [List.map_toArray, List.map_cons, List.map_nil]); first | done | rfl | (simp only [List.length_drop, List.length_take]; rfl)) ?_; (with_reducible refine (screeref1_Check.calls ((rd_T112 l0 x3_1).f0) t154 _ A5.out).mono ?_); rintro e w' ⟨rfl, ⟨nd, rfl⟩⟩; refine ⟨_, rfl, ?_⟩; have p155 : 0 ≤ (x3_1 : Int) := of_decide_eq_true (by first | (with_reducible assumption) | assumption); have q155 : x3_1 < (l0.length : Int) := of_decide_eq_true (by first | (with_reducible assumption) | assumption); obtain ⟨ad155, e155, hx155_0, hx155_1, hx155_2⟩ := at_T112 HR0.out x3_1 p155 q155; (try rw [← Nbq7.out] at hx155_1); obtain rfl : ad153 = ad155 := (by injection e155); replace p155 := eq_true p155; replace q155 := eq_true q155; have p156 : 0 ≤ (x3_1 : Int) := of_decide_eq_true (by first | (with_reducible assumption) | assumption); have q156 : x3_1 < (l0.length : Int) := of_decide_eq_true (by first | (with_reducible assumption) | assumption); obtain ⟨ad156, e156, hx156_0, hx156_1, hx156_2⟩ := at_T112 HR0.out x3_1 p156 q156; (try rw [← Nbq7.out] at hx156_1); obtain rfl : ad153 = ad156 := (by injection e156); replace p156 := eq_true p156; replace q156 := eq_true q156))
                  go_ret
                  exact ⟨by first | rfl | (simp; done) | (simp [*]; done), by repeat (first | exact Drawn0.refl _ | apply Drawn0.step)⟩
                · rw [if_neg c9] at H
                  have c9b0 : decide (512 < (((rd_T112 l0 x3_1).f2).size : Int)) = false := decide_eq_false c9
                  have c9b1 : decide (512 < ((rd_T112 l0 x3_1).f2).size) = false := decide_eq_false (by omega)
                  clear c9
                  have H' := Aside0.mk H
                  clear H
                  have p153 : 0 ≤ (x3_1 : Int) := of_decide_eq_true (by first | (with_reducible assumption) | assumption)
                  have q153 : x3_1 < (l0.length : Int) := of_decide_eq_true (by first | (with_reducible assumption) | assumption)
                  obtain ⟨ad153, e153, hx153_0, hx153_1, hx153_2⟩ := at_T112 HR0.out x3_1 p153 q153
                  (try rw [← Nbq7.out] at hx153_1)
                  cases e153
                  replace p153 := eq_true p153
                  replace q153 := eq_true q153
                  go_wp2_with (first | ((with_reducible refine gate_callee (f := 83) rfl ?_); refine goesL_ (some 19) rfl rfl Tryd.func83 (by kernel_rfl) rfl #[.string ((rd_T112 l0 x3_1).f0)] rfl (by (try simp only [List.map_toArray, List.map_cons, List.map_nil]); first | done | rfl | (simp only [List.length_drop, List.length_take]; rfl)) ?_; (with_reducible refine (screeref1_Check.calls ((rd_T112 l0 x3_1).f0) t154 _ A5.out).mono ?_); rintro e w' ⟨rfl, ⟨nd, rfl⟩⟩; refine ⟨_, rfl, ?_⟩; have p155 : 0 ≤ (x3_1 : Int) := of_decide_eq_true (by first | (with_reducible assumption) | assumption); have q155 : x3_1 < (l0.length : Int) := of_decide_eq_true (by first | (with_reducible assumption) | assumption); obtain ⟨ad155, e155, hx155_0, hx155_1, hx155_2⟩ := at_T112 HR0.out x3_1 p155 q155; (try rw [← Nbq7.out] at hx155_1); obtain rfl : ad153 = ad155 := (by injection e155); replace p155 := eq_true p155; replace q155 := eq_true q155; have p156 : 0 ≤ (x3_1 : Int) := of_decide_eq_true (by first | (with_reducible assumption) | assumption); have q156 : x3_1 < (l0.length : Int) := of_decide_eq_true (by first | (with_reducible assumption) | assumption); obtain ⟨ad156, e156, hx156_0, hx156_1, hx156_2⟩ := at_T112 HR0.out x3_1 p156 q156; (try rw [← Nbq7.out] at hx156_1); obtain rfl : ad153 = ad156 := (by injection e156); replace p156 := eq_true p156; replace q156 := eq_true q156))
                  go_roundg k1
                  case measure => have := HK1.out; omega
                  case rel => exact ⟨(wrap64 (x3_1 + 1)), (by first | rfl | (simp; done) | (simp [*]; done)), H', ⟨by have := HK1.out; omega⟩, by repeat (first | exact Drawn0.refl _ | apply Drawn0.step)⟩
            · rw [if_neg c6] at H
              have c6b0 : (t154 == 0) = false := beq_eq_false_iff_ne.mpr c6
              have c6b1 : (t154 != 0) = true := bne_iff_ne.mpr c6
              obtain rfl := Option.some.inj H
              have p153 : 0 ≤ (x3_1 : Int) := of_decide_eq_true (by first | (with_reducible assumption) | assumption)
              have q153 : x3_1 < (l0.length : Int) := of_decide_eq_true (by first | (with_reducible assumption) | assumption)
              obtain ⟨ad153, e153, hx153_0, hx153_1, hx153_2⟩ := at_T112 HR0.out x3_1 p153 q153
              cases e153
              replace p153 := eq_true p153
              replace q153 := eq_true q153
              go_wp2_with (first | ((with_reducible refine gate_callee (f := 83) rfl ?_); refine goesL_ (some 19) rfl rfl Tryd.func83 (by kernel_rfl) rfl #[.string ((rd_T112 l0 x3_1).f0)] rfl (by (try simp only [List.map_toArray, List.map_cons, List.map_nil]); first | done | rfl | (simp only [List.length_drop, List.length_take]; rfl)) ?_; (with_reducible refine (screeref1_Check.calls ((rd_T112 l0 x3_1).f0) t154 _ A5.out).mono ?_); rintro e w' ⟨rfl, ⟨nd, rfl⟩⟩; refine ⟨_, rfl, ?_⟩))
              go_ret
              exact ⟨by first | rfl | (simp; done) | (simp [*]; done), by repeat (first | exact Drawn0.refl _ | apply Drawn0.step)⟩
          · rw [if_neg c4] at H
            exact absurd H (by simp)
        · rw [if_neg c3] at H
          have c3b0 : decide (x3_1 < (l0.length : Int)) = false := decide_eq_false c3
          clear c3
          obtain rfl := Option.some.inj H
          go_wp2
          go_ret
          exact ⟨by first | rfl | (simp; done) | (simp [*]; done), by repeat (first | exact Drawn0.refl _ | apply Drawn0.step)⟩
end Go.Proofs.YtaonjmkfbfhanaaDoor.QBo
namespace Go.Proofs.YtaonjmkfbfhanaaDoor.Bk
open Go.RowKit Go.Proofs.YtaonjmkfbfhanaaDoorW.PrintWords Go.Proofs.YtaonjmkfbfhanaaDoor.Own Go.Proofs.YtaonjmkfbfhanaaDoor.G Go.Proofs.YtaonjmkfbfhanaaDoor.Wk Go.Proofs.YtaonjmkfbfhanaaDoor.QBo
set_option linter.unusedVariables false
theorem infoI : (Tryd.prog.info? 3).map (fun i => (i.zero, i.size, i.bytes)) = some (some (.int .i64 0), 1, 8) := by kernel_rfl
abbrev u8 : Kd Int := Kd.int .u8
abbrev i64 : Kd Int := Kd.int .i64
def plcs (m : Mk) : List Int := m.places.map fun (p : Nat) => (p : Int)
def mkCells (m : Mk) (v1 v2 : Value) : Array Value := #[.int .i64 (m.rs : Int), v1, v2, .int .i64 (m.n : Int), .string m.last]
/-- The blocks that are a maker's. -/
def mkF (g : Nat) (v1 v2 : Value) (k : Nat) : Prop := k = g ∨ v1.ownBlock = some k ∨ v2.ownBlock = some k
def MkAt (W : World) (base g : Nat) (m : Mk) (v1 v2 : Value) : Prop :=
  W.heap[g]? = some (.cells (mkCells m v1 v2) 122 (0, 0)) ∧ base ≤ g ∧ u8.R 5 W base (fun _ => True) v1 m.data ∧ i64.R 3 W base (fun _ => True) v2 (plcs m)
/-- From a world w on, in which the blocks of F were the maker's: it stands so by now; no other block has changed. -/
def MkS (w W : World) (base g : Nat) (F : Nat → Prop) (m : Mk) : Prop :=
  ∃ v1 v2, MkAt W base g m v1 v2 ∧ Below base w W ∧ (∀ k, k < w.heap.size → ¬ F k → W.heap[k]? = w.heap[k]?) ∧ (∀ k, mkF g v1 v2 k → F k ∨ w.heap.size ≤ k)
section
variable {w W W' : World} {base g : Nat} {F : Nat → Prop} {m : Mk} {v1 v2 : Value}
theorem MkAt.start (h : MkAt w base g m v1 v2) : MkS w w base g (mkF g v1 v2) m := ⟨v1, v2, h, Below.refl _ _, fun _ _ _ => rfl, fun k hk => .inl hk⟩
theorem MkAt.below (h : MkAt W base g m v1 v2) (hb : Below W.heap.size W W') : MkAt W' base g m v1 v2 := ⟨(hb.block _ (blk_lt h.1)).trans h.1, h.2.1, Kd.R_below h.2.2.1 hb, Kd.R_below h.2.2.2 hb⟩
theorem MkS.below (h : MkS w W base g F m) (hb : Below W.heap.size W W') : MkS w W' base g F m := by
  obtain ⟨v1, v2, h1, h2, h3, h4⟩ := h
  have hs := h2.size
  exact ⟨v1, v2, h1.below hb, h2.trans (hb.mono (Nat.le_trans h1.2.1 (Nat.le_of_lt (blk_lt h1.1)))), fun k hk hF => (hb.block k (by omega)).trans (h3 k hk hF), h4⟩
theorem MkS.size (h : MkS w W base g F m) : w.heap.size ≤ W.heap.size := by
  obtain ⟨v1, v2, h1, h2, h3, h4⟩ := h
  exact h2.size
theorem MkS.bel (h : MkS w W base g F m) : Below base w W := by
  obtain ⟨v1, v2, h1, h2, h3, h4⟩ := h
  exact h2
theorem MkS.bs (h : MkS w W base g F m) : base ≤ W.heap.size := by
  obtain ⟨v1, v2, h1, h2, h3, h4⟩ := h
  exact Nat.le_trans h1.2.1 (Nat.le_of_lt (blk_lt h1.1))
theorem own_u8 {v : Value} {l : List Int} (h : u8.R 5 W base (fun _ => True) v l) {k : Nat} (hk : v.ownBlock = some k) : base ≤ k ∧ k < W.heap.size ∧ ∃ cs, W.heap[k]? = some (.cells cs 5 (0, 0)) := by
  obtain ⟨inner, ho⟩ := Kd.R_own h
  exact ⟨own_base ho k hk, own_lt ho k hk, own_typed ho k hk⟩
theorem own_i64 {v : Value} {l : List Int} (h : i64.R 3 W base (fun _ => True) v l) {k : Nat} (hk : v.ownBlock = some k) : base ≤ k ∧ k < W.heap.size ∧ ∃ cs, W.heap[k]? = some (.cells cs 3 (0, 0)) := by
  obtain ⟨inner, ho⟩ := Kd.R_own h
  exact ⟨own_base ho k hk, own_lt ho k hk, own_typed ho k hk⟩
/-- The maker's block by the maker's own look: a block of another type is none of the maker's. -/
theorem MkAt.other (h : MkAt W base g m v1 v2) {k T : Nat} {cs : Array Value} (hk : W.heap[k]? = some (.cells cs T (0, 0))) (h1 : T ≠ 122) (h2 : T ≠ 5) (h3 : T ≠ 3) : ¬ mkF g v1 v2 k := by
  rintro (rfl | hv | hv)
  · rw [h.1] at hk; injection hk with hk; injection hk with _ e; exact h1 e.symm
  · obtain ⟨_, _, cs', hc⟩ := own_u8 h.2.2.1 hv
    rw [hc] at hk; injection hk with hk; injection hk with _ e; exact h2 e.symm
  · obtain ⟨_, _, cs', hc⟩ := own_i64 h.2.2.2 hv
    rw [hc] at hk; injection hk with hk; injection hk with _ e; exact h3 e.symm
/-- The entries' bytes grow and are stored. -/
theorem MkAt.data {W1 : World} {v : Value} {l : List Int} (h : MkAt W base g m v1 v2) (hr : u8.R 5 W1 base (fun _ => True) v l) (hg : W.grownBy W1 v1.ownBlock) (hat : v.ownBlock = v1.ownBlock ∨ ∃ b, v.ownBlock = some b ∧ W.heap.size ≤ b) :
    MkAt (W1.setCell ⟨g, 1, none⟩ v) base g ⟨m.rs, l, m.places, m.n, m.last⟩ v v2 ∧ (∀ k, k < W.heap.size → ¬ mkF g v1 v2 k → (W1.setCell ⟨g, 1, none⟩ v).heap[k]? = W.heap[k]?) ∧ (∀ k, mkF g v v2 k → mkF g v1 v2 k ∨ W.heap.size ≤ k) := by
  obtain ⟨h1, h2, h3, h4⟩ := h
  have ng : some g ≠ v1.ownBlock := Kd.R_ne h3 h1 (by decide)
  have g1 := blk_grown h1 hg ng
  have nv : some g ≠ v.ownBlock := Kd.R_ne hr g1 (by decide)
  have n2 : ∀ k, v2.ownBlock = some k → some k ≠ v1.ownBlock := fun k hk e => by
    obtain ⟨_, _, c1, e1⟩ := own_i64 h4 hk
    obtain ⟨_, _, c2, e2⟩ := own_u8 h3 e.symm
    rw [e1] at e2; injection e2 with e2; injection e2 with _ e3; exact absurd e3 (by decide)
  have h4' : i64.R 3 W1 base (fun _ => True) v2 (plcs m) := Kd.R_mono (Kd.R_step (Kd.R_bound h4) (fun k hk hlt => by
    obtain ⟨_, _, _, q, hq, cs, hc⟩ := hk
    have hq' : q = 3 := by
      rcases List.mem_cons.1 hq with h | h
      · exact h
      · exact absurd h List.not_mem_nil
    subst hq'
    exact hg.block k hlt (fun e => by
      obtain ⟨_, _, c2, e2⟩ := own_u8 h3 e.symm
      rw [hc] at e2; injection e2 with e2; injection e2 with _ e3; exact absurd e3 (by decide)))) (fun _ _ => trivial)
  refine ⟨⟨?_, h2, Kd.R_set hr g1 (by decide) 1 v, Kd.R_set h4' g1 (by decide) 1 v⟩, ?_, ?_⟩
  · rw [blk_set g1 1 v]; rfl
  · intro k hk hF
    rw [Below.heap_setCell _ _ _ _ (fun e => hF (.inl e)), hg.block k hk (fun e => hF (.inr (.inl e.symm)))]
  · rintro k (rfl | hv | hv)
    · exact .inl (.inl rfl)
    · rcases hat with e | ⟨b, e, hb⟩
      · exact .inl (.inr (.inl (e ▸ hv)))
      · rw [e] at hv; injection hv with hv; exact .inr (by omega)
    · exact .inl (.inr (.inr hv))
/-- The places grow and are stored. -/
theorem MkAt.grow {W1 : World} {v : Value} {l : List Nat} (h : MkAt W base g m v1 v2) (hr : i64.R 3 W1 base (fun _ => True) v (l.map fun (p : Nat) => (p : Int))) (hg : W.grownBy W1 v2.ownBlock) (hat : v.ownBlock = v2.ownBlock ∨ ∃ b, v.ownBlock = some b ∧ W.heap.size ≤ b) :
    MkAt (W1.setCell ⟨g, 2, none⟩ v) base g ⟨m.rs, m.data, l, m.n, m.last⟩ v1 v ∧ (∀ k, k < W.heap.size → ¬ mkF g v1 v2 k → (W1.setCell ⟨g, 2, none⟩ v).heap[k]? = W.heap[k]?) ∧ (∀ k, mkF g v1 v k → mkF g v1 v2 k ∨ W.heap.size ≤ k) := by
  obtain ⟨h1, h2, h3, h4⟩ := h
  have ng : some g ≠ v2.ownBlock := Kd.R_ne h4 h1 (by decide)
  have g1 := blk_grown h1 hg ng
  have h3' : u8.R 5 W1 base (fun _ => True) v1 m.data := Kd.R_mono (Kd.R_step (Kd.R_bound h3) (fun k hk hlt => by
    obtain ⟨_, _, _, q, hq, cs, hc⟩ := hk
    have hq' : q = 5 := by
      rcases List.mem_cons.1 hq with h | h
      · exact h
      · exact absurd h List.not_mem_nil
    subst hq'
    exact hg.block k hlt (fun e => by
      obtain ⟨_, _, c2, e2⟩ := own_i64 h4 e.symm
      rw [hc] at e2; injection e2 with e2; injection e2 with _ e3; exact absurd e3 (by decide)))) (fun _ _ => trivial)
  refine ⟨⟨?_, h2, Kd.R_set h3' g1 (by decide) 2 v, Kd.R_set hr g1 (by decide) 2 v⟩, ?_, ?_⟩
  · rw [blk_set g1 2 v]; rfl
  · intro k hk hF
    rw [Below.heap_setCell _ _ _ _ (fun e => hF (.inl e)), hg.block k hk (fun e => hF (.inr (.inr e.symm)))]
  · rintro k (rfl | hv | hv)
    · exact .inl (.inl rfl)
    · exact .inl (.inr (.inl hv))
    · rcases hat with e | ⟨b, e, hb⟩
      · exact .inl (.inr (.inr (e ▸ hv)))
      · rw [e] at hv; injection hv with hv; exact .inr (by omega)
theorem MkAt.count (h : MkAt W base g m v1 v2) (n : Nat) : MkAt (W.setCell ⟨g, 3, none⟩ (.int .i64 (n : Int))) base g ⟨m.rs, m.data, m.places, n, m.last⟩ v1 v2 := by
  obtain ⟨h1, h2, h3, h4⟩ := h
  exact ⟨by rw [blk_set h1 3 _]; rfl, h2, Kd.R_set h3 h1 (by decide) 3 _, Kd.R_set h4 h1 (by decide) 3 _⟩
theorem MkAt.key (h : MkAt W base g m v1 v2) (s : ByteArray) : MkAt (W.setCell ⟨g, 4, none⟩ (.string s)) base g ⟨m.rs, m.data, m.places, m.n, s⟩ v1 v2 := by
  obtain ⟨h1, h2, h3, h4⟩ := h
  exact ⟨by rw [blk_set h1 4 _]; rfl, h2, Kd.R_set h3 h1 (by decide) 4 _, Kd.R_set h4 h1 (by decide) 4 _⟩
/-- One step of the maker's more. -/
theorem MkS.step {m' : Mk} {v1' v2' : Value} (hb : Below base w W) (hk : ∀ k, k < w.heap.size → ¬ F k → W.heap[k]? = w.heap[k]?) (hF : ∀ k, mkF g v1 v2 k → F k ∨ w.heap.size ≤ k) (h : MkAt W' base g m' v1' v2') (hb' : Below base W W') (hk' : ∀ k, k < W.heap.size → ¬ mkF g v1 v2 k → W'.heap[k]? = W.heap[k]?) (hF' : ∀ k, mkF g v1' v2' k → mkF g v1 v2 k ∨ W.heap.size ≤ k) : MkS w W' base g F m' := by
  have hs := hb.size
  refine ⟨v1', v2', h, hb.trans hb', fun k hkw hFk => ?_, fun k hkF => ?_⟩
  · refine (hk' k (by omega) (fun e => ?_)).trans (hk k hkw hFk)
    rcases hF k e with e | e
    · exact hFk e
    · omega
  · rcases hF' k hkF with e | e
    · exact hF k e
    · exact .inr (by omega)
/-- What is told of a world behind w. -/
def MkR (w W : World) (base g : Nat) (F : Nat → Prop) (v1 v2 : Value) : Prop := Below base w W ∧ (∀ k, k < w.heap.size → ¬ F k → W.heap[k]? = w.heap[k]?) ∧ (∀ k, mkF g v1 v2 k → F k ∨ w.heap.size ≤ k)
/-- Blocks of other types stay. -/
def Oth (W W' : World) : Prop := ∀ (k T : Nat) (cs : Array Value), W.heap[k]? = some (.cells cs T (0, 0)) → T ≠ 122 → T ≠ 5 → T ≠ 3 → W'.heap[k]? = some (.cells cs T (0, 0))
theorem MkS.open_ (h : MkS w W base g F m) : ∃ v1 v2, MkAt W base g m v1 v2 ∧ MkR w W base g F v1 v2 := h
theorem MkS.grow {W1 : World} {v : Value} {l : List Nat} (h : MkAt W base g m v1 v2) (hR : MkR w W base g F v1 v2) (hr : i64.R 3 W1 base (fun _ => True) v (l.map fun (p : Nat) => (p : Int))) (hg : W.grownBy W1 v2.ownBlock) (hat : v.ownBlock = v2.ownBlock ∨ ∃ b, v.ownBlock = some b ∧ W.heap.size ≤ b) :
    MkS w (W1.setCell ⟨g, 2, none⟩ v) base g F ⟨m.rs, m.data, l, m.n, m.last⟩ ∧ Oth W (W1.setCell ⟨g, 2, none⟩ v) := by
  obtain ⟨a1, a2, a3⟩ := h.grow hr hg hat
  have hbs : base ≤ W.heap.size := Nat.le_trans h.2.1 (Nat.le_of_lt (blk_lt h.1))
  have hb' : Below base W (W1.setCell ⟨g, 2, none⟩ v) := ((Below.refl base W).grown hg hbs (fun k hk => (own_i64 h.2.2.2 hk).1)).setCell (p := ⟨g, 2, none⟩) h.2.1 _
  exact ⟨MkS.step hR.1 hR.2.1 hR.2.2 a1 hb' a2 a3, fun k T cs hk t1 t2 t3 => (a2 k (blk_lt hk) (h.other hk t1 t2 t3)).trans hk⟩
theorem MkS.put {W1 : World} {v : Value} {l : List Int} (h : MkAt W base g m v1 v2) (hR : MkR w W base g F v1 v2) (hr : u8.R 5 W1 base (fun _ => True) v l) (hg : W.grownBy W1 v1.ownBlock) (hat : v.ownBlock = v1.ownBlock ∨ ∃ b, v.ownBlock = some b ∧ W.heap.size ≤ b) :
    MkS w (W1.setCell ⟨g, 1, none⟩ v) base g F ⟨m.rs, l, m.places, m.n, m.last⟩ ∧ Oth W (W1.setCell ⟨g, 1, none⟩ v) := by
  obtain ⟨a1, a2, a3⟩ := h.data hr hg hat
  have hbs : base ≤ W.heap.size := Nat.le_trans h.2.1 (Nat.le_of_lt (blk_lt h.1))
  have hb' : Below base W (W1.setCell ⟨g, 1, none⟩ v) := ((Below.refl base W).grown hg hbs (fun k hk => (own_u8 h.2.2.1 hk).1)).setCell (p := ⟨g, 1, none⟩) h.2.1 _
  exact ⟨MkS.step hR.1 hR.2.1 hR.2.2 a1 hb' a2 a3, fun k T cs hk t1 t2 t3 => (a2 k (blk_lt hk) (h.other hk t1 t2 t3)).trans hk⟩
theorem MkS.done (h : MkS w W base g F m) (n : Nat) (s : ByteArray) : MkS w ((W.setCell ⟨g, 3, none⟩ (.int .i64 (n : Int))).setCell ⟨g, 4, none⟩ (.string s)) base g F ⟨m.rs, m.data, m.places, n, s⟩ := by
  obtain ⟨v1, v2, h1, h2, h3, h4⟩ := h
  have a := (h1.count n).key s
  refine MkS.step h2 h3 h4 a (((Below.refl base W).setCell (p := ⟨g, 3, none⟩) h1.2.1 _).setCell (p := ⟨g, 4, none⟩) h1.2.1 _) (fun k hk hF => ?_) (fun k hk => .inl hk)
  have hne : k ≠ g := fun e => hF (.inl e)
  rw [Below.heap_setCell _ _ _ _ hne, Below.heap_setCell _ _ _ _ hne]
theorem MkR.drew (h : MkR w W base g F v1 v2) : MkR w W.drew base g F v1 v2 := ⟨below_drew h.1, h.2.1, h.2.2⟩
theorem MkR.below (h : MkR w W base g F v1 v2) (hb : Below W.heap.size W W') (hbs : base ≤ W.heap.size) : MkR w W' base g F v1 v2 := by
  have hs := h.1.size
  exact ⟨h.1.trans (hb.mono hbs), fun k hk hF => (hb.block k (by omega)).trans (h.2.1 k hk hF), h.2.2⟩
end
end Go.Proofs.YtaonjmkfbfhanaaDoor.Bk
namespace Go.Proofs.YtaonjmkfbfhanaaDoor.Bk
open Go.RowKit Go.Proofs.YtaonjmkfbfhanaaDoorW.PrintWords Go.Proofs.YtaonjmkfbfhanaaDoor.Own Go.Proofs.YtaonjmkfbfhanaaDoor.G Go.Proofs.YtaonjmkfbfhanaaDoor.U
set_option linter.unusedVariables false
def pushAll (m : Mk) (l : List En) : Mk := l.foldl pushM m
def encT : Mk → List En → List Int
  | _, [] => []
  | m, e :: l => encE (sharedM m e) e ++ encT (pushM m e) l
theorem pushAll_data (l : List En) : ∀ m : Mk, (pushAll m l).data = m.data ++ encT m l := by
  induction l with
  | nil => intro m; simp [pushAll, encT]
  | cons e l ih =>
    intro m
    have := ih (pushM m e)
    unfold pushAll at this ⊢
    rw [List.foldl_cons, this]
    simp [pushM, encT]
theorem pushAll_append (m : Mk) (a b : List En) : pushAll m (a ++ b) = pushAll (pushAll m a) b := by simp [pushAll]
theorem pushAll_rs (l : List En) : ∀ m : Mk, (pushAll m l).rs = m.rs ∧ (pushAll m l).n = m.n + l.length := by
  induction l with
  | nil => intro m; simp [pushAll]
  | cons e l ih =>
    intro m
    have := ih (pushM m e)
    unfold pushAll at this ⊢
    rw [List.foldl_cons, this.1, this.2]
    simp [pushM]
    omega
theorem lastK_pushAll (m : Mk) (l : List En) : l ≠ [] → (pushAll m l).last = lastK l := by
  intro h
  obtain ⟨l', x, rfl⟩ : ∃ l' x, l = l' ++ [x] := ⟨l.dropLast, l.getLast h, (List.dropLast_concat_getLast h).symm⟩
  rw [pushAll_append, lastK_snoc]
  rfl
theorem last_eq (r : Int) (l : List En) : (pushAll (newM r) l).last = lastK l := by
  by_cases h : l = []
  · subst h; rfl
  · exact lastK_pushAll _ _ h
theorem encE_pos (n : Nat) (e : En) : 3 ≤ (encE n e).length := by
  unfold encE
  simp only [List.length_append]
  have h1 := numL_pos n
  have h2 := numL_pos (e.f0.size - n)
  have h3 := numL_pos (markE e)
  omega
theorem shared_le (m : Mk) (e : En) : sharedM m e ≤ e.f0.size ∧ sharedM m e ≤ m.last.size ∧ (bytesOf e.f0).take (sharedM m e) = (bytesOf m.last).take (sharedM m e) := by
  unfold sharedM
  split
  · simp
  · have := lcp_le (bytesOf e.f0) (bytesOf m.last)
    rw [bytesOf_length, bytesOf_length] at this
    exact this
theorem rsOf_pos (r : Int) : 1 ≤ rsOf r := by unfold rsOf; split <;> omega
theorem rows_again (r : Int) (L : List En) (hok : ∀ e ∈ L, OkE e) (D Pl : List Int) (ct : Nat) (hD : D = (pushAll (newM r) L).data)
    (hP : 1 < ct → ∀ l1 l2, L = l1 ++ l2 → ((pushAll (newM r) l1).data.length = wordL Pl 4 ↔ l1.length = rsOf r)) :
    ∀ (l2 l1 : List En) (f : Nat), L = l1 ++ l2 → l2.length < f → rowsR D Pl ct f (pushAll (newM r) l1).data.length l1 (if 1 < ct ∧ rsOf r < l1.length then rsOf r else 1) = some (L, if ct ≤ 1 then max L.length 1 else if rsOf r < L.length then rsOf r else 1) := by
  intro l2
  have hr1 := rsOf_pos r
  induction l2 with
  | nil =>
    intro l1 f hL hf
    obtain ⟨f, rfl⟩ : ∃ k, f = k + 1 := ⟨f - 1, by simp at hf; omega⟩
    rw [List.append_nil] at hL
    subst hL
    rw [rowsR_step, hD, if_neg (by omega)]
    congr 2
    by_cases h : ct ≤ 1
    · rw [if_pos h, if_pos h]
    · rw [if_neg h, if_neg h]
      by_cases h2 : rsOf r < L.length
      · rw [if_pos ⟨by omega, h2⟩, if_pos h2]
      · rw [if_neg (fun h => h2 h.2), if_neg h2]
  | cons e l2 ih =>
    intro l1 f hL hf
    obtain ⟨f, rfl⟩ : ∃ k, f = k + 1 := ⟨f - 1, by simp at hf; omega⟩
    have hL2 : L = (l1 ++ [e]) ++ l2 := by rw [hL]; simp
    have hd : D = (pushAll (newM r) l1).data ++ (encE (sharedM (pushAll (newM r) l1) e) e ++ encT (pushM (pushAll (newM r) l1) e) l2) := by
      rw [hD, hL, pushAll_append, pushAll_data]
      rfl
    have hp := encE_pos (sharedM (pushAll (newM r) l1) e) e
    have hs := shared_le (pushAll (newM r) l1) e
    rw [last_eq] at hs
    have hE := entry_again (sharedM (pushAll (newM r) l1) e) e (lastK l1) (encT (pushM (pushAll (newM r) l1) e) l2) (hok e (by rw [hL]; simp)) hs.1 hs.2.1 hs.2.2
    have hdr : D.drop (pushAll (newM r) l1).data.length = encE (sharedM (pushAll (newM r) l1) e) e ++ encT (pushM (pushAll (newM r) l1) e) l2 := by rw [hd, List.drop_left]
    have hlt : (pushAll (newM r) l1).data.length < D.length := by rw [hd]; simp only [List.length_append]; omega
    rw [rowsR_step, if_pos hlt, hdr, hE]
    simp only
    have hn : (pushAll (newM r) (l1 ++ [e])).data.length = (pushAll (newM r) l1).data.length + (encE (sharedM (pushAll (newM r) l1) e) e).length := by
      rw [pushAll_append]
      show ((pushAll (newM r) l1).data ++ _).length = _
      rw [List.length_append]
    have hi := ih (l1 ++ [e]) f hL2 (by simp only [List.length_cons] at hf; omega)
    rw [hn] at hi
    rw [← hi]
    congr 1
    unfold restS
    rw [List.length_append, List.length_singleton]
    by_cases h1 : 1 < ct
    · have hq := hP h1 l1 (e :: l2) hL
      by_cases h2 : l1.length = rsOf r
      · have e1 : (if 1 < ct ∧ rsOf r < l1.length then rsOf r else 1) = 1 := if_neg (fun h => by omega)
        rw [e1, if_pos (c := 1 < ct ∧ _ ∧ _ ∧ _) ⟨h1, hq.2 h2, rfl, by omega⟩, if_pos ⟨h1, by omega⟩]
        exact h2
      · rw [if_neg (c := 1 < ct ∧ _ = wordL Pl 4 ∧ _) (fun h => h2 (hq.1 h.2.1))]
        by_cases h3 : rsOf r < l1.length
        · rw [if_pos ⟨h1, h3⟩, if_pos ⟨h1, by omega⟩]
        · rw [if_neg (fun h => h3 h.2), if_neg (fun h => by omega)]
    · rw [if_neg (c := 1 < ct ∧ rsOf r < l1.length) (fun h => h1 h.1), if_neg (fun h => h1 h.1), if_neg (fun h => h1 h.1)]
theorem snoc_rec {α : Type} {P : List α → Prop} (h0 : P []) (h1 : ∀ l x, P l → P (l ++ [x])) (l : List α) : P l := by
  rw [← List.reverse_reverse l]
  induction l.reverse with
  | nil => exact h0
  | cons x r ih => rw [List.reverse_cons]; exact h1 _ _ ih
theorem pushAll_snoc (m : Mk) (l : List En) (x : En) : pushAll m (l ++ [x]) = pushM (pushAll m l) x := by rw [pushAll_append]; rfl
theorem len_data (l : List En) : ∀ m : Mk, m.data.length + 3 * l.length ≤ (pushAll m l).data.length := by
  induction l with
  | nil => intro m; simp [pushAll]
  | cons e l ih =>
    intro m
    have h1 := ih (pushM m e)
    have h2 := encE_pos (sharedM m e) e
    have h3 : (pushM m e).data.length = m.data.length + (encE (sharedM m e) e).length := by simp [pushM]
    show m.data.length + 3 * (e :: l).length ≤ (pushAll (pushM m e) l).data.length
    rw [List.length_cons]
    omega
def lenAt (r : Int) (l : List En) (k : Nat) : Nat := (pushAll (newM r) (l.take k)).data.length
theorem lenAt_mono (r : Int) (l : List En) {k j : Nat} (h : k < j) (hj : j ≤ l.length) : lenAt r l k < lenAt r l j := by
  obtain ⟨d, rfl⟩ : ∃ d, j = k + 1 + d := ⟨j - k - 1, by omega⟩
  have hk : k < l.length := by omega
  have h1 : lenAt r l (k + 1 + d) = (pushAll (pushM (pushAll (newM r) (l.take k)) l[k]) ((l.drop (k + 1)).take d)).data.length := by
    unfold lenAt
    rw [List.take_add, pushAll_append, List.take_succ_eq_append_getElem hk, pushAll_snoc]
  have h2 := len_data ((l.drop (k + 1)).take d) (pushM (pushAll (newM r) (l.take k)) l[k])
  have h3 : (pushM (pushAll (newM r) (l.take k)) l[k]).data.length = lenAt r l k + (encE (sharedM (pushAll (newM r) (l.take k)) l[k]) l[k]).length := by simp [pushM, lenAt]
  have h4 := encE_pos (sharedM (pushAll (newM r) (l.take k)) l[k]) l[k]
  omega
/-- The places of the restart points. -/
theorem places_inv (r : Int) (l : List En) : ((pushAll (newM r) l).places.length = 0 ↔ l.length = 0) ∧ (2 ≤ (pushAll (newM r) l).places.length ↔ rsOf r < l.length) ∧
    (rsOf r < l.length → (pushAll (newM r) l).places.getD 1 0 = lenAt r l (rsOf r)) ∧ (pushAll (newM r) l).places.length ≤ l.length := by
  have hr := rsOf_pos r
  refine snoc_rec (P := fun l => ((pushAll (newM r) l).places.length = 0 ↔ l.length = 0) ∧ (2 ≤ (pushAll (newM r) l).places.length ↔ rsOf r < l.length) ∧
    (rsOf r < l.length → (pushAll (newM r) l).places.getD 1 0 = lenAt r l (rsOf r)) ∧ (pushAll (newM r) l).places.length ≤ l.length) ?_ ?_ l
  · simp [pushAll, newM]
  · intro l x ⟨h1, h2, h3, h4⟩
    have hm := pushAll_rs l (newM r)
    have hn : (pushAll (newM r) l).n = l.length := by rw [hm.2]; simp [newM]
    have hrs : (pushAll (newM r) l).rs = rsOf r := hm.1
    have hlen : (l ++ [x]).length = l.length + 1 := by simp
    rw [pushAll_snoc, hlen]
    have hp : (pushM (pushAll (newM r) l) x).places = if l.length % rsOf r = 0 then (pushAll (newM r) l).places ++ [(pushAll (newM r) l).data.length] else (pushAll (newM r) l).places := by rw [← hn, ← hrs]; rfl
    have hla : ∀ k, k ≤ l.length → lenAt r (l ++ [x]) k = lenAt r l k := fun k hk => by unfold lenAt; rw [List.take_append_of_le_length hk]
    rw [hp]
    rcases Nat.lt_trichotomy l.length (rsOf r) with h | h | h
    · by_cases h0 : l.length = 0
      · rw [h0, if_pos (Nat.zero_mod _), List.length_append, List.length_singleton]
        have := h1.2 h0
        refine ⟨by omega, by omega, by omega, by omega⟩
      · rw [Nat.mod_eq_of_lt h, if_neg h0]
        refine ⟨by omega, by omega, by omega, by omega⟩
    · rw [h, Nat.mod_self, if_pos rfl, List.length_append, List.length_singleton]
      have e1 : (pushAll (newM r) l).places.length = 1 := by omega
      refine ⟨by omega, by omega, fun _ => ?_, by omega⟩
      rw [hla _ (by omega), List.getD_eq_getElem?_getD, List.getElem?_append_right (by omega), e1]
      unfold lenAt
      rw [← h, List.take_length]
      rfl
    · have e2 : 2 ≤ (pushAll (newM r) l).places.length := h2.2 h
      have e3 := h3 h
      by_cases hz : l.length % rsOf r = 0
      · rw [if_pos hz, List.length_append, List.length_singleton]
        refine ⟨by omega, by omega, fun _ => ?_, by omega⟩
        rw [hla _ (by omega), List.getD_eq_getElem?_getD, List.getElem?_append_left (by omega), ← List.getD_eq_getElem?_getD]
        exact e3
      · rw [if_neg hz]
        refine ⟨by omega, by omega, fun _ => ?_, by omega⟩
        rw [hla _ (by omega)]
        exact e3
theorem wordL_four (c : Nat) (hc : c < 4294967296) (x y : List Int) : wordL (x ++ (fourL (c : Int) ++ y)) x.length = c := by
  have hg : ∀ k, k < 4 → rd (x ++ (fourL (c : Int) ++ y)) ((x.length + k : Nat) : Int) = (fourL (c : Int)).getD k 0 := fun k hk => by
    unfold rd
    rw [Int.toNat_natCast, List.getD_eq_getElem?_getD, List.getElem?_append_right (by omega), Nat.add_sub_cancel_left, List.getElem?_append_left (by rw [four_len]; exact hk), List.getD_eq_getElem?_getD]
  have h0 := hg 0 (by omega)
  have h1 := hg 1 (by omega)
  have h2 := hg 2 (by omega)
  have h3 := hg 3 (by omega)
  rw [Nat.add_zero] at h0
  unfold wordL
  rw [h0, h1, h2, h3]
  simp only [fourL, List.getD_cons_zero, List.getD_cons_succ]
  omega
theorem flat_len (l : List Nat) : (l.flatMap fun (p : Nat) => fourL (p : Int)).length = 4 * l.length := by
  induction l with
  | nil => rfl
  | cons p l ih => rw [List.flatMap_cons, List.length_append, ih, four_len, List.length_cons]; omega
theorem body_len (m : Mk) : (bodyM m).length = m.data.length + 4 * m.places.length + 4 := by
  unfold bodyM
  rw [List.length_append, List.length_append, flat_len, four_len]
theorem bytesM_len (m : Mk) : (bytesM m).length = m.data.length + 4 * m.places.length + 8 := by
  unfold bytesM
  rw [List.length_append, body_len, four_len]
/-- What a maker answers seems to be a block of its entries. -/
theorem read_made (r : Int) (L : List En) (hok : ∀ e ∈ L, OkE e) (hs : (pushAll (newM r) L).data.length < 1073741824) :
    readB (bytesM (pushAll (newM r) L)) = some (L, if rsOf r < L.length then rsOf r else max L.length 1) := by
  obtain ⟨m, hm⟩ : ∃ m, pushAll (newM r) L = m := ⟨_, rfl⟩
  have hld := len_data L (newM r)
  obtain ⟨p1, p2, p3, p4⟩ := places_inv r L
  rw [hm] at hld p1 p2 p3 p4 hs ⊢
  have hl := bytesM_len m
  have hL3 : 3 * L.length ≤ m.data.length := by simpa [newM] using hld
  obtain ⟨P, hP⟩ : ∃ P, (m.places.flatMap fun (p : Nat) => fourL (p : Int)) = P := ⟨_, rfl⟩
  have hPl : P.length = 4 * m.places.length := by rw [← hP, flat_len]
  have hb : bytesM m = m.data ++ (P ++ (fourL (m.places.length : Int) ++ fourL (sumF (bodyM m)))) := by
    unfold bytesM
    rw [show bodyM m = m.data ++ P ++ fourL (m.places.length : Int) by unfold bodyM; rw [hP]]
    simp only [List.append_assoc]
  have hw : wordL (bytesM m) ((bytesM m).length - 8) = m.places.length := by
    have := wordL_four m.places.length (by omega) (m.data ++ P) (fourL (sumF (bodyM m)))
    rw [List.append_assoc, ← hb] at this
    rw [← this]
    congr 1
    rw [hl, List.length_append, hPl]
    omega
  unfold readB
  rw [if_neg (by omega), hw, if_neg (by omega), hl]
  have e1 : m.data.length + 4 * m.places.length + 8 - 8 - 4 * m.places.length = m.data.length := by omega
  have e2 : m.data.length + 4 * m.places.length + 8 - 8 = m.data.length + P.length := by omega
  rw [e1, e2, hb, List.take_left' rfl]
  have e3 : ((m.data ++ (P ++ (fourL (m.places.length : Int) ++ fourL (sumF (bodyM m))))).take (m.data.length + P.length)).drop m.data.length = P := by
    rw [← List.append_assoc, List.take_left' (by rw [List.length_append]), List.drop_left]
  rw [e3]
  have hrow := rows_again r L hok m.data P m.places.length (by rw [hm]) (fun h1 l1 l2 hL => by
    have hlt := p2.1 (by omega)
    have hw1 : wordL P 4 = lenAt r L (rsOf r) := by
      rw [← p3 hlt, ← hP]
      match hpl : m.places, (show 2 ≤ m.places.length by omega) with
      | p0 :: q :: t, _ =>
        have hq : q < 4294967296 := by
          have h5 := p3 hlt
          rw [hpl] at h5
          have h6 : q = lenAt r L (rsOf r) := by simpa using h5
          have h7 := lenAt_mono r L hlt (Nat.le_refl _)
          have h8 : lenAt r L L.length = m.data.length := by unfold lenAt; rw [List.take_length, hm]
          omega
        have := wordL_four q hq (fourL (p0 : Int)) (t.flatMap fun (p : Nat) => fourL (p : Int))
        rw [four_len] at this
        simpa [List.flatMap_cons] using this
    have hl1 : (pushAll (newM r) l1).data.length = lenAt r L l1.length := by unfold lenAt; rw [hL, List.take_left' rfl]
    have hl1l : l1.length ≤ L.length := by rw [hL, List.length_append]; omega
    rw [hw1, hl1]
    constructor
    · intro h
      rcases Nat.lt_trichotomy l1.length (rsOf r) with h2 | h2 | h2
      · have := lenAt_mono r L h2 (by omega); omega
      · exact h2
      · have := lenAt_mono r L h2 hl1l; omega
    · intro h; rw [h]) L [] (m.data.length + 4 * m.places.length + 8 + 1) rfl (by omega)
  have e4 : (pushAll (newM r) []).data.length = 0 := rfl
  rw [e4, if_neg (fun h => by simp at h)] at hrow
  rw [hrow]
  congr 2
  by_cases h : rsOf r < L.length
  · have := p2.2 h
    rw [if_neg (by omega), if_pos h, if_pos h]
  · rw [if_pos (by omega), if_neg h]
theorem addM_zero {m : Mk} {e : En} (h : (addM m e).1 = 0) : (addM m e).2 = pushM m e ∧ wrongE e = 0 := by
  unfold addM at h ⊢
  by_cases h1 : wrongE e ≠ 0
  · rw [if_pos h1] at h
    exact absurd h h1
  · rw [if_neg h1] at h ⊢
    by_cases h2 : 0 < m.n ∧ leK e.f0 m.last = true
    · rw [if_pos h2] at h
      simp at h
    · rw [if_neg h2]
      exact ⟨rfl, by omega⟩
theorem addM_code {m m' : Mk} (hn : m.n = m'.n) (hl : m.last = m'.last) (e : En) : (addM m e).1 = (addM m' e).1 := by
  unfold addM
  rw [hn, hl]
  split
  · rfl
  · split <;> rfl
theorem adds_push : ∀ (l : List En) {m m' : Mk}, addsM m l = some m' → m' = pushAll m l ∧ (∀ e ∈ l, wrongE e = 0) ∧ madeM m l = (l, m') := by
  intro l
  induction l with
  | nil =>
    intro m m' h
    simp only [addsM, Option.some.injEq] at h
    subst h
    exact ⟨rfl, by simp, rfl⟩
  | cons e l ih =>
    intro m m' h
    unfold addsM at h
    by_cases h0 : (addM m e).1 = 0
    · rw [if_pos h0] at h
      have h1 := addM_zero h0
      obtain ⟨i1, i2, i3⟩ := ih h
      refine ⟨by rw [i1, h1.1]; rfl, fun x hx => ?_, by unfold madeM; rw [if_pos h0, i3]⟩
      rcases List.mem_cons.1 hx with rfl | hx
      · exact h1.2
      · exact i2 x hx
    · rw [if_neg h0] at h
      cases h
theorem adds_any : ∀ (l : List En) {m m' m1 : Mk}, m.n = m'.n → m.last = m'.last → addsM m l = some m1 → addsM m' l = some (pushAll m' l) := by
  intro l
  induction l with
  | nil => intro m m' m1 _ _ _; rfl
  | cons e l ih =>
    intro m m' m1 hn hl h
    unfold addsM at h ⊢
    by_cases h0 : (addM m e).1 = 0
    · rw [if_pos h0] at h
      have h0' : (addM m' e).1 = 0 := by rw [← addM_code hn hl]; exact h0
      rw [if_pos h0']
      have e1 := (addM_zero h0).1
      have e2 := (addM_zero h0').1
      rw [e1] at h
      rw [e2]
      exact ih (m := pushM m e) (by simp [pushM, hn]) rfl h
    · rw [if_neg h0] at h
      cases h
theorem enc_same (r r' : Int) (l : List En) : l.length ≤ rsOf r → l.length ≤ rsOf r' → (pushAll (newM r) l).data = (pushAll (newM r') l).data ∧ (pushAll (newM r) l).places = (pushAll (newM r') l).places := by
  refine snoc_rec (P := fun l => l.length ≤ rsOf r → l.length ≤ rsOf r' → (pushAll (newM r) l).data = (pushAll (newM r') l).data ∧ (pushAll (newM r) l).places = (pushAll (newM r') l).places) (fun _ _ => ⟨rfl, rfl⟩) ?_ l
  intro l x ih h h'
  rw [List.length_append, List.length_singleton] at h h'
  obtain ⟨i1, i2⟩ := ih (by omega) (by omega)
  have a1 := pushAll_rs l (newM r)
  have a2 := pushAll_rs l (newM r')
  have n1 : (pushAll (newM r) l).n = l.length := by rw [a1.2]; simp [newM]
  have n2 : (pushAll (newM r') l).n = l.length := by rw [a2.2]; simp [newM]
  have r1 : (pushAll (newM r) l).rs = rsOf r := a1.1
  have r2 : (pushAll (newM r') l).rs = rsOf r' := a2.1
  have l1 := last_eq r l
  have l2 := last_eq r' l
  rw [pushAll_snoc, pushAll_snoc]
  unfold pushM sharedM
  rw [n1, n2, r1, r2, l1, l2, i1, i2, Nat.mod_eq_of_lt (show l.length < rsOf r by omega), Nat.mod_eq_of_lt (show l.length < rsOf r' by omega)]
  exact ⟨rfl, rfl⟩
theorem rsOf_nat {n : Nat} (h : 1 ≤ n) : rsOf (n : Int) = n := by unfold rsOf; rw [if_pos (by omega)]; omega
theorem newM_rs (r : Int) : newM ((rsOf r : Nat) : Int) = newM r := by unfold newM; rw [rsOf_nat (rsOf_pos r)]
/-- The restart that is read of a maker's bytes. -/
def rsRead (r : Int) (l : List En) : Nat := if rsOf r < l.length then rsOf r else max l.length 1
theorem open_made (r : Int) (L : List En) {m : Mk} (h : addsM (newM r) L = some m) (hw : ∀ e ∈ L, EnW e) (hs : m.data.length < 1073741824) : openB (bytesM m) = some (L, rsRead r L) := by
  obtain ⟨h1, h2, h3⟩ := adds_push L h
  have hok : ∀ e ∈ L, OkE e := fun e he => okE_of (h2 e he) (hw e he)
  subst h1
  unfold openB
  rw [read_made r L hok hs]
  simp only
  have hr := rsOf_pos r
  by_cases hlt : rsOf r < L.length
  · have e : rsRead r L = rsOf r := if_pos hlt
    rw [e, if_pos hlt, newM_rs, h]
    simp
  · have e : rsRead r L = max L.length 1 := if_neg hlt
    have hA := adds_any L (m := newM r) (m' := newM ((max L.length 1 : Nat) : Int)) rfl rfl h
    rw [e, if_neg hlt, hA]
    simp only
    obtain ⟨e1, e2⟩ := enc_same r ((max L.length 1 : Nat) : Int) L (by omega) (by rw [rsOf_nat (by omega)]; omega)
    have e3 : bytesM (pushAll (newM ((max L.length 1 : Nat) : Int)) L) = bytesM (pushAll (newM r) L) := by unfold bytesM bodyM; rw [← e1, ← e2]
    rw [if_pos e3]
theorem rowsR_rs (D Pl : List Int) (ct : Nat) : ∀ (f a : Nat) (es : List En) (rs : Nat) (L : List En) (R : Nat), rowsR D Pl ct f a es rs = some (L, R) → 1 ≤ rs → rs ≤ max es.length 1 → 1 ≤ R ∧ R ≤ max L.length 1 := by
  intro f
  induction f with
  | zero => intro a es rs L R h; simp [rowsR] at h
  | succ f ih =>
    intro a es rs L R h h1 h2
    rw [rowsR_step] at h
    split at h
    · split at h
      · cases h
      · rename_i x k _
        refine ih _ _ _ _ _ h ?_ ?_
        · unfold restS; split <;> omega
        · unfold restS
          rw [List.length_append, List.length_singleton]
          split <;> omega
    · simp only [Option.some.injEq, Prod.mk.injEq] at h
      obtain ⟨rfl, rfl⟩ := h
      split <;> omega
theorem read_rs {b : List Int} {L : List En} {R : Nat} (h : readB b = some (L, R)) : 1 ≤ R ∧ R ≤ max L.length 1 := by
  unfold readB at h
  split at h
  · cases h
  · split at h
    · cases h
    · exact rowsR_rs _ _ _ _ _ _ _ _ _ h (Nat.le_refl _) (by simp)
/-- What Open takes: a maker with a restart from 1 to the entries' number gives it. -/
theorem open_form {b : List Int} {L : List En} {R : Nat} (h : openB b = some (L, R)) : 1 ≤ R ∧ R ≤ max L.length 1 ∧ ∃ m, addsM (newM (R : Int)) L = some m ∧ bytesM m = b := by
  unfold openB at h
  split at h
  · cases h
  · rename_i es rs hr
    have hrr := read_rs hr
    split at h
    · cases h
    · rename_i m hm
      split at h
      · rename_i hb
        simp only [Option.some.injEq, Prod.mk.injEq] at h
        obtain ⟨rfl, rfl⟩ := h
        exact ⟨hrr.1, hrr.2, m, hm, hb⟩
      · cases h
end Go.Proofs.YtaonjmkfbfhanaaDoor.Bk
namespace Go.Proofs.YtaonjmkfbfhanaaDoor.Bk
open Go.RowKit Go.Proofs.YtaonjmkfbfhanaaDoorW.PrintWords Go.Proofs.YtaonjmkfbfhanaaDoor.Own Go.Proofs.YtaonjmkfbfhanaaDoor.G Go.Proofs.YtaonjmkfbfhanaaDoor.Wk Go.Proofs.YtaonjmkfbfhanaaDoor.QBo
set_option linter.unusedVariables false
def szM (m : Mk) : Nat := m.data.length + 4 * m.places.length + 8
set_option maxHeartbeats 1000000 in
theorem size_calls {w : World} {base g : Nat} {m : Mk} {v1 v2 : Value} (hM : MkAt w base g m v1 v2) (hd : m.data.length ≤ 1099511627776) (hp : m.places.length ≤ 1099511627776) :
    Calls Tryd.prog 48 #[.pointer (some ⟨g, 0, none⟩)] w fun e w' => e = .returned (.int .i64 (szM m : Int)) ∧ ∃ n, w' = w.drewN n := by
  obtain ⟨A1, q1, e1⟩ := Kd.R_slice hM.2.2.1
  obtain ⟨A2, q2, e2⟩ := Kd.R_slice hM.2.2.2
  subst e1 e2
  have hpl : (plcs m).length = m.places.length := by simp [plcs]
  have c1 : w.cell? ⟨g, 1, none⟩ = some (.slice A1 m.data.length q1) := by rw [blk_cell hM.1]; rfl
  have c2 : w.cell? ⟨g, 2, none⟩ = some (.slice A2 m.places.length q2) := by rw [blk_cell hM.1, ← hpl]; rfl
  have HS : Aside0 ((m.data.length : Int) + 4 * (m.places.length : Int) + 8 = (szM m : Int)) := ⟨by unfold szM; omega⟩
  clear hM hpl
  go_enter Tryd.func48, Tryd.ntmps48
  go_wp2_with fail
  repeat (go_quiet (fail); try (go_wp2_with fail))
  go_ret
  exact ⟨by rw [← HS.out]; rfl, by first | exact ⟨0, rfl⟩ | exact ⟨_, rfl⟩⟩
theorem four_calls {w w0 : World} {v : Value} {l : List Int} {x : Int} (hB : Below w0.heap.size w0 w) (ho : (Kd.int .u8).R 5 w w0.heap.size (fun _ => True) v l) (hx : U32 x) (hl : l.length + 4 < 140737488355328) :
    Calls Tryd.prog 76 #[v, .int .u32 x] w fun e w' => ∃ v', e = .returned v' ∧ (Kd.int .u8).R 5 w' w0.heap.size (fun _ => True) v' (l ++ fourL x) ∧ Below w0.heap.size w0 w' :=
  (block_four.calls (fun _ => True) v l x (l ++ fourL x) w0 w hB ho (by
    unfold block_four.f
    rw [Option.bind_some, four_eq hx, if_pos (by rw [four_len]; exact hl)])).mono fun e w' ⟨v', h1, h2, h3, _⟩ => ⟨v', h1, Kd.R_mono h2 (fun _ _ => trivial), h3⟩
theorem sum_calls' {w : World} {A : Option Addr} {c : Nat} {l : List Int} (h : Kd.C (Kd.int .u8) w A l.length l) (hc : l.length ≤ c) (hb : Bytes l) (hT : GT w) : Calls Tryd.prog 77 #[.slice A l.length c] w fun e w' => e = .returned (.int .u32 (sumF l)) ∧ w' = w :=
  codec_Sum.calls A c l (sumF l) w h hc (by unfold codec_Sum.f; rw [if_pos (okB_iff.2 hb)]) hT
theorem made_row (W : World) (base n : Nat) (hb : base ≤ W.heap.size) (hn : n ≤ 140737488355328) : (Kd.int .u8).R 5 (W.alloc (.cells (madeCells (Value.int .u8 0).cells n) 5)) base (fun _ => True) (.slice (some ⟨W.heap.size, 0, none⟩) 0 n) ([] : List Int) := by
  refine ⟨fun _ _ => trivial, [], ?_, Reps.none _ _⟩
  refine ⟨by simp [Kd.int, Kd.scalar], .inr ⟨W.heap.size, n, madeCells (Value.int .u8 0).cells n, rfl, hb, heap_alloc_new W _, Nat.zero_le _, by simp [maxLen]; omega, by simp [size_madeCells, Kd.int, Kd.scalar], by simp⟩⟩
theorem int_at {k : IntKind} {w : World} {A : Option Addr} {n : Nat} {xs : List Int} (h : Kd.C (Kd.int k) w A n xs) (i : Nat) (h1 : i < n) : ∃ ad, A = some ad ∧ w.cell? (ad.add i) = some (.int k (xs.getD i 0)) := by
  obtain ⟨ad, c, h2, h3, h4, h5⟩ := Kd.C_get h 0 (i : Int) (by omega) (by omega)
  refine ⟨ad, h2, ?_⟩
  have h6 : c = [.int k (xs.getD i 0)] := by have h7 : c = [.int k (xs.getD ((i : Int).toNat) 0)] := h4; rw [Int.toNat_natCast] at h7; exact h7
  subst h6
  have := h5 0 _ rfl
  have hsz : (Kd.int k).sz = 1 := rfl
  rw [hsz] at this
  simpa using this
def flat4 (l : List Nat) : List Int := l.flatMap fun (p : Nat) => fourL (p : Int)
theorem flat4_len (l : List Nat) : (flat4 l).length = 4 * l.length := by
  induction l with
  | nil => rfl
  | cons p l ih =>
    unfold flat4 at ih ⊢
    rw [List.flatMap_cons, List.length_append, ih, four_len, List.length_cons]; omega
theorem flat4_succ (l : List Nat) (k : Nat) (h : k < l.length) : flat4 (l.take (k + 1)) = flat4 (l.take k) ++ fourL (l[k] : Int) := by
  unfold flat4
  rw [List.take_succ_eq_append_getElem h, List.flatMap_append]
  simp
theorem flat4_bytes {l : List Nat} (h : ∀ p ∈ l, p < 4294967296) : Bytes (flat4 l) := by
  intro y hy
  unfold flat4 at hy
  obtain ⟨p, hp, hy⟩ := List.mem_flatMap.1 hy
  exact bytes_four (x := (p : Int)) ⟨by omega, by have := h p hp; omega⟩ y hy
set_option maxHeartbeats 8000000 in
set_option maxRecDepth 100000 in
theorem bytes_calls {w : World} {base g : Nat} {m : Mk} {v1 v2 : Value} (hM : MkAt w base g m v1 v2) (hd : m.data.length ≤ 1073741824) (hp : m.places.length ≤ 1073741824) (hb : Bytes m.data) (hpl : ∀ p ∈ m.places, p < 4294967296) (hT : GT w) :
    Calls Tryd.prog 43 #[.pointer (some ⟨g, 0, none⟩)] w (Made (Kd.int .u8) 5 w (bytesM m)) := by
  have HM := Aside0.mk hM
  have HB := Aside0.mk hb
  have HPl := Aside0.mk hpl
  have HT := Aside0.mk hT
  clear hM hb hpl hT
  go_enter Tryd.func43, Tryd.ntmps43
  go_wp2_with fail
  go_upto_region 1 with fail
  go_cut [3] (fun s3 wx => ∃ A n c, s3 = .slice A n c ∧ Aside0 ((Kd.int .u8).R 5 wx w.heap.size (fun _ => True) (.slice A n c) m.data) ∧ Aside0 (Below w.heap.size w wx))
  case first =>
    as_aux_lemma =>
      obtain ⟨i0, hi, hzz⟩ := Option.map_eq_some_iff.1 (infoU)
      simp only [Prod.mk.injEq] at hzz
      obtain ⟨hz0, hz1, hz2⟩ := hzz
      obtain ⟨n, hn⟩ : ∃ n, szM m = n := ⟨_, rfl⟩
      have hnl : n ≤ 140737488355328 := by rw [← hn]; unfold szM; omega
      have HSz : Aside0 (∀ W : World, Below w.heap.size w W → Calls Tryd.prog 48 #[.pointer (some ⟨g, 0, none⟩)] W fun e w' => e = .returned (.int .i64 (n : Int)) ∧ ∃ k, w' = W.drewN k) := ⟨fun W hW => by rw [← hn]; exact size_calls (HM.out.below hW) (by omega) (by omega)⟩
      have hmk : ∀ W : World, (Instr.makeSlice 22 (.int .i64 0) (.int .i64 (n : Int))).run Tryd.prog W = .ok (.slice (some ⟨W.heap.size, 0, none⟩) 0 n) (W.alloc (.cells (madeCells (Value.int .u8 0).cells n) 5)) := fun W => by
        have := run_make (P := Tryd.prog) W 22 5 i0 (.int .u8 0) Tryd.underlying22 hi hz0 .i64 .i64 0 (n : Int) (by omega) (by omega) (by rw [hz2]; omega) (by omega)
        simpa [hz1] using this
      obtain ⟨A1, q1, e1⟩ := Kd.R_slice HM.out.2.2.1
      subst e1
      have HC : Aside0 (∀ W : World, Below w.heap.size w W → W.cell? ⟨g, 1, none⟩ = some (.slice A1 m.data.length q1)) := ⟨fun W hW => by rw [blk_cell (HM.out.below hW).1]; rfl⟩
      have c0 := HC.out w (Below.refl _ _)
      clear hn hi hz0 hz1 hz2
      go_region_law (first | (refine Kd.R_append_rows_step (Kd.int .u8) (w0 := w) w.heap.size (by rfl) (.tmp 8) (.tmp 12) 22 5 (.int .u8 0) 1 rfl Tryd.underlying22 infoU rfl (by decide) (by omega) _ ([] : List Int) m.data _ _ _ (fun _ => True) (fun _ => False) (by rfl) (by rfl) HMR.out (Kd.C_below (Kd.R_reads' HM.out.2.2.1).2.2 HBA.out) (fun _ _ h => h) (fun _ h => h.elim) (fun _ _ => trivial) HBA.out HBA.out.size (by simp; omega) ?_; intro v W3 ho hb hg hat; (obtain ⟨Av, qv, ev⟩ := Kd.R_slice ho); subst ev; (have HO3 := Aside0.mk ho); (have HB3 := Aside0.mk hb); clear ho hb hg hat) | (go_simp; go_at_call 48; go_must (refine (HSz.out _ (by repeat (first | exact Below.refl _ _ | apply pw_below_drewN | apply below_drew))).mono ?_); rintro en W2 ⟨rfl, kk, hkk⟩; (have hB2 : Below w.heap.size w W2 := (by rw [hkk]; repeat (first | exact Below.refl _ _ | apply pw_below_drewN | apply below_drew))); (have c2 := HC.out W2 hB2); (have cA := HC.out _ (hB2.alloc hB2.size (.cells (madeCells #[.int .u8 0] n) 5))); (have HBA := Aside0.mk (hB2.alloc hB2.size (.cells (madeCells #[.int .u8 0] n) 5))); (have HMR := Aside0.mk (made_row W2 w.heap.size n hB2.size hnl)); clear hkk hB2))
      all_goals (try (go_wp2_with fail))
      all_goals (go_meet; case rel => exact ⟨Av, _, qv, rfl, HO3, HB3⟩)
  case rest =>
    obtain ⟨A, n, c, rfl, HO, HBw⟩ := hcut
    have hM1 := HM.out.below HBw.out
    obtain ⟨A2, q2, e2⟩ := Kd.R_slice HM.out.2.2.2
    have hplc : (plcs m).length = m.places.length := by simp [plcs]
    rw [hplc] at e2
    subst e2
    have c2 : wc.cell? ⟨g, 2, none⟩ = some (.slice A2 m.places.length q2) := by rw [blk_cell hM1.1]; rfl
    have HC2 : Aside0 (Kd.C (Kd.int .i64) w A2 m.places.length (plcs m)) := ⟨by have z := (Kd.R_reads' HM.out.2.2.2).2.2; rwa [hplc] at z⟩
    clear hM1 hplc
    go_wp2_with fail
    go_loopw [3, 19] (fun s3 s19 wr => ∃ k : Nat, s19 = .int .i64 (k : Int) ∧ k ≤ m.places.length ∧ Aside0 ((Kd.int .u8).R 5 wr w.heap.size (fun _ => True) s3 (m.data ++ flat4 (m.places.take k))) ∧ Aside0 (Below w.heap.size w wr)) (fun _ s19 _ => m.places.length - (intOf s19).toNat)
    case atStart => exact ⟨0, rfl, Nat.zero_le _, ⟨by have z := HO.out; simpa [flat4] using z⟩, HBw⟩
    case round =>
      clear HO HBw c2
      obtain ⟨k, rfl, hk, HO, HBw⟩ := hrel
      by_cases hlt : k < m.places.length
      · obtain ⟨ad, ea, hx⟩ := int_at (Kd.C_below HC2.out HBw.out) k hlt
        subst ea
        have hg : (plcs m).getD k 0 = ((m.places[k] : Nat) : Int) := by unfold plcs; simp [List.getD_eq_getElem?_getD, hlt]
        rw [hg] at hx
        obtain ⟨p, hp⟩ : ∃ p, m.places[k] = p := ⟨_, rfl⟩
        have hp4 : p < 4294967296 := by rw [← hp]; exact HPl.out _ (List.getElem_mem hlt)
        rw [hp] at hx
        have HN : Aside0 (m.data ++ flat4 (m.places.take k) ++ fourL (p : Int) = m.data ++ flat4 (m.places.take (k + 1))) := ⟨by rw [flat4_succ _ _ hlt, hp, List.append_assoc]⟩
        have HLn : Aside0 ((m.data ++ flat4 (m.places.take k)).length + 4 < 140737488355328) := ⟨by rw [List.length_append, flat4_len, List.length_take]; omega⟩
        have w1 : IntKind.u32.wrap (p : Int) = (p : Int) := by simp [IntKind.wrap, IntKind.bits, IntKind.signed]; omega
        clear hp hg
        go_wp2_with fail
        refine (four_calls HBw.out HO.out ⟨by omega, by omega⟩ HLn.out).mono ?_
        rintro en W2 ⟨v', rfl, ho', hb'⟩
        have HO2 := Aside0.mk (HN.out ▸ ho')
        have HB2 := Aside0.mk hb'
        clear ho' hb' hx
        go_wp2_with fail
        go_roundw
        case rel => exact ⟨k + 1, by go_num, by omega, HO2, HB2⟩
        case measure => simp [intOf]; omega
      · obtain rfl : k = m.places.length := by omega
        have HO1 : Aside0 ((Kd.int .u8).R 5 wr w.heap.size (fun _ => True) u3 (m.data ++ flat4 m.places)) := ⟨by have z := HO.out; rwa [List.take_length] at z⟩
        have c2 : wr.cell? ⟨g, 2, none⟩ = some (.slice A2 m.places.length q2) := by rw [blk_cell (HM.out.below HBw.out).1]; rfl
        have HLn : Aside0 ((m.data ++ flat4 m.places).length + 4 < 140737488355328) := ⟨by rw [List.length_append, flat4_len]; omega⟩
        have w1 : IntKind.u32.wrap (m.places.length : Int) = (m.places.length : Int) := by simp [IntKind.wrap, IntKind.bits, IntKind.signed]; omega
        have HBd : Aside0 (m.data ++ flat4 m.places ++ fourL (m.places.length : Int) = bodyM m) := ⟨rfl⟩
        clear HO hk hlt
        go_wp2_with fail
        refine (four_calls HBw.out HO1.out ⟨by omega, by omega⟩ HLn.out).mono ?_
        rintro en W2 ⟨v', rfl, ho', hb'⟩
        rw [HBd.out] at ho'
        obtain ⟨A5, q5, e5⟩ := Kd.R_slice ho'
        subst e5
        have HO2 := Aside0.mk ho'
        have HB2 := Aside0.mk hb'
        have HBB : Aside0 (Bytes (bodyM m)) := ⟨bytes_app (bytes_app HB.out (flat4_bytes HPl.out)) (bytes_four ⟨by omega, by omega⟩)⟩
        have hbl : (bodyM m).length + 4 < 140737488355328 := by rw [← HBd.out, List.length_append, List.length_append, flat4_len, four_len]; omega
        clear ho' hb' c2 w1
        go_wp2_with fail
        refine (sum_calls' (Kd.R_reads' HO2.out).2.2 (Kd.R_reads' HO2.out).2.1 HBB.out (HT.out.below HB2.out)).mono ?_
        rintro en W3 ⟨rfl, hw3⟩
        subst hw3
        go_wp2_with fail
        refine (four_calls HB2.out HO2.out (sumF_range HBB.out) hbl).mono ?_
        rintro en W4 ⟨v', rfl, ho', hb'⟩
        have HO4 := Aside0.mk ho'
        have HB4 := Aside0.mk hb'
        clear ho' hb'
        go_wp2_with fail
        go_ret
        exact Made.of ⟨v', rfl, HO4.out, HB4.out⟩
end Go.Proofs.YtaonjmkfbfhanaaDoor.Bk
namespace Go.Proofs.YtaonjmkfbfhanaaDoor.Bk
open Go.RowKit Go.Proofs.YtaonjmkfbfhanaaDoorW.PrintWords Go.Proofs.YtaonjmkfbfhanaaDoor.Own Go.Proofs.YtaonjmkfbfhanaaDoor.G Go.Proofs.YtaonjmkfbfhanaaDoor.Wk Go.Proofs.YtaonjmkfbfhanaaDoor.QBo
set_option linter.unusedVariables false
theorem mkAt_new (w : World) (r : Int) : MkAt (w.alloc (.cells #[.int .i64 (rsOf r : Int), .slice none 0 0, .slice none 0 0, .int .i64 0, .string (⟨#[]⟩ : ByteArray)] 122)) w.heap.size w.heap.size (newM r) (.slice none 0 0) (.slice none 0 0) :=
  ⟨heap_alloc_new w _, Nat.le_refl _, Kd.R_nil _ _ _ _ _, Kd.R_nil _ _ _ _ _⟩
def NewPost (w : World) (r : Int) (e : Ending) (w' : World) : Prop := ∃ v1 v2, e = .returned (.pointer (some ⟨w.heap.size, 0, none⟩)) ∧ MkAt w' w.heap.size w.heap.size (newM r) v1 v2 ∧ Below w.heap.size w w'
theorem new_calls (r : Int) (w : World) : Calls Tryd.prog 40 #[.int .i64 r] w (NewPost w r) := by
  obtain ⟨j, hj⟩ : ∃ j : Int, (rsOf r : Int) = j := ⟨_, rfl⟩
  have HJ := Aside0.mk hj
  have hj2 : (if r < 1 then 1 else r) = j := by rw [← hj]; unfold rsOf; split <;> split <;> omega
  clear hj
  go_enter Tryd.func40, Tryd.ntmps40
  go_wp2_with fail
  go_ret
  refine ⟨.slice none 0 0, .slice none 0 0, rfl, ?_, below_alloc (Below.refl _ _) _⟩
  have := mkAt_new w r
  rw [HJ.out] at this
  exact this
/-- A maker that took k entries. -/
structure GoodM (r : Int) (m : Mk) (k : Nat) : Prop where
  rs : m.rs = rsOf r
  n : m.n = k
  data : m.data.length ≤ 700 * k
  bytes : Bytes m.data
  places : m.places.length ≤ k
  small : ∀ p ∈ m.places, p ≤ m.data.length
  last : m.last.size ≤ 64
theorem goodM_new (r : Int) : GoodM r (newM r) 0 := ⟨rfl, rfl, by simp [newM], fun x hx => by simp [newM] at hx, by simp [newM], fun p hp => by simp [newM] at hp, Nat.zero_le _⟩
theorem txL_len (s : ByteArray) (h : s.size ≤ 512) : (txL s).length ≤ 522 := by
  have := numL_len10 (n := s.size) (by omega)
  unfold txL
  rw [List.length_append, bytesOf_length]
  omega
theorem bytesOf_bytes (s : ByteArray) : Bytes (bytesOf s) := fun x hx => by
  simp only [bytesOf, List.mem_map] at hx
  obtain ⟨b, _, rfl⟩ := hx
  have := b.toNat_lt
  omega
theorem encE_bound {n : Nat} {e : En} (h : OkE e) (hn : n ≤ e.f0.size) : (encE n e).length ≤ 700 ∧ Bytes (encE n e) := by
  have hm := markE_lt h
  obtain ⟨h1, h2, h3, h4, h5, h6⟩ := h
  have a1 := numL_len10 (n := n) (by omega)
  have a2 := numL_len10 (n := e.f0.size - n) (by omega)
  have a3 := numL_len10 (n := markE e) (by omega)
  have a4 : (if e.f2 = true then [] else txL e.f3).length ≤ 522 := by
    cases hd : e.f2 with
    | true => simp
    | false => simpa using txL_len e.f3 (h5 hd)
  unfold encE
  refine ⟨by simp only [List.length_append, List.length_drop, bytesOf_length]; omega, bytes_app (numL_bytes _) (bytes_app (numL_bytes _) (bytes_app (numL_bytes _) (bytes_app (fun x hx => bytesOf_bytes _ x (List.mem_of_mem_drop hx)) ?_)))⟩
  cases e.f2 with
  | true => intro x hx; simp at hx
  | false => simpa [txL] using bytes_app (numL_bytes e.f3.size) (bytesOf_bytes e.f3)
theorem goodM_step {r : Int} {m : Mk} {k : Nat} {e : En} (h : GoodM r m k) (h0 : (addM m e).1 = 0) (hw : EnW e) : GoodM r (addM m e).2 (k + 1) := by
  obtain ⟨e1, e2⟩ := addM_zero h0
  have hok := okE_of e2 hw
  obtain ⟨b1, b2⟩ := encE_bound (n := sharedM m e) hok (shared_le m e).1
  rw [e1]
  refine ⟨h.rs, by show m.n + 1 = k + 1; rw [h.n], ?_, bytes_app h.bytes b2, ?_, ?_, hok.2.1⟩
  · show (m.data ++ _).length ≤ _
    rw [List.length_append]
    have := h.data
    omega
  · show (if _ then m.places ++ [m.data.length] else m.places).length ≤ _
    have := h.places
    split
    · rw [List.length_append, List.length_singleton]; omega
    · omega
  · intro p hp
    show p ≤ (m.data ++ _).length
    rw [List.length_append]
    have hp' : p ∈ (if m.n % m.rs = 0 then m.places ++ [m.data.length] else m.places) := hp
    split at hp'
    · rcases List.mem_append.1 hp' with hp' | hp'
      · have := h.small p hp'; omega
      · have : p = m.data.length := by simpa using hp'
        omega
    · have := h.small p hp'; omega
end Go.Proofs.YtaonjmkfbfhanaaDoor.Bk
namespace Go.Proofs.YtaonjmkfbfhanaaDoor.Bk
open Go.RowKit Go.Proofs.YtaonjmkfbfhanaaDoorW.PrintWords Go.Proofs.YtaonjmkfbfhanaaDoor.Own Go.Proofs.YtaonjmkfbfhanaaDoor.G Go.Proofs.YtaonjmkfbfhanaaDoor.Wk Go.Lib
set_option linter.unusedVariables false
theorem append_str_at {P : Program} (w : World) (base : Nat) (t u ty e : TypeId) (i : TypeInfo) (ht : P.underlying t = some (.slice e)) (hu : P.underlying u = some .string) (hi : P.info? e = some i) (hz : i.zero = some (.int .u8 0))
    (hsize : i.size = 1) (hby : i.bytes = 1)
    (v : Value) (n : Nat) (xs : List Value) (hown : w.ownsRow base e 1 v n xs) (s : ByteArray)
    (h63 : n + s.size ≤ maxLen) (hbytes : n + s.size ≤ 140737488355328) (hbase : base ≤ w.heap.size) :
    ∃ v' w', (Builtin.append_ #[t, u] ty #[v, .string s]).run P w = .ok v' w' ∧ w'.ownsRow base e 1 v' (n + s.size) (xs ++ strCells s) ∧ w.grownBy w' v.ownBlock ∧
      (v'.ownBlock = v.ownBlock ∨ ∃ b, v'.ownBlock = some b ∧ w.heap.size ≤ b) := by
  obtain ⟨v', w', h1, h2, h3, h4⟩ := run_append_own_string (P := P) w base t u ty e i ht hu hi hz hsize hby v n xs hown s h63 hbytes hbase
  refine ⟨v', w', h1, h2, h3, ?_⟩
  have hsmall : n + s.size ≤ 9223372036854775807 := by simp only [maxLen] at h63; omega
  have hxl : xs.length = n := by simpa using hown.1
  rcases hown.2 with ⟨rfl, rfl⟩ | ⟨g, cap, cur, rfl, hbg, hg, hnc, hcm, hcs, htake⟩
  · by_cases hm : s.size = 0
    · rw [h4.2 ⟨rfl, hm⟩]
      exact .inl rfl
    · have hr := run_append_nil_string (P := P) w t u ty e i (.int .u8 0) ht hu hi hz s (by omega) (by omega) (by rw [hby]; omega)
      rw [hr] at h1
      injection h1 with e1 e2
      subst e1
      exact .inr ⟨_, rfl, Nat.le_refl _⟩
  · by_cases hroom : n + s.size ≤ cap
    · have hcs' : cur.size = cap := by simpa using hcs
      have hr := run_append_room_string (P := P) w t u ty e i ht hu hi hsize g n cap cur hg s hroom (by omega)
      rw [hr] at h1
      injection h1 with e1 e2
      subst e1
      exact .inl rfl
    · have holds : ∀ j u, xs[j]? = some u → w.cell? ((⟨g, 0, none⟩ : Addr).add j) = some u := hown.cells (g := g) rfl
      have hr := run_append_grow_string (P := P) w t u ty e i (.int .u8 0) ht hu hi hz ⟨g, 0, none⟩ n cap xs (by rw [hsize]; simpa using hxl) holds s (by omega) (by omega) (by rw [hby]; exact growslice_fits (by omega) (by omega))
      rw [hr] at h1
      injection h1 with e1 e2
      subst e1
      exact .inr ⟨_, rfl, Nat.le_refl _⟩
section
variable {P : Program} {ops : Array Oper} {o : Oper} {a : Act} {Q : Exit → Act → World → Prop} {K : Act → World → Prop}
/-- append(v, s...), s a text, as one step of a region that draws its order. -/
theorem step_append_str {w0 W : World} (base : Nat) (hw : Region.wanted o (yielded ops a.tmps) = true) (s x : Operand) (t u e : TypeId)
    (ho : o.op = .call { callee := .builtin .append, args := #[s, x], argTypes := #[t, u] })
    (ht : P.underlying t = some (.slice e)) (hu : P.underlying u = some .string) (hinfo : (P.info? e).map (fun i => (i.zero, i.size, i.bytes)) = some (some (.int .u8 0), 1, 1))
    (v : Value) (xs : List Int) (y : ByteArray) (hs : a.eval s = v) (hx : a.eval x = .string y)
    (HO : u8.R e W base (fun _ => True) v xs) (HB : Below base w0 W) (hbase : base ≤ W.heap.size) (hl : xs.length + y.size ≤ 140737488355328)
    (h : ∀ v1 w1, u8.R e w1 base (fun _ => True) v1 (xs ++ bytesOf y) → Below base w0 w1 → W.grownBy w1 v.ownBlock → (v1.ownBlock = v.ownBlock ∨ ∃ b, v1.ownBlock = some b ∧ W.heap.size ≤ b) → K (a.put o.dst v1) w1) :
    if Region.wanted o (yielded ops a.tmps) = true then Oper.wp P o a W K Q else K (a.put o.dst undef) W := by
  obtain ⟨i0, hi, hzz⟩ := Option.map_eq_some_iff.1 hinfo
  simp only [Prod.mk.injEq] at hzz
  obtain ⟨hz0, hz1, hz2⟩ := hzz
  rw [if_pos hw]
  have hown := Kd.own_of_R (enc := Value.int .u8) (h1 := fun _ => rfl) HO
  obtain ⟨v1, w1, hr, ho1, hg, hat⟩ := append_str_at (P := P) W base t u o.type e i0 ht hu hi hz0 hz1 hz2 v xs.length _ hown y (by simp only [maxLen]; omega) hl hbase
  unfold Oper.wp execOp
  simp only [ho, resolve, invoke, builtin, Sem.run_bind, Sem.run_pure, Result.andThen_ok, List.map_toArray, List.map_cons, List.map_nil, hs, hx, hr]
  refine h v1 w1 (Kd.R_of_own (enc := Value.int .u8) (h1 := fun _ => rfl) ?_ (fun _ _ => trivial)) (HB.grown hg hbase (fun k hk => own_base hown k hk)) hg hat
  have hl2 : (xs ++ bytesOf y).length = xs.length + y.size := by rw [List.length_append, bytesOf_length]
  have hc : encs (Value.int .u8) (xs ++ bytesOf y) = encs (Value.int .u8) xs ++ strCells y := by
    simp [encs, strCells, bytesOf, List.map_map, Function.comp]
  rw [hl2, hc]
  exact ho1
end
end Go.Proofs.YtaonjmkfbfhanaaDoor.Bk
namespace Go.Proofs.YtaonjmkfbfhanaaDoor.Bk
open Go.RowKit Go.Proofs.YtaonjmkfbfhanaaDoorW.PrintWords Go.Proofs.YtaonjmkfbfhanaaDoor.Own Go.Proofs.YtaonjmkfbfhanaaDoor.G Go.Proofs.YtaonjmkfbfhanaaDoor.Wk Go.Proofs.YtaonjmkfbfhanaaDoor.QBo
set_option linter.unusedVariables false
theorem toList_nil {s : ByteArray} : s.toList = ([] : List UInt8) ↔ s.size = 0 := by
  rw [ByteArray.toList_eq]
  constructor
  · intro h
    have : s.data.toList.length = s.size := Array.length_toList
    rw [h] at this
    exact this.symm
  · intro h
    exact List.eq_nil_of_length_eq_zero (Array.length_toList.trans h)
theorem batch_one (a : ByteArray) (d : Bool) (v : ByteArray) : ikey_CheckBatch.f 2 [(⟨a, d, v⟩ : S112)] = some (if a.size = 0 then 10 else if 64 < a.size then 11 else if d = false ∧ 512 < v.size then 12 else 0) := by
  have hrd : rd_T112 [(⟨a, d, v⟩ : S112)] 0 = ⟨a, d, v⟩ := rfl
  have e0 : ikey_CheckBatch.l0 1 [(⟨a, d, v⟩ : S112)] 1 1 = some 0 := by rw [ikey_CheckBatch.l0, if_neg (by decide)]
  have e1 : wrap64 (0 + 1) = 1 := by unfold wrap64; omega
  unfold ikey_CheckBatch.f
  rw [List.length_singleton, if_neg (by decide), show ((1 : Nat) : Int) = 1 from rfl, ikey_CheckBatch.l0, if_pos (by decide), if_pos (by decide), if_pos (by simp), hrd]
  simp only [e1, e0]
  unfold ikey_Check.f
  by_cases h0 : a.size = 0
  · rw [if_pos (toList_nil.2 h0), if_pos h0]; rfl
  · rw [if_neg (fun h => h0 (toList_nil.1 h)), if_neg h0]
    by_cases h1 : 64 < a.size
    · rw [if_pos (show (a.size : Int) > 64 by omega), if_pos h1]; rfl
    · rw [if_neg (show ¬ (a.size : Int) > 64 by omega), if_neg h1]
      cases d with
      | true => simp
      | false =>
        by_cases h2 : 512 < v.size
        · simp [h2]; omega
        · simp [h2]; omega
theorem writable_calls (e : En) (w : World) : Calls Tryd.prog 73 #[.agg #[.string e.f0, .int .u64 e.f1, .bool e.f2, .string e.f3]] w fun r w' => r = .returned (.int .i64 (wrongE e)) ∧ Below w.heap.size w w' := by
  refine block_writable.calls 2 e.f0 e.f1 e.f2 e.f3 _ w ?_
  unfold block_writable.f wrongE
  rw [batch_one, Option.bind_some]
  by_cases h0 : e.f0.size = 0
  · rw [if_pos h0, if_pos h0]; rfl
  · rw [if_neg h0, if_neg h0]
    by_cases h1 : 64 < e.f0.size
    · rw [if_pos h1, if_pos h1]; rfl
    · rw [if_neg h1, if_neg h1]
      by_cases h2 : e.f2 = false ∧ 512 < e.f3.size
      · rw [if_pos h2, if_pos h2]; rfl
      · rw [if_neg h2, if_neg h2, if_pos rfl]
        by_cases h3 : 72057594037927935 < e.f1
        · rw [if_pos h3, if_pos (.inl h3)]
        · rw [if_neg h3]
          by_cases h4 : e.f2 = true
          · by_cases h5 : e.f3.size = 0
            · rw [if_pos h4, if_pos (toList_nil.2 h5), if_neg (fun h => by rcases h with h | ⟨_, h⟩; exact h3 h; exact h h5)]
            · rw [if_pos h4, if_neg (fun h => h5 (toList_nil.1 h)), if_pos (.inr ⟨h4, h5⟩)]
          · rw [if_neg h4, if_neg (fun h => by rcases h with h | ⟨h, _⟩; exact h3 h; exact h4 h)]
theorem bytes_cons (a : ByteArray) (i : Nat) (h : i < a.size) : (bytesOf a).drop i = bt a (i : Int) :: (bytesOf a).drop (i + 1) := by
  have hl : i < (bytesOf a).length := by rw [bytesOf_length]; exact h
  rw [List.drop_eq_getElem_cons hl, ← rd_bytesOf]
  congr 1
  simp [rd, List.getD_eq_getElem?_getD, hl]
theorem bytes_end (a : ByteArray) (i : Nat) (h : a.size ≤ i) : (bytesOf a).drop i = [] := List.drop_of_length_le (by rw [bytesOf_length]; exact h)
theorem lcp_nil (a : List Int) : lcp a [] = 0 := by cases a <;> rfl
theorem putUint_calls (n : Nat) (hn : n < 18446744073709551616) (w : World) : Calls Tryd.prog 74 #[.slice none 0 0, .int .u64 (n : Int)] w (Made u8 5 w (numL n)) :=
  (codec_PutUint.calls none 0 [] (n : Int) (numL n) w (Kd.C_nil _ _) (Nat.le_refl _) (by unfold codec_PutUint.f; rw [if_pos ⟨by omega, by omega, by simp⟩]; simp)).mono fun _ _ h => Made.of h
theorem putText_calls (s : ByteArray) (hs : s.size ≤ 1000000) (w : World) : Calls Tryd.prog 75 #[.slice none 0 0, .string s] w (Made u8 5 w (txL s)) :=
  (codec_PutText.calls none 0 [] s (txL s) w (Kd.C_nil _ _) (Nat.le_refl _) (by unfold codec_PutText.f; rw [if_pos (by simp; omega)]; rfl)).mono fun _ _ h => Made.of h
/-- The code from a region on. -/
def tailAt (n : Nat) : Code → Option Code
  | .seq a b => match a with
    | .region i ops d => if i = n then some (.seq (.region i ops d) b) else tailAt n b
    | a => match tailAt n a with
      | some c => some c
      | none => tailAt n b
  | _ => none
noncomputable def tailC (n : Nat) : Code := ((Tryd.f41.body.bind (tailAt n)).getD .skip)
end Go.Proofs.YtaonjmkfbfhanaaDoor.Bk
namespace Go.Proofs.YtaonjmkfbfhanaaDoor.Bk
open Go.RowKit Go.Proofs.YtaonjmkfbfhanaaDoorW.PrintWords Go.Proofs.YtaonjmkfbfhanaaDoor.Own Go.Proofs.YtaonjmkfbfhanaaDoor.G Go.Proofs.YtaonjmkfbfhanaaDoor.Wk Go.Proofs.YtaonjmkfbfhanaaDoor.QBo
set_option linter.unusedVariables false
set_option maxHeartbeats 8000000 in
set_option maxRecDepth 100000 in
theorem add_c {w wc : World} {base g h : Nat} {m : Mk} {e : En} {F : Nat → Prop} {places' : List Nat} {sh mk : Nat} {dl : Bool} {D3 : List Int} (u8 u9 u10 u11 u12 u13 u14 u15 u16 u17 u18 u19 u20 u21 u22 u23 u24 u25 u26 u27 u28 u29 u30 u31 u32 u33 u34 u35 u36 u37 u38 u39 u40 u41 u42 u43 u44 u45 u46 u47 u48 u49 u50 u51 u52 u53 u54 u55 u56 u57 u58 u59 u60 u61 u62 u63 u64 u65 u66 u67 u68 u69 u70 u71 u72 u73 u74 u75 u76 u77 u78 u79 u80 u81 u82 u83 u84 u85 u86 u87 u88 u89 u90 u91 u92 u93 u94 u95 u96 u97 u98 u99 u100 u101 u102 u103 u104 u105 u106 u107 u108 u109 u110 u111 u112 u113 u114 u115 u116 u117 u118 u119 u120 u121 u122 u123 u124 u125 u126 u127 u128 u129 u130 u131 u132 u133 u134 u135 u136 u137 u138 u139 u140 u141 u142 u143 u144 u145 u146 u147 u148 u149 u150 u151 u152 u153 u154 u155 u156 u157 u158 u159 u160 : Value) (HS7 : Aside0 (MkS w wc base g F ⟨m.rs, D3, places', m.n, m.last⟩)) (HX7 : Aside0 (wc.heap[h]? = some (.cells #[.string e.f0, .int .u64 e.f1, .bool e.f2, .string e.f3] 30 (0, 0)))) (HSH : Aside0 (sharedM m e = sh)) (HPL : Aside0 ((if m.n % m.rs = 0 then m.places ++ [m.data.length] else m.places) = places')) (HDL : Aside0 (e.f2 = dl)) (HE : Aside0 (addM m e = (0, pushM m e))) (hsl : sh ≤ e.f0.size) (h1 : 1 ≤ e.f0.size) (h2 : e.f0.size ≤ 64) (h5 : e.f2 = false → e.f3.size ≤ 512) (hn : m.n ≤ 1099511627776) (HMK : Aside0 (markE e = mk)) (HD3s : Aside0 (m.data ++ (numL sh ++ (numL (e.f0.size - sh) ++ numL mk)) = D3)) (hl3 : D3.length ≤ 1099511627776 + 30) :
    Code.wp Tryd.prog (tailC 17) (bodyPost Tryd.prog Tryd.f41 fun en w' => en = .returned (.int .i64 (addM m e).1) ∧ MkS w w' base g F (addM m e).2) ⟨#[.pointer (some ⟨g, 0, none⟩), .agg #[.string e.f0, .int .u64 e.f1, .bool e.f2, .string e.f3], undef, .pointer (some ⟨h, 0, none⟩), .int .i64 0, .int .i64 0, .int .i64 (sh : Int), .int .u64 (mk : Int), u8, u9, u10, u11, u12, u13, u14, u15, u16, u17, u18, u19, u20, u21, u22, u23, u24, u25, u26, u27, u28, u29, u30, u31, u32, u33, u34, u35, u36, u37, u38, u39, u40, u41, u42, u43, u44, u45, u46, u47, u48, u49, u50, u51, u52, u53, u54, u55, u56, u57, u58, u59, u60, u61, u62, u63, u64, u65, u66, u67, u68, u69, u70, u71, u72, u73, u74, u75, u76, u77, u78, u79, u80, u81, u82, u83, u84, u85, u86, u87, u88, u89, u90, u91, u92, u93, u94, u95, u96, u97, u98, u99, u100, u101, u102, u103, u104, u105, u106, u107, u108, u109, u110, u111, u112, u113, u114, u115, u116, u117, u118, u119, u120, u121, u122, u123, u124, u125, u126, u127, u128, u129, u130, u131, u132, u133, u134, u135, u136, u137, u138, u139, u140, u141, u142, u143, u144, u145, u146, u147, u148, u149, u150, u151, u152, u153, u154, u155, u156, u157, u158, u159, u160], []⟩ wc := by
  conv => arg 2; whnf
  obtain ⟨D4, hD4⟩ : ∃ D, D3 ++ (bytesOf e.f0).drop sh = D := ⟨_, rfl⟩
  have HD4 := Aside0.mk hD4
  have hl4 : D4.length ≤ 1099511627776 + 100 := by rw [← hD4, List.length_append, List.length_drop, bytesOf_length]; omega
  clear hD4
  go_wp2_with fail
  go_upto_region 17 with fail
  go_cut [] (fun wx => Aside0 (MkS w wx base g F ⟨m.rs, D4, places', m.n, m.last⟩) ∧ Aside0 (wx.heap[h]? = some (.cells #[.string e.f0, .int .u64 e.f1, .bool e.f2, .string e.f3] 30 (0, 0))))
  case first =>
    obtain ⟨u1, u2, hM, hR⟩ := HS7.out.open_
    obtain ⟨A1, q1, e1⟩ := Kd.R_slice hM.2.2.1
    subst e1
    have c1 : wc.cell? ⟨g, 1, none⟩ = some (.slice A1 D3.length q1) := by rw [blk_cell hM.1]; rfl
    have HMd := Aside0.mk (hM.below (below_drew (Below.refl _ wc)))
    have HRd := Aside0.mk hR.drew
    have HBd : Aside0 (base ≤ wc.drew.heap.size) := ⟨HS7.out.bs⟩
    have HXd : Aside0 (wc.drew.heap[h]? = some (.cells #[.string e.f0, .int .u64 e.f1, .bool e.f2, .string e.f3] 30 (0, 0))) := ⟨HX7.out⟩
    have x0 : wc.cell? ⟨h, 0, none⟩ = some (.string e.f0) := by rw [blk_cell HX7.out]; rfl
    have HY : Aside0 (bytesOf (e.f0.extract sh e.f0.size) = (bytesOf e.f0).drop sh) := ⟨by rw [bytesOf_extract, List.take_of_length_le (by rw [bytesOf_length]; omega)]⟩
    have PL : Aside0 (D3.length + (e.f0.extract sh e.f0.size).size ≤ 140737488355328) := ⟨by rw [ByteArray.size_extract]; omega⟩
    clear hM hR
    go_region_law (refine step_append_str (w0 := w) base (by rfl) (.tmp 127) (.tmp 131) 22 9 5 rfl Tryd.underlying22 Tryd.underlying9 infoU _ D3 (e.f0.extract sh e.f0.size) (by rfl) (by rfl) HMd.out.2.2.1 HRd.out.1 HBd.out PL.out ?_; intro v W3 ho hb hg hat; rw [HY.out, HD4.out] at ho; (obtain ⟨Av, qv, ev⟩ := Kd.R_slice ho); subst ev; (have HP := Aside0.mk (MkS.put HMd.out HRd.out ho hg hat)); (have hgr := blk_grown HMd.out.1 hg (Kd.R_ne HMd.out.2.2.1 HMd.out.1 (by decide))); (have f3 := blk_frozen hgr 1); (have c3 : W3.cell? ⟨g, 1, none⟩ = some (.slice A1 D3.length q1) := by rw [blk_cell hgr]; rfl); clear ho hb hg hat hgr)
    all_goals (try (go_wp2_with fail))
    all_goals (go_meet; case rel => exact ⟨⟨HP.out.1⟩, ⟨HP.out.2 _ _ _ HXd.out (by decide) (by decide) (by decide)⟩⟩)
  case rest =>
    obtain ⟨HS8, HX8⟩ := hcut
    clear HS7 HX7
    have x2 : wc.cell? ⟨h, 2, none⟩ = some (.bool dl) := by rw [blk_cell HX8.out, ← HDL.out]; rfl
    obtain ⟨D5, hD5⟩ : ∃ D, D4 ++ (if dl = true then [] else txL e.f3) = D := ⟨_, rfl⟩
    have HD5 := Aside0.mk hD5
    clear hD5
    go_upto_if 137 with fail
    go_cut [] (fun wx => Aside0 (MkS w wx base g F ⟨m.rs, D5, places', m.n, m.last⟩) ∧ Aside0 (wx.heap[h]? = some (.cells #[.string e.f0, .int .u64 e.f1, .bool e.f2, .string e.f3] 30 (0, 0))))
    case first =>
      cases dl with
      | true =>
        have HE5 : Aside0 (D5 = D4) := ⟨by rw [← HD5.out, if_pos rfl, List.append_nil]⟩
        go_wp2_with fail
        go_meet
        case rel => exact ⟨⟨by rw [HE5.out]; exact HS8.out⟩, HX8⟩
      | false =>
        have HE5 : Aside0 (D4 ++ txL e.f3 = D5) := ⟨by rw [← HD5.out, if_neg (by decide)]⟩
        have hf3 := h5 HDL.out
        go_wp2_with fail
        obtain ⟨u1, u2, hM, hR⟩ := HS8.out.open_
        obtain ⟨A1, q1, e1⟩ := Kd.R_slice hM.2.2.1
        subst e1
        have c1 : wc.cell? ⟨g, 1, none⟩ = some (.slice A1 D4.length q1) := by rw [blk_cell hM.1]; rfl
        have HMd := Aside0.mk (hM.below (below_drew (Below.refl _ wc)))
        have HRd := Aside0.mk hR.drew
        have HBd : Aside0 (base ≤ wc.drew.heap.size) := ⟨HS8.out.bs⟩
        have HXd : Aside0 (wc.drew.heap[h]? = some (.cells #[.string e.f0, .int .u64 e.f1, .bool e.f2, .string e.f3] 30 (0, 0))) := ⟨HX8.out⟩
        have HNL : Aside0 ((txL e.f3).length ≤ 1000) := ⟨by unfold txL; rw [List.length_append, bytesOf_length]; have z := numL_len10 (n := e.f3.size) (by omega); omega⟩
        have x0 : wc.cell? ⟨h, 3, none⟩ = some (.string e.f3) := by rw [blk_cell HX8.out]; rfl
        clear hM hR
        go_region_law (first | (refine Kd.R_append_rows_step (Kd.int .u8) (w0 := w) base (by rfl) (.tmp 142) (.tmp 145) 22 5 (.int .u8 0) 1 rfl Tryd.underlying22 infoU rfl (by decide) (by omega) _ D4 l3 _ _ _ (fun _ => True) (fun _ => False) (by rfl) (by rfl) HM2.out.2.2.1 HD3.out.2.2 (fun _ _ h => h) (fun _ h => h.elim) (fun _ _ => trivial) HR2.out.1 HB2.out PL2.out ?_; intro v W3 ho hb hg hat; rw [HL3.out, HE5.out] at ho; (obtain ⟨Av, qv, ev⟩ := Kd.R_slice ho); subst ev; (have HP := Aside0.mk (MkS.put HM2.out HR2.out ho hg hat)); (have hgr := blk_grown HM2.out.1 hg (Kd.R_ne HM2.out.2.2.1 HM2.out.1 (by decide))); (have f3 := blk_frozen hgr 1); (have c3 : W3.cell? ⟨g, 1, none⟩ = some (.slice A1 D4.length q1) := by rw [blk_cell hgr]; rfl); clear ho hb hg hat hgr) | (go_simp; go_at_call 75; go_must (refine (putText_calls e.f3 (by omega) _).mono ?_); rintro en W2 ⟨A3, n3, c3, l3, rfl, hl3, hd3, ho3, hb3⟩; (have hM2 := HMd.out.below hb3); (have c2 : W2.cell? ⟨g, 1, none⟩ = some (.slice A1 D4.length q1) := by rw [blk_cell hM2.1]; rfl); (have HM2 := Aside0.mk hM2); (have HR2 := Aside0.mk (HRd.out.below hb3 HBd.out)); (have HB2 : Aside0 (base ≤ W2.heap.size) := ⟨Nat.le_trans HBd.out hb3.size⟩); (have HX2 := Aside0.mk ((hb3.block _ (blk_lt HXd.out)).trans HXd.out)); (have HD3 := Aside0.mk hd3); (have HL3 := Aside0.mk hl3); (have PL2 : Aside0 ((D4.length + n3) * 1 ≤ 140737488355328) := ⟨by have z1 := hd3.1; have z2 := HNL.out; rw [hl3] at z1; omega⟩); clear hM2 hb3 hd3 hl3 ho3))
        all_goals (try (go_wp2_with fail))
        all_goals (go_meet; case rel => exact ⟨⟨HP.out.1⟩, ⟨HP.out.2 _ _ _ HX2.out (by decide) (by decide) (by decide)⟩⟩)
    case rest =>
      obtain ⟨HS9, HX9⟩ := hcut
      obtain ⟨u1, u2, hM, -⟩ := HS9.out.open_
      have c3 : wc.cell? ⟨g, 3, none⟩ = some (.int .i64 (m.n : Int)) := by rw [blk_cell hM.1]; rfl
      have c4 : wc.cell? ⟨g, 4, none⟩ = some (.string m.last) := by rw [blk_cell hM.1]; rfl
      have f3 := blk_frozen hM.1 3
      have f4 := blk_frozen hM.1 4
      have HNe : Aside0 (h ≠ g) := ⟨by rintro rfl; have z := HX9.out; rw [hM.1] at z; injection z with z; injection z with _ z; exact absurd z (by decide)⟩
      have hne := HNe.out
      have hne' : g ≠ h := Ne.symm hne
      have x0 : wc.cell? ⟨h, 0, none⟩ = some (.string e.f0) := by rw [blk_cell HX9.out]; rfl
      clear hM
      go_wp2_with fail
      go_ret
      rw [HE.out]
      refine ⟨rfl, ?_⟩
      have hfin : pushM m e = ⟨m.rs, D5, places', m.n + 1, e.f0⟩ := by
        unfold pushM
        rw [HSH.out, HPL.out, ← HD5.out, ← HD4.out, ← HD3s.out]
        unfold encE
        rw [HMK.out, HDL.out]
        simp only [List.append_assoc]
      have hdone := MkS.done HS9.out (m.n + 1) e.f0
      rw [show (pushM m e) = _ from hfin]
      exact hdone
end Go.Proofs.YtaonjmkfbfhanaaDoor.Bk
