-- Printed by a program of this claim's own out of the translation.
import Derived.Test.YtnamanalacjhnaaQPtx0
import Derived.Test.YtnamanalacjhnaaQPtx1
import Derived.Test.YtnamanalacjhnaaQPtx3
namespace Go.Proofs.Ytnamanalacjhnaa.QPt
open Go.Proofs.Ytnamanalacjhnaa.Own
open Go.RowKit Go.Proofs.YtnamanalacjhnaaW.PrintWords Go.Proofs.YtnamanalacjhnaaW.PrintLast Go.Proofs.YtnamanalacjhnaaW.PrintMore
attribute [local go_sem] max2_int min2_int max_two min_two max_three min_three max_four min_four   -- for this text's walks alone
set_option linter.unusedVariables false
set_option linter.unusedSimpArgs false

attribute [local go_sem high] eqA64
/-! ### screeref2_Words: function 24 -/
theorem bytesOf_get (a : ByteArray) (i : Nat) (h : i < a.size) : (bytesOf a)[i]? = some (bt a (i : Int)) := by
  have h2 : i < a.data.toList.length := by simpa using h
  simp only [bytesOf, List.getElem?_map, List.getElem?_eq_getElem h2, Option.map_some, bt, Int.toNat_natCast, h, dif_pos]
  rfl
theorem bytesOf_len (a : ByteArray) : (bytesOf a).length = a.size := by simp [bytesOf]
theorem screeref2_Words_ev (a : ByteArray) (ha : a.size ≤ 140737488355328) (d : Nat) : ∀ (i : Nat) (l : List Int), i + d = a.size → l.length + d ≤ 140737488355328 → Ev (fun k => screeref2_Words_p.l0 k a l (i : Int)) (l ++ (bytesOf a).drop i) := by
  induction d with
  | zero =>
    intro i l hi hl
    refine Ev.step (f := fun _ => some l) (fun k => ?_) (by rw [List.drop_of_length_le (by rw [bytesOf_len]; omega), List.append_nil]; exact Ev.now _)
    simp only [screeref2_Words_p.l0]
    rw [if_neg (by omega)]
  | succ d ih =>
    intro i l hi hl
    have hlt : i < (bytesOf a).length := by rw [bytesOf_len]; omega
    have hg := bytesOf_get a i (by omega)
    rw [List.getElem?_eq_getElem hlt] at hg
    rw [List.drop_eq_getElem_cons hlt, Option.some.inj hg]
    have := ih (i + 1) (l ++ [bt a (i : Int)]) (by omega) (by simp; omega)
    rw [List.append_assoc] at this
    refine Ev.step (fun k => ?_) this
    simp only [screeref2_Words_p.l0]
    rw [if_pos (by omega), if_pos (by omega), if_pos (by omega), show wrap64 ((i : Int) + 1) = ((i + 1 : Nat) : Int) by unfold wrap64; omega]
def screeref2_Words.f (a0 : ByteArray) : Option (List Int) := if a0.size ≤ 140737488355000 then some (numL a0.size ++ bytesOf a0) else none
theorem screeref2_Words.calls (a0 : ByteArray) (r : List Int) (w : World) (h : screeref2_Words.f a0 = some r) :
    Calls Try.prog 24 #[.string a0] w fun e w' => ∃ v0_ : Value, e = .returned (v0_) ∧ Kd.R (Kd.int .u8) 5 w' w.heap.size (fun _ => True) v0_ r ∧ Below w.heap.size w w' := by
  unfold screeref2_Words.f at h
  split at h
  · rename_i hh
    have h10 := numL_len10 (n := a0.size) (by omega)
    obtain ⟨k, hk⟩ := (screeref2_Words_ev a0 (by omega) a0.size 0 (numL a0.size) (by omega) (by omega)).rounds
    refine screeref2_Words_p.calls k a0 r w ?_
    have hu : IntKind.u64.wrap (a0.size : Int) = (a0.size : Int) := u64_nat (by omega)
    unfold screeref2_Words_p.f screeref2_Number.f
    rw [hu, if_pos (by omega)]
    simp only [Option.bind_some, Int.toNat_natCast]
    rw [← h]
    exact hk
  · cases h

/-! ### screeref7_Put: function 10 -/
mutual
def screeref7_Put.l0 : Nat → List (List (S64)) → List Int → Int → Option (List Int)
  | 0, _, _, _ => none
  | k + 1, x1, x5, x6 => if x6 < (x1.length : Int) then (if 0 ≤ x6 then ((screeref2_Number.f (IntKind.u64.wrap (((rd_L3 x1 x6).length : Int)))).bind fun t223 => (if x5.length + t223.length < 140737488355328 then (screeref7_Put.l1 k x1 (x5 ++ t223) x6 (rd_L3 x1 x6) 0) else (none))) else (none)) else (some x5)
def screeref7_Put.l1 : Nat → List (List (S64)) → List Int → Int → List (S64) → Int → Option (List Int)
  | 0, _, _, _, _, _ => none
  | k + 1, x1, x5, x6, x7, x8 => if x8 < (x7.length : Int) then (if 0 ≤ x8 then (if (rd_T64 x7 x8).f1 = true then (if x5.length < 140737488355328 then ((some (x5 ++ [1] : List Int)).bind fun y230 => ((screeref2_Words.f ((rd_T64 x7 x8).f0)).bind fun t234 => (if y230.length + t234.length < 140737488355328 then (screeref7_Put.l1 k x1 (y230 ++ t234) x6 x7 (wrap64 (x8 + 1))) else (none)))) else (none)) else (if x5.length < 140737488355328 then ((some (x5 ++ [0] : List Int)).bind fun y240 => ((screeref2_Words.f ((rd_T64 x7 x8).f0)).bind fun t244 => (if y240.length + t244.length < 140737488355328 then ((some (y240 ++ t244 : List Int)).bind fun y247 => ((screeref2_Words.f ((rd_T64 x7 x8).f2)).bind fun t251 => (if y247.length + t251.length < 140737488355328 then (screeref7_Put.l1 k x1 (y247 ++ t251) x6 x7 (wrap64 (x8 + 1))) else (none)))) else (none)))) else (none))) else (none)) else (screeref7_Put.l0 k x1 x5 (wrap64 (x6 + 1)))
end
def screeref7_Put.f (k : Nat) (a0 : Int) (l1 : List (List (S64))) : Option (List Int) := (screeref2_Number.f a0).bind fun t210 => (if ([] : List Int).length + t210.length < 140737488355328 then ((some (([] : List Int) ++ t210 : List Int)).bind fun y213 => ((screeref2_Number.f (IntKind.u64.wrap ((l1.length : Int)))).bind fun t216 => (if y213.length + t216.length < 140737488355328 then (screeref7_Put.l0 k l1 (y213 ++ t216) 0) else (none)))) else (none))
theorem screeref7_Put.mono_l : ∀ k, (∀ y0 y1 y2, LeO (screeref7_Put.l0 k y0 y1 y2) (screeref7_Put.l0 (k + 1) y0 y1 y2)) ∧ (∀ y0 y1 y2 y3 y4, LeO (screeref7_Put.l1 k y0 y1 y2 y3 y4) (screeref7_Put.l1 (k + 1) y0 y1 y2 y3 y4))
  | 0 => ⟨fun _ _ _ r h => by simp [screeref7_Put.l0] at h, fun _ _ _ _ _ r h => by simp [screeref7_Put.l1] at h⟩
  | k + 1 => by
    obtain ⟨ih0, ih1⟩ := screeref7_Put.mono_l k
    refine ⟨?_, ?_⟩
    · intro y0 y1 y2
      unfold screeref7_Put.l0
      repeat' first
      | (with_reducible exact ih0 _ _ _)
      | (with_reducible exact ih1 _ _ _ _ _)
      | (with_reducible exact LeO.refl _)
      | (with_reducible exact LeO.none _)
      | (with_reducible refine LeO.ite ?_ ?_)
      | (with_reducible refine LeO.bind ?_ (fun _ => ?_))
      | exact ih0 _ _ _
      | exact ih1 _ _ _ _ _
      | exact LeO.none _
      | refine LeO.ite ?_ ?_
      | refine LeO.bind ?_ (fun _ => ?_)
    · intro y0 y1 y2 y3 y4
      unfold screeref7_Put.l1
      repeat' first
      | (with_reducible exact ih0 _ _ _)
      | (with_reducible exact ih1 _ _ _ _ _)
      | (with_reducible exact LeO.refl _)
      | (with_reducible exact LeO.none _)
      | (with_reducible refine LeO.ite ?_ ?_)
      | (with_reducible refine LeO.bind ?_ (fun _ => ?_))
      | exact ih0 _ _ _
      | exact ih1 _ _ _ _ _
      | exact LeO.none _
      | refine LeO.ite ?_ ?_
      | refine LeO.bind ?_ (fun _ => ?_)
theorem screeref7_Put.mono : ∀ a0 a1 k, LeO (screeref7_Put.f k a0 a1) (screeref7_Put.f (k + 1) a0 a1) := by
  intro a0 a1 k
  obtain ⟨ih0, ih1⟩ := screeref7_Put.mono_l k
  unfold screeref7_Put.f
  repeat' first
      | (with_reducible exact ih0 _ _ _)
      | (with_reducible exact ih1 _ _ _ _ _)
      | (with_reducible exact LeO.refl _)
      | (with_reducible exact LeO.none _)
      | (with_reducible refine LeO.ite ?_ ?_)
      | (with_reducible refine LeO.bind ?_ (fun _ => ?_))
      | exact ih0 _ _ _
      | exact ih1 _ _ _ _ _
      | exact LeO.none _
      | refine LeO.ite ?_ ?_
      | refine LeO.bind ?_ (fun _ => ?_)
set_option maxHeartbeats 8000000 in
set_option maxRecDepth 100000 in
theorem screeref7_Put.calls (k : Nat) (a0 : Int) (A1 : Option Addr) (c1 : Nat) (l1 : List (List (S64))) (r : List Int) (w : World) (hr1 : Kd.C (Kd.slice 64 k64) w A1 l1.length l1) (hc1 : l1.length ≤ c1) (h : screeref7_Put.f k a0 l1 = some r) :
    Calls Try.prog 10 #[.int .u64 a0, .slice A1 l1.length c1] w fun e w' => ∃ v0_ : Value, e = .returned (v0_) ∧ Kd.R (Kd.int .u8) 5 w' w.heap.size (fun _ => True) v0_ r ∧ Below w.heap.size w w' := by
  have HR1 := Aside0.mk hr1
  have HC1 := Aside0.mk hc1
  clear hr1 hc1
  have HB := Aside0.mk (Below.refl w.heap.size w)
  have H : ((screeref2_Number.f a0).bind fun t210 => (if ([] : List Int).length + t210.length < 140737488355328 then ((some (([] : List Int) ++ t210 : List Int)).bind fun y213 => ((screeref2_Number.f (IntKind.u64.wrap ((l1.length : Int)))).bind fun t216 => (if y213.length + t216.length < 140737488355328 then (screeref7_Put.l0 k l1 (y213 ++ t216) 0) else (none)))) else (none))) = some r := h
  clear h
  replace H := Option.bind_eq_some_iff.mp H
  obtain ⟨t210, A30, H⟩ := H
  replace H : (if ([] : List Int).length + t210.length < 140737488355328 then ((some (([] : List Int) ++ t210 : List Int)).bind fun y213 => ((screeref2_Number.f (IntKind.u64.wrap ((l1.length : Int)))).bind fun t216 => (if y213.length + t216.length < 140737488355328 then (screeref7_Put.l0 k l1 (y213 ++ t216) 0) else (none)))) else (none)) = some r := H
  have A3 := Aside0.mk A30
  clear A30
  by_cases c4 : ([] : List Int).length + t210.length < 140737488355328
  · rw [if_pos c4] at H
    have LMc4 := Aside0.mk c4
    clear c4
    obtain ⟨y213, hy213⟩ : ∃ y_ : List Int, y_ = (([] : List Int) ++ t210) := ⟨_, rfl⟩
    replace H : ((screeref2_Number.f (IntKind.u64.wrap ((l1.length : Int)))).bind fun t216 => (if y213.length + t216.length < 140737488355328 then (screeref7_Put.l0 k l1 (y213 ++ t216) 0) else (none))) = some r := by first | (rw [hy213]; with_reducible exact H) | (have H2_ := (Option.bind_some _ _).symm.trans H; rw [hy213]; with_reducible exact H2_) | (have H2_ := (Option.bind_some _ _).symm.trans H; with_reducible exact H2_) | with_reducible exact H | (rw [hy213]; exact H) | exact H
    have Ny213 := Aside0.mk hy213
    clear hy213
    replace H := Option.bind_eq_some_iff.mp H
    obtain ⟨t216, A50, H⟩ := H
    replace H : (if y213.length + t216.length < 140737488355328 then (screeref7_Put.l0 k l1 (y213 ++ t216) 0) else (none)) = some r := H
    have A5 := Aside0.mk A50
    clear A50
    by_cases c6 : y213.length + t216.length < 140737488355328
    · rw [if_pos c6] at H
      have LMc6 := Aside0.mk c6
      clear c6
      obtain ⟨y219, hy219⟩ : ∃ y_ : List Int, y_ = (y213 ++ t216) := ⟨_, rfl⟩
      replace H : (screeref7_Put.l0 k l1 y219 0) = some r := by first | (rw [hy219]; with_reducible exact H) | (have H2_ := (Option.bind_some _ _).symm.trans H; rw [hy219]; with_reducible exact H2_) | (have H2_ := (Option.bind_some _ _).symm.trans H; with_reducible exact H2_) | with_reducible exact H | (rw [hy219]; exact H) | exact H
      have Ny219 := Aside0.mk hy219
      clear hy219
      have H' := Aside0.mk H
      clear H
      go_enter Try.func10, Try.ntmps10
      go_wp2_with (first | ((with_reducible refine gate_callee (f := 23) rfl ?_); refine goesL_ (some 11) rfl rfl Try.func23 (by kernel_rfl) rfl #[.int .u64 a0] rfl (by (try simp only [List.map_toArray, List.map_cons, List.map_nil]); first | done | rfl | (simp only [List.length_drop, List.length_take]; rfl)) ?_; (with_reducible refine (screeref2_Number.calls a0 t210 _ A3.out).mono ?_); rintro e w7 ⟨v211, rfl, ho0, hb⟩; refine ⟨_, rfl, ?_⟩; have n0_ := Aside0.mk (Kd.R_lower ho0 (below_size (by repeat (first | (with_reducible first | exact HB.out | apply below_alloc | apply pw_below_drewN | apply below_drew1) | exact HB.out)))); have n1_ := Aside0.mk (below_step (by repeat (first | (with_reducible first | exact HB.out | apply below_alloc | apply pw_below_drewN | apply below_drew1) | exact HB.out)) hb); clear HB; have HO212 := n0_; have HB := n1_; clear n0_ n1_; (try clear hb); (try clear hb2); (try clear hk); (try clear hi); (try clear ho0); obtain ⟨Ao9, co9, eo9⟩ := Kd.R_slice HO212.out; subst eo9) | ((with_reducible refine gate_builtin (b := .append) (xs := #[.tmp 9, .tmp 11]) rfl ?_); at_builtin; refine Kd.R_append_rows (Kd.int .u8) (w0 := w) w.heap.size rfl (.tmp 9) (.tmp 11) 45 5 (.int .u8 0) 1 rfl Try.underlying45 info5 rfl (by decide) (by omega) (.slice none 0 0) ([] : List Int) t210 _ _ _ (fun k_ => some k_ ≠ (.slice Ao9 t210.length co9 : Value).ownBlock) (fun _ => False) rfl rfl ?aO ?aR (fun _ _ h => h) (fun _ h => h.elim) ?aF ?aB ?aS ?aL ?_; (case aR => repeat (first | exact (Kd.R_reads' HO212.out).2.2 | (with_reducible refine Kd.C_alloc ?_ _) | (with_reducible refine Kd.C_drewN ?_ _) | (with_reducible refine Kd.C_drew ?_))); (case aB => exact (by repeat (first | (with_reducible first | exact HB.out | apply below_alloc | apply pw_below_drewN | apply below_drew1) | exact HB.out))); (case aF => exact (fun k_ hk => Kd.fresh' (Kd.R_lt (by (with_reducible repeat (first | apply Kd.R_alloc | apply Kd.R_drewN | apply Kd.R_drew)); exact HO212.out)) k_ hk)); (case aO => exact ((Kd.R_nil _ _ _ _ (fun k_ => some k_ ≠ (.slice Ao9 t210.length co9 : Value).ownBlock)))); (case aS => exact (below_size (by repeat (first | (with_reducible first | exact HB.out | apply below_alloc | apply pw_below_drewN | apply below_drew1) | exact HB.out)))); (case aL => have := LMc4.out; omega); intro v214 w8 ho hb hg hat; rw [← Ny213.out] at ho; have n0_ := Aside0.mk (Kd.R_after (Kd.R_apart_nil (by (with_reducible repeat (first | apply Kd.R_alloc | apply Kd.R_drewN | apply Kd.R_drew)); exact HO212.out)) hg hat); have n1_ := Aside0.mk (hb); have n2_ := Aside0.mk (ho); clear HO212; clear HB; have HO212 := n0_; have HB := n1_; have HO215 := n2_; clear n0_ n1_ n2_; clear ho hb hg hat) | ((with_reducible refine gate_callee (f := 23) rfl ?_); refine goesL_ (some 17) rfl rfl Try.func23 (by kernel_rfl) rfl #[.int .u64 (IntKind.u64.wrap ((l1.length : Int)))] rfl (by (try simp only [List.map_toArray, List.map_cons, List.map_nil]); first | done | rfl | (simp only [List.length_drop, List.length_take]; rfl)) ?_; (with_reducible refine (screeref2_Number.calls (IntKind.u64.wrap ((l1.length : Int))) t216 _ A5.out).mono ?_); rintro e w10 ⟨v217, rfl, ho0, hb⟩; refine ⟨_, rfl, ?_⟩; have n0_ := Aside0.mk (Kd.R_elder' (by (with_reducible repeat (first | apply Kd.R_alloc | apply Kd.R_drewN | apply Kd.R_drew)); exact HO212.out) (Kd.R_base ho0) hb); have n1_ := Aside0.mk (Kd.R_elder' (by (with_reducible repeat (first | apply Kd.R_alloc | apply Kd.R_drewN | apply Kd.R_drew)); exact HO215.out) (Kd.R_base ho0) hb); have n2_ := Aside0.mk (Kd.R_lower (Kd.R_new' (Kd.R_new' ho0 (Kd.R_lt (by (with_reducible repeat (first | apply Kd.R_alloc | apply Kd.R_drewN | apply Kd.R_drew)); exact HO212.out))) (Kd.R_lt (by (with_reducible repeat (first | apply Kd.R_alloc | apply Kd.R_drewN | apply Kd.R_drew)); exact HO215.out))) (below_size (by repeat (first | (with_reducible first | exact HB.out | apply below_alloc | apply pw_below_drewN | apply below_drew1) | exact HB.out)))); have n3_ := Aside0.mk (below_step (by repeat (first | (with_reducible first | exact HB.out | apply below_alloc | apply pw_below_drewN | apply below_drew1) | exact HB.out)) hb); clear HO212; clear HO215; clear HB; have HO212 := n0_; have HO215 := n1_; have HO218 := n2_; have HB := n3_; clear n0_ n1_ n2_ n3_; (try clear hb); (try clear hb2); (try clear hk); (try clear hi); (try clear ho0); obtain ⟨Ao12, co12, eo12⟩ := Kd.R_slice HO218.out; subst eo12) | ((with_reducible refine gate_builtin (b := .append) (xs := #[.tmp 13, .tmp 17]) rfl ?_); at_builtin; refine Kd.R_append_rows (Kd.int .u8) (w0 := w) w.heap.size rfl (.tmp 13) (.tmp 17) 45 5 (.int .u8 0) 1 rfl Try.underlying45 info5 rfl (by decide) (by omega) v214 y213 t216 _ _ _ (fun k_ => some k_ ≠ (.slice Ao9 t210.length co9 : Value).ownBlock ∧ some k_ ≠ (.slice Ao12 t216.length co12 : Value).ownBlock) (fun _ => False) rfl rfl ?aO ?aR (fun _ _ h => h) (fun _ h => h.elim) ?aF ?aB ?aS ?aL ?_; (case aR => repeat (first | exact (Kd.R_reads' HO218.out).2.2 | (with_reducible refine Kd.C_alloc ?_ _) | (with_reducible refine Kd.C_drewN ?_ _) | (with_reducible refine Kd.C_drew ?_))); (case aB => exact (by repeat (first | (with_reducible first | exact HB.out | apply below_alloc | apply pw_below_drewN | apply below_drew1) | exact HB.out))); (case aF => exact (fun k_ hk => ⟨Kd.fresh' (Kd.R_lt (by (with_reducible repeat (first | apply Kd.R_alloc | apply Kd.R_drewN | apply Kd.R_drew)); exact HO212.out)) k_ hk, Kd.fresh' (Kd.R_lt (by (with_reducible repeat (first | apply Kd.R_alloc | apply Kd.R_drewN | apply Kd.R_drew)); exact HO218.out)) k_ hk⟩)); (case aO => exact (by (with_reducible repeat (first | apply Kd.R_alloc | apply Kd.R_drewN | apply Kd.R_drew)); exact HO215.out)); (case aS => exact (below_size (by repeat (first | (with_reducible first | exact HB.out | apply below_alloc | apply pw_below_drewN | apply below_drew1) | exact HB.out)))); (case aL => have := LMc6.out; omega); intro v220 w11 ho hb hg hat; rw [← Ny219.out] at ho; have n0_ := Aside0.mk (Kd.R_after (ok := (fun k_ => some k_ ≠ (.slice Ao12 t216.length co12 : Value).ownBlock)) (by (with_reducible repeat (first | apply Kd.R_alloc | apply Kd.R_drewN | apply Kd.R_drew)); exact Kd.R_mono HO212.out (fun _ hk => ⟨hk.2, hk.1.2⟩)) hg hat); have n1_ := Aside0.mk (Kd.R_after (ok := (fun k_ => some k_ ≠ (.slice Ao9 t210.length co9 : Value).ownBlock)) (by (with_reducible repeat (first | apply Kd.R_alloc | apply Kd.R_drewN | apply Kd.R_drew)); exact Kd.R_mono HO218.out (fun _ hk => ⟨hk.1.2, hk.2⟩)) hg hat); have n2_ := Aside0.mk (hb); have n3_ := Aside0.mk (ho); clear HO212; clear HO218; clear HB; clear HO215; have HO212 := n0_; have HO218 := n1_; have HB := n2_; have HO221 := n3_; clear n0_ n1_ n2_ n3_; clear ho hb hg hat))
      go_loopg [5, 6] k (fun kq v5 v6 w' => ∃ (x5_1 : List Int) (x6_1 : Int), v6 = .int .i64 x6_1 ∧ Aside0 (screeref7_Put.l0 kq l1 x5_1 x6_1 = some r) ∧ Aside0 (kq ≤ k) ∧ Aside0 (Kd.R (Kd.int .u8) 5 w' w.heap.size (fun _ => True) v5 x5_1) ∧ Aside0 (Below w.heap.size w w'))
      case atStart => exact ⟨(y219), (0), (by first | rfl | (simp; done) | (simp [*]; done)), H', ⟨Nat.le_refl _⟩, ⟨by (with_reducible repeat (first | apply Kd.R_alloc | apply Kd.R_drewN | apply Kd.R_drew)); exact Kd.R_mono HO221.out (fun _ hk => trivial)⟩, ⟨by repeat (first | (with_reducible first | exact HB.out | apply below_alloc | apply pw_below_drewN | apply below_drew1) | exact HB.out)⟩⟩
      case round =>
        clear H'
        try clear c1
        try clear c2
        try clear p2
        try clear c4
        try clear c6
        try clear c10
        obtain ⟨x5_1, x6_1, rfl, HA, HK1, HO_5, HB⟩ := hrel
        cases gk with
        | zero => exact absurd HA.out (by simp [screeref7_Put.l0])
        | succ k1 =>
          have H := HA.out
          clear HA
          simp only [screeref7_Put.l0] at H
          by_cases c13 : x6_1 < (l1.length : Int)
          · rw [if_pos c13] at H
            have c13b0 : decide (x6_1 < (l1.length : Int)) = true := decide_eq_true c13
            clear c13
            by_cases c14 : 0 ≤ x6_1
            · rw [if_pos c14] at H
              have c14b0 : decide (0 ≤ x6_1) = true := decide_eq_true c14
              clear c14
              replace H := Option.bind_eq_some_iff.mp H
              obtain ⟨t223, A150, H⟩ := H
              replace H : (if x5_1.length + t223.length < 140737488355328 then (screeref7_Put.l1 k1 l1 (x5_1 ++ t223) x6_1 (rd_L3 l1 x6_1) 0) else (none)) = some r := H
              have A15 := Aside0.mk A150
              clear A150
              by_cases c16 : x5_1.length + t223.length < 140737488355328
              · rw [if_pos c16] at H
                have LMc16 := Aside0.mk c16
                clear c16
                obtain ⟨y226, hy226⟩ : ∃ y_ : List Int, y_ = (x5_1 ++ t223) := ⟨_, rfl⟩
                replace H : (screeref7_Put.l1 k1 l1 y226 x6_1 (rd_L3 l1 x6_1) 0) = some r := by first | (rw [hy226]; with_reducible exact H) | (have H2_ := (Option.bind_some _ _).symm.trans H; rw [hy226]; with_reducible exact H2_) | (have H2_ := (Option.bind_some _ _).symm.trans H; with_reducible exact H2_) | with_reducible exact H | (rw [hy226]; exact H) | exact H
                have Ny226 := Aside0.mk hy226
                clear hy226
                have H' := Aside0.mk H
                clear H
                have p222 : 0 ≤ (x6_1 : Int) := of_decide_eq_true (by first | (with_reducible assumption) | assumption)
                have q222 : x6_1 < (l1.length : Int) := of_decide_eq_true (by first | (with_reducible assumption) | assumption)
                obtain ⟨ad222, A222_0, c222_0, e222, hx222_0, hl222_0, hi222_0⟩ := at_L3 HR1.out x6_1 p222 q222
                cases e222
                replace hx222_0 := (HB.out.cell (World.block_lt_of_cell? w _ hx222_0)).trans hx222_0
                have HR222_0 := Aside0.mk hi222_0
                have HC222_0 := Aside0.mk hl222_0
                clear hi222_0 hl222_0
                replace p222 := eq_true p222
                replace q222 := eq_true q222
                go_wp2_with (first | ((with_reducible refine gate_callee (f := 23) rfl ?_); refine goesL_ (some 33) rfl rfl Try.func23 (by kernel_rfl) rfl #[.int .u64 (IntKind.u64.wrap (((rd_L3 l1 x6_1).length : Int)))] rfl (by (try simp only [List.map_toArray, List.map_cons, List.map_nil]); first | done | rfl | (simp only [List.length_drop, List.length_take]; rfl)) ?_; (with_reducible refine (screeref2_Number.calls (IntKind.u64.wrap (((rd_L3 l1 x6_1).length : Int))) t223 _ A15.out).mono ?_); rintro e w17 ⟨v224, rfl, ho0, hb⟩; refine ⟨_, rfl, ?_⟩; have n0_ := Aside0.mk (Kd.R_elder' (by (with_reducible repeat (first | apply Kd.R_alloc | apply Kd.R_drewN | apply Kd.R_drew)); exact HO_5.out) (Kd.R_base ho0) hb); have n1_ := Aside0.mk (Kd.R_lower (Kd.R_new' ho0 (Kd.R_lt (by (with_reducible repeat (first | apply Kd.R_alloc | apply Kd.R_drewN | apply Kd.R_drew)); exact HO_5.out))) (below_size (by repeat (first | (with_reducible first | exact HB.out | apply below_alloc | apply pw_below_drewN | apply below_drew1) | exact HB.out)))); have n2_ := Aside0.mk (below_step (by repeat (first | (with_reducible first | exact HB.out | apply below_alloc | apply pw_below_drewN | apply below_drew1) | exact HB.out)) hb); clear HO_5; clear HB; have HO_5 := n0_; have HO225 := n1_; have HB := n2_; clear n0_ n1_ n2_; (try clear hb); (try clear hb2); (try clear hk); (try clear hi); (try clear ho0); obtain ⟨Ao19, co19, eo19⟩ := Kd.R_slice HO225.out; subst eo19) | ((with_reducible refine gate_builtin (b := .append) (xs := #[.tmp 29, .tmp 33]) rfl ?_); at_builtin; refine Kd.R_append_rows (Kd.int .u8) (w0 := w) w.heap.size rfl (.tmp 29) (.tmp 33) 45 5 (.int .u8 0) 1 rfl Try.underlying45 info5 rfl (by decide) (by omega) u5 x5_1 t223 _ _ _ (fun k_ => some k_ ≠ (.slice Ao19 t223.length co19 : Value).ownBlock) (fun _ => False) rfl rfl ?aO ?aR (fun _ _ h => h) (fun _ h => h.elim) ?aF ?aB ?aS ?aL ?_; (case aR => repeat (first | exact (Kd.R_reads' HO225.out).2.2 | (with_reducible refine Kd.C_alloc ?_ _) | (with_reducible refine Kd.C_drewN ?_ _) | (with_reducible refine Kd.C_drew ?_))); (case aB => exact (by repeat (first | (with_reducible first | exact HB.out | apply below_alloc | apply pw_below_drewN | apply below_drew1) | exact HB.out))); (case aF => exact (fun k_ hk => Kd.fresh' (Kd.R_lt (by (with_reducible repeat (first | apply Kd.R_alloc | apply Kd.R_drewN | apply Kd.R_drew)); exact HO225.out)) k_ hk)); (case aO => exact (by (with_reducible repeat (first | apply Kd.R_alloc | apply Kd.R_drewN | apply Kd.R_drew)); exact Kd.R_mono HO_5.out (fun _ hk => hk.2))); (case aS => exact (below_size (by repeat (first | (with_reducible first | exact HB.out | apply below_alloc | apply pw_below_drewN | apply below_drew1) | exact HB.out)))); (case aL => have := LMc16.out; omega); intro v227 w18 ho hb hg hat; rw [← Ny226.out] at ho; have n0_ := Aside0.mk (Kd.R_after (ok := (fun _ => True)) (by (with_reducible repeat (first | apply Kd.R_alloc | apply Kd.R_drewN | apply Kd.R_drew)); exact HO225.out) hg hat); have n1_ := Aside0.mk (hb); have n2_ := Aside0.mk (ho); clear HO225; clear HB; clear HO_5; have HO225 := n0_; have HB := n1_; have HO228 := n2_; clear n0_ n1_ n2_; clear ho hb hg hat))
                go_loopg [5, 8] k1 (fun kq v5 v8 w' => ∃ (x5_2 : List Int) (x8_2 : Int), v8 = .int .i64 x8_2 ∧ Aside0 (screeref7_Put.l1 kq l1 x5_2 x6_1 (rd_L3 l1 x6_1) x8_2 = some r) ∧ Aside0 (kq ≤ k1) ∧ Aside0 (Kd.R (Kd.int .u8) 5 w' w.heap.size (fun _ => True) v5 x5_2) ∧ Aside0 (Below w.heap.size w w'))
                case atStart => exact ⟨(y226), (0), (by first | rfl | (simp; done) | (simp [*]; done)), H', ⟨Nat.le_refl _⟩, ⟨by (with_reducible repeat (first | apply Kd.R_alloc | apply Kd.R_drewN | apply Kd.R_drew)); exact Kd.R_mono HO228.out (fun _ hk => trivial)⟩, ⟨by repeat (first | (with_reducible first | exact HB.out | apply below_alloc | apply pw_below_drewN | apply below_drew1) | exact HB.out)⟩⟩
                case round =>
                  clear H'
                  try clear c1
                  try clear c2
                  try clear p2
                  try clear q2
                  try clear hx2
                  try clear c4
                  try clear c6
                  try clear c10
                  try clear c13
                  try clear c13b0
                  try clear c14
                  try clear c14b0
                  try clear c16
                  try clear hx222_0
                  try clear p2
                  try clear p222
                  try clear q222
                  obtain ⟨x5_2, x8_2, rfl, HA, HK2, HO_5, HB⟩ := hrel
                  cases gk with
                  | zero => exact absurd HA.out (by simp [screeref7_Put.l1])
                  | succ k2 =>
                    have H := HA.out
                    clear HA
                    simp only [screeref7_Put.l1] at H
                    by_cases c20 : x8_2 < ((rd_L3 l1 x6_1).length : Int)
                    · rw [if_pos c20] at H
                      have c20b0 : decide (x8_2 < ((rd_L3 l1 x6_1).length : Int)) = true := decide_eq_true c20
                      clear c20
                      by_cases c21 : 0 ≤ x8_2
                      · rw [if_pos c21] at H
                        have c21b0 : decide (0 ≤ x8_2) = true := decide_eq_true c21
                        clear c21
                        obtain ⟨bq22, hbq22⟩ : ∃ b_ : Bool, b_ = ((rd_T64 (rd_L3 l1 x6_1) x8_2).f1) := ⟨_, rfl⟩
                        replace H : (if bq22 = true then (if x5_2.length < 140737488355328 then ((some (x5_2 ++ [1] : List Int)).bind fun y230 => ((screeref2_Words.f ((rd_T64 (rd_L3 l1 x6_1) x8_2).f0)).bind fun t234 => (if y230.length + t234.length < 140737488355328 then (screeref7_Put.l1 k2 l1 (y230 ++ t234) x6_1 (rd_L3 l1 x6_1) (wrap64 (x8_2 + 1))) else (none)))) else (none)) else (if x5_2.length < 140737488355328 then ((some (x5_2 ++ [0] : List Int)).bind fun y240 => ((screeref2_Words.f ((rd_T64 (rd_L3 l1 x6_1) x8_2).f0)).bind fun t244 => (if y240.length + t244.length < 140737488355328 then ((some (y240 ++ t244 : List Int)).bind fun y247 => ((screeref2_Words.f ((rd_T64 (rd_L3 l1 x6_1) x8_2).f2)).bind fun t251 => (if y247.length + t251.length < 140737488355328 then (screeref7_Put.l1 k2 l1 (y247 ++ t251) x6_1 (rd_L3 l1 x6_1) (wrap64 (x8_2 + 1))) else (none)))) else (none)))) else (none))) = some r := by rw [← hbq22] at H; exact H
                        have Nbq22 := Aside0.mk hbq22
                        clear hbq22
                        by_cases c23 : bq22 = true
                        · subst c23
                          have H1 : (if x5_2.length < 140737488355328 then ((some (x5_2 ++ [1] : List Int)).bind fun y230 => ((screeref2_Words.f ((rd_T64 (rd_L3 l1 x6_1) x8_2).f0)).bind fun t234 => (if y230.length + t234.length < 140737488355328 then (screeref7_Put.l1 k2 l1 (y230 ++ t234) x6_1 (rd_L3 l1 x6_1) (wrap64 (x8_2 + 1))) else (none)))) else (none)) = some r := by rw [if_pos rfl] at H; exact H
                          clear H
                          have H := H1
                          clear H1
                          by_cases c24 : x5_2.length < 140737488355328
                          · rw [if_pos c24] at H
                            have LMc24 := Aside0.mk c24
                            clear c24
                            obtain ⟨y230, hy230⟩ : ∃ y_ : List Int, y_ = (x5_2 ++ [1]) := ⟨_, rfl⟩
                            replace H : ((screeref2_Words.f ((rd_T64 (rd_L3 l1 x6_1) x8_2).f0)).bind fun t234 => (if y230.length + t234.length < 140737488355328 then (screeref7_Put.l1 k2 l1 (y230 ++ t234) x6_1 (rd_L3 l1 x6_1) (wrap64 (x8_2 + 1))) else (none))) = some r := by first | (rw [hy230]; with_reducible exact H) | (have H2_ := (Option.bind_some _ _).symm.trans H; rw [hy230]; with_reducible exact H2_) | (have H2_ := (Option.bind_some _ _).symm.trans H; with_reducible exact H2_) | with_reducible exact H | (rw [hy230]; exact H) | exact H
                            have Ny230 := Aside0.mk hy230
                            clear hy230
                            replace H := Option.bind_eq_some_iff.mp H
                            obtain ⟨t234, A250, H⟩ := H
                            replace H : (if y230.length + t234.length < 140737488355328 then (screeref7_Put.l1 k2 l1 (y230 ++ t234) x6_1 (rd_L3 l1 x6_1) (wrap64 (x8_2 + 1))) else (none)) = some r := H
                            have A25 := Aside0.mk A250
                            clear A250
                            by_cases c26 : y230.length + t234.length < 140737488355328
                            · rw [if_pos c26] at H
                              have LMc26 := Aside0.mk c26
                              clear c26
                              obtain ⟨y237, hy237⟩ : ∃ y_ : List Int, y_ = (y230 ++ t234) := ⟨_, rfl⟩
                              replace H : (screeref7_Put.l1 k2 l1 y237 x6_1 (rd_L3 l1 x6_1) (wrap64 (x8_2 + 1))) = some r := by first | (rw [hy237]; with_reducible exact H) | (have H2_ := (Option.bind_some _ _).symm.trans H; rw [hy237]; with_reducible exact H2_) | (have H2_ := (Option.bind_some _ _).symm.trans H; with_reducible exact H2_) | with_reducible exact H | (rw [hy237]; exact H) | exact H
                              have Ny237 := Aside0.mk hy237
                              clear hy237
                              have H' := Aside0.mk H
                              clear H
                              have p229 : 0 ≤ (x8_2 : Int) := of_decide_eq_true (by first | (with_reducible assumption) | assumption)
                              have q229 : x8_2 < ((rd_L3 l1 x6_1).length : Int) := of_decide_eq_true (by first | (with_reducible assumption) | assumption)
                              obtain ⟨ad229, e229, hx229_0, hx229_1, hx229_2⟩ := at_T64 HR222_0.out x8_2 p229 q229
                              (try rw [← Nbq22.out] at hx229_1)
                              cases e229
                              replace hx229_0 := (HB.out.cell (World.block_lt_of_cell? w _ hx229_0)).trans hx229_0
                              replace hx229_1 := (HB.out.cell (World.block_lt_of_cell? w _ hx229_1)).trans hx229_1
                              replace hx229_2 := (HB.out.cell (World.block_lt_of_cell? w _ hx229_2)).trans hx229_2
                              replace p229 := eq_true p229
                              replace q229 := eq_true q229
                              go_wp2_with (first | ((with_reducible refine gate_builtin (b := .append) (xs := #[.tmp 46, .tmp 47]) rfl ?_); at_builtin; refine Kd.R_append (Kd.int .u8) (w0 := w) w.heap.size rfl (.tmp 46) (.tmp 47) 45 5 (.int .u8 0) 1 rfl Try.underlying45 info5 rfl (by decide) (by omega) u5 x5_2 1 [.int .u8 1] (fun _ => True) (fun _ => False) rfl rfl ?aP (fun _ hk => hk.elim) ?aF ?aO ?aB ?aS ?aL ?_; (case aP => exact rfl); (case aB => exact (by repeat (first | (with_reducible first | exact HB.out | apply below_alloc | apply pw_below_drewN | apply below_drew1) | exact HB.out))); (case aF => exact (fun _ _ => trivial)); (case aO => exact (by (with_reducible repeat (first | apply Kd.R_alloc | apply Kd.R_drewN | apply Kd.R_drew)); exact HO_5.out)); (case aS => exact (below_size (by repeat (first | (with_reducible first | exact HB.out | apply below_alloc | apply pw_below_drewN | apply below_drew1) | exact HB.out)))); (case aL => have := LMc24.out; omega); intro v231 w27 ho hb hg hat; rw [← Ny230.out] at ho; have n0_ := Aside0.mk (hb); have n1_ := Aside0.mk (ho); clear HB; clear HO_5; have HB := n0_; have HO232 := n1_; clear n0_ n1_; clear ho hb hg hat; have p233 : 0 ≤ (x8_2 : Int) := of_decide_eq_true (by first | (with_reducible assumption) | assumption); have q233 : x8_2 < ((rd_L3 l1 x6_1).length : Int) := of_decide_eq_true (by first | (with_reducible assumption) | assumption); obtain ⟨ad233, e233, hx233_0, hx233_1, hx233_2⟩ := at_T64 HR222_0.out x8_2 p233 q233; (try rw [← Nbq22.out] at hx233_1); obtain rfl : ad229 = ad233 := (by injection e233); replace hx233_0 := (HB.out.cell (World.block_lt_of_cell? w _ hx233_0)).trans hx233_0; replace hx233_1 := (HB.out.cell (World.block_lt_of_cell? w _ hx233_1)).trans hx233_1; replace hx233_2 := (HB.out.cell (World.block_lt_of_cell? w _ hx233_2)).trans hx233_2; replace p233 := eq_true p233; replace q233 := eq_true q233) | ((with_reducible refine gate_callee (f := 24) rfl ?_); refine goesL_ (some 55) rfl rfl Try.func24 (by kernel_rfl) rfl #[.string ((rd_T64 (rd_L3 l1 x6_1) x8_2).f0)] rfl (by (try simp only [List.map_toArray, List.map_cons, List.map_nil]); first | done | rfl | (simp only [List.length_drop, List.length_take]; rfl)) ?_; (with_reducible refine (screeref2_Words.calls ((rd_T64 (rd_L3 l1 x6_1) x8_2).f0) t234 _ A25.out).mono ?_); rintro e w28 ⟨v235, rfl, ho0, hb⟩; refine ⟨_, rfl, ?_⟩; have n0_ := Aside0.mk (Kd.R_elder' (by (with_reducible repeat (first | apply Kd.R_alloc | apply Kd.R_drewN | apply Kd.R_drew)); exact HO232.out) (Kd.R_base ho0) hb); have n1_ := Aside0.mk (Kd.R_lower (Kd.R_new' ho0 (Kd.R_lt (by (with_reducible repeat (first | apply Kd.R_alloc | apply Kd.R_drewN | apply Kd.R_drew)); exact HO232.out))) (below_size (by repeat (first | (with_reducible first | exact HB.out | apply below_alloc | apply pw_below_drewN | apply below_drew1) | exact HB.out)))); have n2_ := Aside0.mk (below_step (by repeat (first | (with_reducible first | exact HB.out | apply below_alloc | apply pw_below_drewN | apply below_drew1) | exact HB.out)) hb); clear HO232; clear HB; have HO232 := n0_; have HO236 := n1_; have HB := n2_; clear n0_ n1_ n2_; (try clear hb); (try clear hb2); (try clear hk); (try clear hi); (try clear ho0); obtain ⟨Ao30, co30, eo30⟩ := Kd.R_slice HO236.out; subst eo30) | ((with_reducible refine gate_builtin (b := .append) (xs := #[.tmp 49, .tmp 55]) rfl ?_); at_builtin; refine Kd.R_append_rows (Kd.int .u8) (w0 := w) w.heap.size rfl (.tmp 49) (.tmp 55) 45 5 (.int .u8 0) 1 rfl Try.underlying45 info5 rfl (by decide) (by omega) v231 y230 t234 _ _ _ (fun k_ => some k_ ≠ (.slice Ao30 t234.length co30 : Value).ownBlock) (fun _ => False) rfl rfl ?aO ?aR (fun _ _ h => h) (fun _ h => h.elim) ?aF ?aB ?aS ?aL ?_; (case aR => repeat (first | exact (Kd.R_reads' HO236.out).2.2 | (with_reducible refine Kd.C_alloc ?_ _) | (with_reducible refine Kd.C_drewN ?_ _) | (with_reducible refine Kd.C_drew ?_))); (case aB => exact (by repeat (first | (with_reducible first | exact HB.out | apply below_alloc | apply pw_below_drewN | apply below_drew1) | exact HB.out))); (case aF => exact (fun k_ hk => Kd.fresh' (Kd.R_lt (by (with_reducible repeat (first | apply Kd.R_alloc | apply Kd.R_drewN | apply Kd.R_drew)); exact HO236.out)) k_ hk)); (case aO => exact (by (with_reducible repeat (first | apply Kd.R_alloc | apply Kd.R_drewN | apply Kd.R_drew)); exact Kd.R_mono HO232.out (fun _ hk => hk.2))); (case aS => exact (below_size (by repeat (first | (with_reducible first | exact HB.out | apply below_alloc | apply pw_below_drewN | apply below_drew1) | exact HB.out)))); (case aL => have := LMc26.out; omega); intro v238 w29 ho hb hg hat; rw [← Ny237.out] at ho; have n0_ := Aside0.mk (Kd.R_after (ok := (fun _ => True)) (by (with_reducible repeat (first | apply Kd.R_alloc | apply Kd.R_drewN | apply Kd.R_drew)); exact HO236.out) hg hat); have n1_ := Aside0.mk (hb); have n2_ := Aside0.mk (ho); clear HO236; clear HB; clear HO232; have HO236 := n0_; have HB := n1_; have HO239 := n2_; clear n0_ n1_ n2_; clear ho hb hg hat))
                              go_roundg k2
                              case measure => have := HK1.out; have := HK2.out; omega
                              case rel => exact ⟨(y237), (wrap64 (x8_2 + 1)), (by first | rfl | (simp; done) | (simp [*]; done)), H', ⟨by have := HK1.out; have := HK2.out; omega⟩, ⟨by (with_reducible repeat (first | apply Kd.R_alloc | apply Kd.R_drewN | apply Kd.R_drew)); exact Kd.R_mono HO239.out (fun _ hk => trivial)⟩, ⟨by repeat (first | (with_reducible first | exact HB.out | apply below_alloc | apply pw_below_drewN | apply below_drew1) | exact HB.out)⟩⟩
                            · rw [if_neg c26] at H
                              exact absurd H (by simp)
                          · rw [if_neg c24] at H
                            exact absurd H (by simp)
                        · replace c23 := Bool.eq_false_iff.mpr c23
                          subst c23
                          have H1 : (if x5_2.length < 140737488355328 then ((some (x5_2 ++ [0] : List Int)).bind fun y240 => ((screeref2_Words.f ((rd_T64 (rd_L3 l1 x6_1) x8_2).f0)).bind fun t244 => (if y240.length + t244.length < 140737488355328 then ((some (y240 ++ t244 : List Int)).bind fun y247 => ((screeref2_Words.f ((rd_T64 (rd_L3 l1 x6_1) x8_2).f2)).bind fun t251 => (if y247.length + t251.length < 140737488355328 then (screeref7_Put.l1 k2 l1 (y247 ++ t251) x6_1 (rd_L3 l1 x6_1) (wrap64 (x8_2 + 1))) else (none)))) else (none)))) else (none)) = some r := by rw [if_neg (show ¬ (false = true) by decide)] at H; exact H
                          clear H
                          have H := H1
                          clear H1
                          by_cases c31 : x5_2.length < 140737488355328
                          · rw [if_pos c31] at H
                            have LMc31 := Aside0.mk c31
                            clear c31
                            obtain ⟨y240, hy240⟩ : ∃ y_ : List Int, y_ = (x5_2 ++ [0]) := ⟨_, rfl⟩
                            replace H : ((screeref2_Words.f ((rd_T64 (rd_L3 l1 x6_1) x8_2).f0)).bind fun t244 => (if y240.length + t244.length < 140737488355328 then ((some (y240 ++ t244 : List Int)).bind fun y247 => ((screeref2_Words.f ((rd_T64 (rd_L3 l1 x6_1) x8_2).f2)).bind fun t251 => (if y247.length + t251.length < 140737488355328 then (screeref7_Put.l1 k2 l1 (y247 ++ t251) x6_1 (rd_L3 l1 x6_1) (wrap64 (x8_2 + 1))) else (none)))) else (none))) = some r := by first | (rw [hy240]; with_reducible exact H) | (have H2_ := (Option.bind_some _ _).symm.trans H; rw [hy240]; with_reducible exact H2_) | (have H2_ := (Option.bind_some _ _).symm.trans H; with_reducible exact H2_) | with_reducible exact H | (rw [hy240]; exact H) | exact H
                            have Ny240 := Aside0.mk hy240
                            clear hy240
                            replace H := Option.bind_eq_some_iff.mp H
                            obtain ⟨t244, A320, H⟩ := H
                            replace H : (if y240.length + t244.length < 140737488355328 then ((some (y240 ++ t244 : List Int)).bind fun y247 => ((screeref2_Words.f ((rd_T64 (rd_L3 l1 x6_1) x8_2).f2)).bind fun t251 => (if y247.length + t251.length < 140737488355328 then (screeref7_Put.l1 k2 l1 (y247 ++ t251) x6_1 (rd_L3 l1 x6_1) (wrap64 (x8_2 + 1))) else (none)))) else (none)) = some r := H
                            have A32 := Aside0.mk A320
                            clear A320
                            by_cases c33 : y240.length + t244.length < 140737488355328
                            · rw [if_pos c33] at H
                              have LMc33 := Aside0.mk c33
                              clear c33
                              obtain ⟨y247, hy247⟩ : ∃ y_ : List Int, y_ = (y240 ++ t244) := ⟨_, rfl⟩
                              replace H : ((screeref2_Words.f ((rd_T64 (rd_L3 l1 x6_1) x8_2).f2)).bind fun t251 => (if y247.length + t251.length < 140737488355328 then (screeref7_Put.l1 k2 l1 (y247 ++ t251) x6_1 (rd_L3 l1 x6_1) (wrap64 (x8_2 + 1))) else (none))) = some r := by first | (rw [hy247]; with_reducible exact H) | (have H2_ := (Option.bind_some _ _).symm.trans H; rw [hy247]; with_reducible exact H2_) | (have H2_ := (Option.bind_some _ _).symm.trans H; with_reducible exact H2_) | with_reducible exact H | (rw [hy247]; exact H) | exact H
                              have Ny247 := Aside0.mk hy247
                              clear hy247
                              replace H := Option.bind_eq_some_iff.mp H
                              obtain ⟨t251, A340, H⟩ := H
                              replace H : (if y247.length + t251.length < 140737488355328 then (screeref7_Put.l1 k2 l1 (y247 ++ t251) x6_1 (rd_L3 l1 x6_1) (wrap64 (x8_2 + 1))) else (none)) = some r := H
                              have A34 := Aside0.mk A340
                              clear A340
                              by_cases c35 : y247.length + t251.length < 140737488355328
                              · rw [if_pos c35] at H
                                have LMc35 := Aside0.mk c35
                                clear c35
                                obtain ⟨y254, hy254⟩ : ∃ y_ : List Int, y_ = (y247 ++ t251) := ⟨_, rfl⟩
                                replace H : (screeref7_Put.l1 k2 l1 y254 x6_1 (rd_L3 l1 x6_1) (wrap64 (x8_2 + 1))) = some r := by first | (rw [hy254]; with_reducible exact H) | (have H2_ := (Option.bind_some _ _).symm.trans H; rw [hy254]; with_reducible exact H2_) | (have H2_ := (Option.bind_some _ _).symm.trans H; with_reducible exact H2_) | with_reducible exact H | (rw [hy254]; exact H) | exact H
                                have Ny254 := Aside0.mk hy254
                                clear hy254
                                have H' := Aside0.mk H
                                clear H
                                have p229 : 0 ≤ (x8_2 : Int) := of_decide_eq_true (by first | (with_reducible assumption) | assumption)
                                have q229 : x8_2 < ((rd_L3 l1 x6_1).length : Int) := of_decide_eq_true (by first | (with_reducible assumption) | assumption)
                                obtain ⟨ad229, e229, hx229_0, hx229_1, hx229_2⟩ := at_T64 HR222_0.out x8_2 p229 q229
                                (try rw [← Nbq22.out] at hx229_1)
                                cases e229
                                replace hx229_0 := (HB.out.cell (World.block_lt_of_cell? w _ hx229_0)).trans hx229_0
                                replace hx229_1 := (HB.out.cell (World.block_lt_of_cell? w _ hx229_1)).trans hx229_1
                                replace hx229_2 := (HB.out.cell (World.block_lt_of_cell? w _ hx229_2)).trans hx229_2
                                replace p229 := eq_true p229
                                replace q229 := eq_true q229
                                go_wp2_with (first | ((with_reducible refine gate_builtin (b := .append) (xs := #[.tmp 57, .tmp 58]) rfl ?_); at_builtin; refine Kd.R_append (Kd.int .u8) (w0 := w) w.heap.size rfl (.tmp 57) (.tmp 58) 45 5 (.int .u8 0) 1 rfl Try.underlying45 info5 rfl (by decide) (by omega) u5 x5_2 0 [.int .u8 0] (fun _ => True) (fun _ => False) rfl rfl ?aP (fun _ hk => hk.elim) ?aF ?aO ?aB ?aS ?aL ?_; (case aP => exact rfl); (case aB => exact (by repeat (first | (with_reducible first | exact HB.out | apply below_alloc | apply pw_below_drewN | apply below_drew1) | exact HB.out))); (case aF => exact (fun _ _ => trivial)); (case aO => exact (by (with_reducible repeat (first | apply Kd.R_alloc | apply Kd.R_drewN | apply Kd.R_drew)); exact HO_5.out)); (case aS => exact (below_size (by repeat (first | (with_reducible first | exact HB.out | apply below_alloc | apply pw_below_drewN | apply below_drew1) | exact HB.out)))); (case aL => have := LMc31.out; omega); intro v241 w36 ho hb hg hat; rw [← Ny240.out] at ho; have n0_ := Aside0.mk (hb); have n1_ := Aside0.mk (ho); clear HB; clear HO_5; have HB := n0_; have HO242 := n1_; clear n0_ n1_; clear ho hb hg hat; have p243 : 0 ≤ (x8_2 : Int) := of_decide_eq_true (by first | (with_reducible assumption) | assumption); have q243 : x8_2 < ((rd_L3 l1 x6_1).length : Int) := of_decide_eq_true (by first | (with_reducible assumption) | assumption); obtain ⟨ad243, e243, hx243_0, hx243_1, hx243_2⟩ := at_T64 HR222_0.out x8_2 p243 q243; (try rw [← Nbq22.out] at hx243_1); obtain rfl : ad229 = ad243 := (by injection e243); replace hx243_0 := (HB.out.cell (World.block_lt_of_cell? w _ hx243_0)).trans hx243_0; replace hx243_1 := (HB.out.cell (World.block_lt_of_cell? w _ hx243_1)).trans hx243_1; replace hx243_2 := (HB.out.cell (World.block_lt_of_cell? w _ hx243_2)).trans hx243_2; replace p243 := eq_true p243; replace q243 := eq_true q243) | ((with_reducible refine gate_callee (f := 24) rfl ?_); refine goesL_ (some 66) rfl rfl Try.func24 (by kernel_rfl) rfl #[.string ((rd_T64 (rd_L3 l1 x6_1) x8_2).f0)] rfl (by (try simp only [List.map_toArray, List.map_cons, List.map_nil]); first | done | rfl | (simp only [List.length_drop, List.length_take]; rfl)) ?_; (with_reducible refine (screeref2_Words.calls ((rd_T64 (rd_L3 l1 x6_1) x8_2).f0) t244 _ A32.out).mono ?_); rintro e w37 ⟨v245, rfl, ho0, hb⟩; refine ⟨_, rfl, ?_⟩; have n0_ := Aside0.mk (Kd.R_elder' (by (with_reducible repeat (first | apply Kd.R_alloc | apply Kd.R_drewN | apply Kd.R_drew)); exact HO242.out) (Kd.R_base ho0) hb); have n1_ := Aside0.mk (Kd.R_lower (Kd.R_new' ho0 (Kd.R_lt (by (with_reducible repeat (first | apply Kd.R_alloc | apply Kd.R_drewN | apply Kd.R_drew)); exact HO242.out))) (below_size (by repeat (first | (with_reducible first | exact HB.out | apply below_alloc | apply pw_below_drewN | apply below_drew1) | exact HB.out)))); have n2_ := Aside0.mk (below_step (by repeat (first | (with_reducible first | exact HB.out | apply below_alloc | apply pw_below_drewN | apply below_drew1) | exact HB.out)) hb); clear HO242; clear HB; have HO242 := n0_; have HO246 := n1_; have HB := n2_; clear n0_ n1_ n2_; (try clear hb); (try clear hb2); (try clear hk); (try clear hi); (try clear ho0); obtain ⟨Ao39, co39, eo39⟩ := Kd.R_slice HO246.out; subst eo39) | ((with_reducible refine gate_builtin (b := .append) (xs := #[.tmp 60, .tmp 66]) rfl ?_); at_builtin; refine Kd.R_append_rows (Kd.int .u8) (w0 := w) w.heap.size rfl (.tmp 60) (.tmp 66) 45 5 (.int .u8 0) 1 rfl Try.underlying45 info5 rfl (by decide) (by omega) v241 y240 t244 _ _ _ (fun k_ => some k_ ≠ (.slice Ao39 t244.length co39 : Value).ownBlock) (fun _ => False) rfl rfl ?aO ?aR (fun _ _ h => h) (fun _ h => h.elim) ?aF ?aB ?aS ?aL ?_; (case aR => repeat (first | exact (Kd.R_reads' HO246.out).2.2 | (with_reducible refine Kd.C_alloc ?_ _) | (with_reducible refine Kd.C_drewN ?_ _) | (with_reducible refine Kd.C_drew ?_))); (case aB => exact (by repeat (first | (with_reducible first | exact HB.out | apply below_alloc | apply pw_below_drewN | apply below_drew1) | exact HB.out))); (case aF => exact (fun k_ hk => Kd.fresh' (Kd.R_lt (by (with_reducible repeat (first | apply Kd.R_alloc | apply Kd.R_drewN | apply Kd.R_drew)); exact HO246.out)) k_ hk)); (case aO => exact (by (with_reducible repeat (first | apply Kd.R_alloc | apply Kd.R_drewN | apply Kd.R_drew)); exact Kd.R_mono HO242.out (fun _ hk => hk.2))); (case aS => exact (below_size (by repeat (first | (with_reducible first | exact HB.out | apply below_alloc | apply pw_below_drewN | apply below_drew1) | exact HB.out)))); (case aL => have := LMc33.out; omega); intro v248 w38 ho hb hg hat; rw [← Ny247.out] at ho; have n0_ := Aside0.mk (Kd.R_after (ok := (fun _ => True)) (by (with_reducible repeat (first | apply Kd.R_alloc | apply Kd.R_drewN | apply Kd.R_drew)); exact HO246.out) hg hat); have n1_ := Aside0.mk (hb); have n2_ := Aside0.mk (ho); clear HO246; clear HB; clear HO242; have HO246 := n0_; have HB := n1_; have HO249 := n2_; clear n0_ n1_ n2_; clear ho hb hg hat; have p250 : 0 ≤ (x8_2 : Int) := of_decide_eq_true (by first | (with_reducible assumption) | assumption); have q250 : x8_2 < ((rd_L3 l1 x6_1).length : Int) := of_decide_eq_true (by first | (with_reducible assumption) | assumption); obtain ⟨ad250, e250, hx250_0, hx250_1, hx250_2⟩ := at_T64 HR222_0.out x8_2 p250 q250; (try rw [← Nbq22.out] at hx250_1); obtain rfl : ad229 = ad250 := (by injection e250); replace hx250_0 := (HB.out.cell (World.block_lt_of_cell? w _ hx250_0)).trans hx250_0; replace hx250_1 := (HB.out.cell (World.block_lt_of_cell? w _ hx250_1)).trans hx250_1; replace hx250_2 := (HB.out.cell (World.block_lt_of_cell? w _ hx250_2)).trans hx250_2; replace p250 := eq_true p250; replace q250 := eq_true q250) | ((with_reducible refine gate_callee (f := 24) rfl ?_); refine goesL_ (some 74) rfl rfl Try.func24 (by kernel_rfl) rfl #[.string ((rd_T64 (rd_L3 l1 x6_1) x8_2).f2)] rfl (by (try simp only [List.map_toArray, List.map_cons, List.map_nil]); first | done | rfl | (simp only [List.length_drop, List.length_take]; rfl)) ?_; (with_reducible refine (screeref2_Words.calls ((rd_T64 (rd_L3 l1 x6_1) x8_2).f2) t251 _ A34.out).mono ?_); rintro e w40 ⟨v252, rfl, ho0, hb⟩; refine ⟨_, rfl, ?_⟩; have n0_ := Aside0.mk (Kd.R_elder' (by (with_reducible repeat (first | apply Kd.R_alloc | apply Kd.R_drewN | apply Kd.R_drew)); exact HO246.out) (Kd.R_base ho0) hb); have n1_ := Aside0.mk (Kd.R_elder' (by (with_reducible repeat (first | apply Kd.R_alloc | apply Kd.R_drewN | apply Kd.R_drew)); exact HO249.out) (Kd.R_base ho0) hb); have n2_ := Aside0.mk (Kd.R_lower (Kd.R_new' (Kd.R_new' ho0 (Kd.R_lt (by (with_reducible repeat (first | apply Kd.R_alloc | apply Kd.R_drewN | apply Kd.R_drew)); exact HO246.out))) (Kd.R_lt (by (with_reducible repeat (first | apply Kd.R_alloc | apply Kd.R_drewN | apply Kd.R_drew)); exact HO249.out))) (below_size (by repeat (first | (with_reducible first | exact HB.out | apply below_alloc | apply pw_below_drewN | apply below_drew1) | exact HB.out)))); have n3_ := Aside0.mk (below_step (by repeat (first | (with_reducible first | exact HB.out | apply below_alloc | apply pw_below_drewN | apply below_drew1) | exact HB.out)) hb); clear HO246; clear HO249; clear HB; have HO246 := n0_; have HO249 := n1_; have HO253 := n2_; have HB := n3_; clear n0_ n1_ n2_ n3_; (try clear hb); (try clear hb2); (try clear hk); (try clear hi); (try clear ho0); obtain ⟨Ao42, co42, eo42⟩ := Kd.R_slice HO253.out; subst eo42) | ((with_reducible refine gate_builtin (b := .append) (xs := #[.tmp 68, .tmp 74]) rfl ?_); at_builtin; refine Kd.R_append_rows (Kd.int .u8) (w0 := w) w.heap.size rfl (.tmp 68) (.tmp 74) 45 5 (.int .u8 0) 1 rfl Try.underlying45 info5 rfl (by decide) (by omega) v248 y247 t251 _ _ _ (fun k_ => some k_ ≠ (.slice Ao39 t244.length co39 : Value).ownBlock ∧ some k_ ≠ (.slice Ao42 t251.length co42 : Value).ownBlock) (fun _ => False) rfl rfl ?aO ?aR (fun _ _ h => h) (fun _ h => h.elim) ?aF ?aB ?aS ?aL ?_; (case aR => repeat (first | exact (Kd.R_reads' HO253.out).2.2 | (with_reducible refine Kd.C_alloc ?_ _) | (with_reducible refine Kd.C_drewN ?_ _) | (with_reducible refine Kd.C_drew ?_))); (case aB => exact (by repeat (first | (with_reducible first | exact HB.out | apply below_alloc | apply pw_below_drewN | apply below_drew1) | exact HB.out))); (case aF => exact (fun k_ hk => ⟨Kd.fresh' (Kd.R_lt (by (with_reducible repeat (first | apply Kd.R_alloc | apply Kd.R_drewN | apply Kd.R_drew)); exact HO246.out)) k_ hk, Kd.fresh' (Kd.R_lt (by (with_reducible repeat (first | apply Kd.R_alloc | apply Kd.R_drewN | apply Kd.R_drew)); exact HO253.out)) k_ hk⟩)); (case aO => exact (by (with_reducible repeat (first | apply Kd.R_alloc | apply Kd.R_drewN | apply Kd.R_drew)); exact HO249.out)); (case aS => exact (below_size (by repeat (first | (with_reducible first | exact HB.out | apply below_alloc | apply pw_below_drewN | apply below_drew1) | exact HB.out)))); (case aL => have := LMc35.out; omega); intro v255 w41 ho hb hg hat; rw [← Ny254.out] at ho; have n0_ := Aside0.mk (Kd.R_after (ok := (fun k_ => some k_ ≠ (.slice Ao42 t251.length co42 : Value).ownBlock)) (by (with_reducible repeat (first | apply Kd.R_alloc | apply Kd.R_drewN | apply Kd.R_drew)); exact Kd.R_mono HO246.out (fun _ hk => ⟨hk.2, hk.1.2⟩)) hg hat); have n1_ := Aside0.mk (Kd.R_after (ok := (fun k_ => some k_ ≠ (.slice Ao39 t244.length co39 : Value).ownBlock)) (by (with_reducible repeat (first | apply Kd.R_alloc | apply Kd.R_drewN | apply Kd.R_drew)); exact Kd.R_mono HO253.out (fun _ hk => ⟨hk.1.2, hk.2⟩)) hg hat); have n2_ := Aside0.mk (hb); have n3_ := Aside0.mk (ho); clear HO246; clear HO253; clear HB; clear HO249; have HO246 := n0_; have HO253 := n1_; have HB := n2_; have HO256 := n3_; clear n0_ n1_ n2_ n3_; clear ho hb hg hat))
                                go_roundg k2
                                case measure => have := HK1.out; have := HK2.out; omega
                                case rel => exact ⟨(y254), (wrap64 (x8_2 + 1)), (by first | rfl | (simp; done) | (simp [*]; done)), H', ⟨by have := HK1.out; have := HK2.out; omega⟩, ⟨by (with_reducible repeat (first | apply Kd.R_alloc | apply Kd.R_drewN | apply Kd.R_drew)); exact Kd.R_mono HO256.out (fun _ hk => trivial)⟩, ⟨by repeat (first | (with_reducible first | exact HB.out | apply below_alloc | apply pw_below_drewN | apply below_drew1) | exact HB.out)⟩⟩
                              · rw [if_neg c35] at H
                                exact absurd H (by simp)
                            · rw [if_neg c33] at H
                              exact absurd H (by simp)
                          · rw [if_neg c31] at H
                            exact absurd H (by simp)
                      · rw [if_neg c21] at H
                        exact absurd H (by simp)
                    · rw [if_neg c20] at H
                      have c20b0 : decide (x8_2 < ((rd_L3 l1 x6_1).length : Int)) = false := decide_eq_false c20
                      clear c20
                      have H' := Aside0.mk H
                      clear H
                      go_wp2
                      go_roundg k2
                      case measure => have := HK1.out; have := HK2.out; omega
                      case rel => exact ⟨(x5_2), (wrap64 (x6_1 + 1)), (by first | rfl | (simp; done) | (simp [*]; done)), H', ⟨by have := HK1.out; have := HK2.out; omega⟩, ⟨by (with_reducible repeat (first | apply Kd.R_alloc | apply Kd.R_drewN | apply Kd.R_drew)); exact HO_5.out⟩, ⟨by repeat (first | (with_reducible first | exact HB.out | apply below_alloc | apply pw_below_drewN | apply below_drew1) | exact HB.out)⟩⟩
              · rw [if_neg c16] at H
                exact absurd H (by simp)
            · rw [if_neg c14] at H
              exact absurd H (by simp)
          · rw [if_neg c13] at H
            have c13b0 : decide (x6_1 < (l1.length : Int)) = false := decide_eq_false c13
            clear c13
            obtain rfl := Option.some.inj H
            go_wp2
            go_ret
            exact ⟨_, by first | rfl | (simp [errW_none, errW_some] <;> rfl) | (simp [*, errW_none, errW_some] <;> rfl), by (with_reducible repeat (first | apply Kd.R_alloc | apply Kd.R_drewN | apply Kd.R_drew)); exact HO_5.out, by repeat (first | (with_reducible first | exact HB.out | apply below_alloc | apply pw_below_drewN | apply below_drew1) | exact HB.out)⟩
    · rw [if_neg c6] at H
      exact absurd H (by simp)
  · rw [if_neg c4] at H
    exact absurd H (by simp)

/-! ### screelaw7_sameGroups: function 11 -/
mutual
def screelaw7_sameGroups.l0 : Nat → List (List (S64)) → List (List (S64)) → Int → Option (Bool)
  | 0, _, _, _ => none
  | k + 1, x0, x1, x5 => if x5 < (x0.length : Int) then (if 0 ≤ x5 then (if x5 < (x1.length : Int) then (if ((rd_L3 x0 x5).length : Int) = ((rd_L3 x1 x5).length : Int) then (screelaw7_sameGroups.l1 k x0 x1 x5 0) else (some false)) else (none)) else (none)) else (some true)
def screelaw7_sameGroups.l1 : Nat → List (List (S64)) → List (List (S64)) → Int → Int → Option (Bool)
  | 0, _, _, _, _ => none
  | k + 1, x0, x1, x5, x6 => if 0 ≤ x5 then (if x5 < (x0.length : Int) then (if x6 < ((rd_L3 x0 x5).length : Int) then (if 0 ≤ x6 then (if x5 < (x1.length : Int) then (if x6 < ((rd_L3 x1 x5).length : Int) then (if (!((((rd_T64 (rd_L3 x0 x5) x6).f0).toList) == (((rd_T64 (rd_L3 x1 x5) x6).f0).toList)) || (!(((rd_T64 (rd_L3 x0 x5) x6).f1) == ((rd_T64 (rd_L3 x1 x5) x6).f1)) || (!((((rd_T64 (rd_L3 x0 x5) x6).f2).toList) == (((rd_T64 (rd_L3 x1 x5) x6).f2).toList))))) = true then (some false) else (screelaw7_sameGroups.l1 k x0 x1 x5 (wrap64 (x6 + 1)))) else (none)) else (none)) else (none)) else (screelaw7_sameGroups.l0 k x0 x1 (wrap64 (x5 + 1)))) else (none)) else (none)
end
def screelaw7_sameGroups.f (k : Nat) (l0 : List (List (S64))) (l1 : List (List (S64))) : Option (Bool) := if (l0.length : Int) = (l1.length : Int) then (screelaw7_sameGroups.l0 k l0 l1 0) else (some false)
theorem screelaw7_sameGroups.mono_l : ∀ k, (∀ y0 y1 y2, LeO (screelaw7_sameGroups.l0 k y0 y1 y2) (screelaw7_sameGroups.l0 (k + 1) y0 y1 y2)) ∧ (∀ y0 y1 y2 y3, LeO (screelaw7_sameGroups.l1 k y0 y1 y2 y3) (screelaw7_sameGroups.l1 (k + 1) y0 y1 y2 y3))
  | 0 => ⟨fun _ _ _ r h => by simp [screelaw7_sameGroups.l0] at h, fun _ _ _ _ r h => by simp [screelaw7_sameGroups.l1] at h⟩
  | k + 1 => by
    obtain ⟨ih0, ih1⟩ := screelaw7_sameGroups.mono_l k
    refine ⟨?_, ?_⟩
    · intro y0 y1 y2
      unfold screelaw7_sameGroups.l0
      repeat' first
      | (with_reducible exact ih0 _ _ _)
      | (with_reducible exact ih1 _ _ _ _)
      | (with_reducible exact LeO.refl _)
      | (with_reducible exact LeO.none _)
      | (with_reducible refine LeO.ite ?_ ?_)
      | (with_reducible refine LeO.bind ?_ (fun _ => ?_))
      | exact ih0 _ _ _
      | exact ih1 _ _ _ _
      | exact LeO.none _
      | refine LeO.ite ?_ ?_
      | refine LeO.bind ?_ (fun _ => ?_)
    · intro y0 y1 y2 y3
      unfold screelaw7_sameGroups.l1
      repeat' first
      | (with_reducible exact ih0 _ _ _)
      | (with_reducible exact ih1 _ _ _ _)
      | (with_reducible exact LeO.refl _)
      | (with_reducible exact LeO.none _)
      | (with_reducible refine LeO.ite ?_ ?_)
      | (with_reducible refine LeO.bind ?_ (fun _ => ?_))
      | exact ih0 _ _ _
      | exact ih1 _ _ _ _
      | exact LeO.none _
      | refine LeO.ite ?_ ?_
      | refine LeO.bind ?_ (fun _ => ?_)
theorem screelaw7_sameGroups.mono : ∀ a0 a1 k, LeO (screelaw7_sameGroups.f k a0 a1) (screelaw7_sameGroups.f (k + 1) a0 a1) := by
  intro a0 a1 k
  obtain ⟨ih0, ih1⟩ := screelaw7_sameGroups.mono_l k
  unfold screelaw7_sameGroups.f
  repeat' first
      | (with_reducible exact ih0 _ _ _)
      | (with_reducible exact ih1 _ _ _ _)
      | (with_reducible exact LeO.refl _)
      | (with_reducible exact LeO.none _)
      | (with_reducible refine LeO.ite ?_ ?_)
      | (with_reducible refine LeO.bind ?_ (fun _ => ?_))
      | exact ih0 _ _ _
      | exact ih1 _ _ _ _
      | exact LeO.none _
      | refine LeO.ite ?_ ?_
      | refine LeO.bind ?_ (fun _ => ?_)
set_option maxHeartbeats 8000000 in
set_option maxRecDepth 100000 in
theorem screelaw7_sameGroups.calls (k : Nat) (A0 : Option Addr) (c0 : Nat) (l0 : List (List (S64))) (A1 : Option Addr) (c1 : Nat) (l1 : List (List (S64))) (r : Bool) (w : World) (hr0 : Kd.C (Kd.slice 64 k64) w A0 l0.length l0) (hc0 : l0.length ≤ c0) (hr1 : Kd.C (Kd.slice 64 k64) w A1 l1.length l1) (hc1 : l1.length ≤ c1) (h : screelaw7_sameGroups.f k l0 l1 = some r) :
    Calls Try.prog 11 #[.slice A0 l0.length c0, .slice A1 l1.length c1] w fun e w' => e = .returned (.bool r) ∧ Drawn0 w w' := by
  have hu64 := Try.underlying64
  have HR0 := Aside0.mk hr0
  have HC0 := Aside0.mk hc0
  clear hr0 hc0
  have HR1 := Aside0.mk hr1
  have HC1 := Aside0.mk hc1
  clear hr1 hc1
  have H : (if (l0.length : Int) = (l1.length : Int) then (screelaw7_sameGroups.l0 k l0 l1 0) else (some false)) = some r := h
  clear h
  by_cases c3 : (l0.length : Int) = (l1.length : Int)
  · rw [if_pos c3] at H
    have c3b0 : ((l0.length : Int) == (l1.length : Int)) = true := beq_iff_eq.mpr c3
    have c3b1 : ((l0.length : Int) != (l1.length : Int)) = false := bne_eq_false_iff_eq.mpr c3
    have c3b2 : (l0.length == l1.length) = true := by first | simpa using c3 | (simp at c3 ⊢; omega)
    clear c3
    have H' := Aside0.mk H
    clear H
    go_enter Try.func11, Try.ntmps11
    go_wp2
    repeat (go_quiet (fail); try go_wp2)
    go_loopg [5] k (fun kq v5 w' => ∃ (x5_1 : Int), v5 = .int .i64 x5_1 ∧ Aside0 (screelaw7_sameGroups.l0 kq l0 l1 x5_1 = some r) ∧ Aside0 (kq ≤ k) ∧ Drawn0 w w')
    case atStart => exact ⟨(0), (by first | rfl | (simp; done) | (simp [*]; done)), H', ⟨Nat.le_refl _⟩, by repeat (first | exact Drawn0.refl _ | apply Drawn0.step)⟩
    case round =>
      clear H'
      try clear c1
      try clear p2
      try clear c3
      try clear c3b0
      try clear c3b1
      try clear c3b2
      obtain ⟨x5_1, rfl, HA, HK1, ⟨m1, rfl⟩⟩ := hrel
      cases gk with
      | zero => exact absurd HA.out (by simp [screelaw7_sameGroups.l0])
      | succ k1 =>
        have H := HA.out
        clear HA
        simp only [screelaw7_sameGroups.l0] at H
        by_cases c4 : x5_1 < (l0.length : Int)
        · rw [if_pos c4] at H
          have c4b0 : decide (x5_1 < (l0.length : Int)) = true := decide_eq_true c4
          clear c4
          by_cases c5 : 0 ≤ x5_1
          · rw [if_pos c5] at H
            have c5b0 : decide (0 ≤ x5_1) = true := decide_eq_true c5
            clear c5
            by_cases c6 : x5_1 < (l1.length : Int)
            · rw [if_pos c6] at H
              have c6b0 : decide (x5_1 < (l1.length : Int)) = true := decide_eq_true c6
              clear c6
              by_cases c7 : ((rd_L3 l0 x5_1).length : Int) = ((rd_L3 l1 x5_1).length : Int)
              · rw [if_pos c7] at H
                have c7b0 : (((rd_L3 l0 x5_1).length : Int) == ((rd_L3 l1 x5_1).length : Int)) = true := beq_iff_eq.mpr c7
                have c7b1 : (((rd_L3 l0 x5_1).length : Int) != ((rd_L3 l1 x5_1).length : Int)) = false := bne_eq_false_iff_eq.mpr c7
                have c7b2 : ((rd_L3 l0 x5_1).length == (rd_L3 l1 x5_1).length) = true := by first | simpa using c7 | (simp at c7 ⊢; omega)
                clear c7
                have H' := Aside0.mk H
                clear H
                have p257 : 0 ≤ (x5_1 : Int) := of_decide_eq_true (by first | (with_reducible assumption) | assumption)
                have q257 : x5_1 < (l0.length : Int) := of_decide_eq_true (by first | (with_reducible assumption) | assumption)
                obtain ⟨ad257, A257_0, c257_0, e257, hx257_0, hl257_0, hi257_0⟩ := at_L3 HR0.out x5_1 p257 q257
                cases e257
                have HR257_0 := Aside0.mk hi257_0
                have HC257_0 := Aside0.mk hl257_0
                clear hi257_0 hl257_0
                replace p257 := eq_true p257
                replace q257 := eq_true q257
                have p258 : 0 ≤ (x5_1 : Int) := of_decide_eq_true (by first | (with_reducible assumption) | assumption)
                have q258 : x5_1 < (l1.length : Int) := of_decide_eq_true (by first | (with_reducible assumption) | assumption)
                obtain ⟨ad258, A258_0, c258_0, e258, hx258_0, hl258_0, hi258_0⟩ := at_L3 HR1.out x5_1 p258 q258
                cases e258
                have HR258_0 := Aside0.mk hi258_0
                have HC258_0 := Aside0.mk hl258_0
                clear hi258_0 hl258_0
                replace p258 := eq_true p258
                replace q258 := eq_true q258
                go_wp2
                repeat (go_quiet (fail); try go_wp2)
                go_loopg [6] k1 (fun kq v6 w' => ∃ (x6_2 : Int), v6 = .int .i64 x6_2 ∧ Aside0 (screelaw7_sameGroups.l1 kq l0 l1 x5_1 x6_2 = some r) ∧ Aside0 (kq ≤ k1) ∧ Drawn0 w w')
                case atStart => exact ⟨(0), (by first | rfl | (simp; done) | (simp [*]; done)), H', ⟨Nat.le_refl _⟩, by repeat (first | exact Drawn0.refl _ | apply Drawn0.step)⟩
                case round =>
                  clear H'
                  try clear c1
                  try clear c2
                  try clear p2
                  try clear q2
                  try clear hx2
                  try clear c3
                  try clear c3b0
                  try clear c3b1
                  try clear c3b2
                  try clear c4
                  try clear c4b0
                  try clear c5
                  try clear c5b0
                  try clear c6
                  try clear c6b0
                  try clear c7
                  try clear c7b0
                  try clear c7b1
                  try clear c7b2
                  try clear hx257_0
                  try clear hx258_0
                  try clear p2
                  try clear p257
                  try clear p258
                  try clear q257
                  try clear q258
                  obtain ⟨x6_2, rfl, HA, HK2, ⟨m2, rfl⟩⟩ := hrel
                  cases gk with
                  | zero => exact absurd HA.out (by simp [screelaw7_sameGroups.l1])
                  | succ k2 =>
                    have H := HA.out
                    clear HA
                    simp only [screelaw7_sameGroups.l1] at H
                    by_cases c8 : 0 ≤ x5_1
                    · rw [if_pos c8] at H
                      have c8b0 : decide (0 ≤ x5_1) = true := decide_eq_true c8
                      clear c8
                      by_cases c9 : x5_1 < (l0.length : Int)
                      · rw [if_pos c9] at H
                        have c9b0 : decide (x5_1 < (l0.length : Int)) = true := decide_eq_true c9
                        clear c9
                        by_cases c10 : x6_2 < ((rd_L3 l0 x5_1).length : Int)
                        · rw [if_pos c10] at H
                          have c10b0 : decide (x6_2 < ((rd_L3 l0 x5_1).length : Int)) = true := decide_eq_true c10
                          clear c10
                          by_cases c11 : 0 ≤ x6_2
                          · rw [if_pos c11] at H
                            have c11b0 : decide (0 ≤ x6_2) = true := decide_eq_true c11
                            clear c11
                            by_cases c12 : x5_1 < (l1.length : Int)
                            · rw [if_pos c12] at H
                              have c12b0 : decide (x5_1 < (l1.length : Int)) = true := decide_eq_true c12
                              clear c12
                              by_cases c13 : x6_2 < ((rd_L3 l1 x5_1).length : Int)
                              · rw [if_pos c13] at H
                                have c13b0 : decide (x6_2 < ((rd_L3 l1 x5_1).length : Int)) = true := decide_eq_true c13
                                clear c13
                                by_cases c14 : (!((((rd_T64 (rd_L3 l0 x5_1) x6_2).f0).toList) == (((rd_T64 (rd_L3 l1 x5_1) x6_2).f0).toList)) || (!(((rd_T64 (rd_L3 l0 x5_1) x6_2).f1) == ((rd_T64 (rd_L3 l1 x5_1) x6_2).f1)) || (!((((rd_T64 (rd_L3 l0 x5_1) x6_2).f2).toList) == (((rd_T64 (rd_L3 l1 x5_1) x6_2).f2).toList))))) = true
                                · rw [if_pos c14] at H
                                  have c14b0 : (!((((rd_T64 (rd_L3 l0 x5_1) x6_2).f0).toList) == (((rd_T64 (rd_L3 l1 x5_1) x6_2).f0).toList)) || (!(((rd_T64 (rd_L3 l0 x5_1) x6_2).f1) == ((rd_T64 (rd_L3 l1 x5_1) x6_2).f1)) || (!((((rd_T64 (rd_L3 l0 x5_1) x6_2).f2).toList) == (((rd_T64 (rd_L3 l1 x5_1) x6_2).f2).toList))))) = true := c14
                                  clear c14
                                  obtain rfl := Option.some.inj H
                                  have p259 : 0 ≤ (x5_1 : Int) := of_decide_eq_true (by first | (with_reducible assumption) | assumption)
                                  have q259 : x5_1 < (l0.length : Int) := of_decide_eq_true (by first | (with_reducible assumption) | assumption)
                                  obtain ⟨ad259, A259_0, c259_0, e259, hx259_0, hl259_0, hi259_0⟩ := at_L3 HR0.out x5_1 p259 q259
                                  obtain rfl : ad257 = ad259 := (by injection e259)
                                  have HR259_0 := Aside0.mk hi259_0
                                  have HC259_0 := Aside0.mk hl259_0
                                  clear hi259_0 hl259_0
                                  replace p259 := eq_true p259
                                  replace q259 := eq_true q259
                                  have p260 : 0 ≤ (x5_1 : Int) := of_decide_eq_true (by first | (with_reducible assumption) | assumption)
                                  have q260 : x5_1 < (l0.length : Int) := of_decide_eq_true (by first | (with_reducible assumption) | assumption)
                                  obtain ⟨ad260, A260_0, c260_0, e260, hx260_0, hl260_0, hi260_0⟩ := at_L3 HR0.out x5_1 p260 q260
                                  obtain rfl : ad257 = ad260 := (by injection e260)
                                  have HR260_0 := Aside0.mk hi260_0
                                  have HC260_0 := Aside0.mk hl260_0
                                  clear hi260_0 hl260_0
                                  replace p260 := eq_true p260
                                  replace q260 := eq_true q260
                                  have ea_ := Option.some.inj (hx259_0.symm.trans hx260_0)
                                  injection ea_ with ea_ en_ ec_
                                  subst ea_
                                  subst ec_
                                  clear en_
                                  have p261 : 0 ≤ (x6_2 : Int) := of_decide_eq_true (by first | (with_reducible assumption) | assumption)
                                  have q261 : x6_2 < ((rd_L3 l0 x5_1).length : Int) := of_decide_eq_true (by first | (with_reducible assumption) | assumption)
                                  obtain ⟨ad261, e261, hx261_0, hx261_1, hx261_2⟩ := at_T64 HR260_0.out x6_2 p261 q261
                                  cases e261
                                  replace p261 := eq_true p261
                                  replace q261 := eq_true q261
                                  have p262 : 0 ≤ (x5_1 : Int) := of_decide_eq_true (by first | (with_reducible assumption) | assumption)
                                  have q262 : x5_1 < (l1.length : Int) := of_decide_eq_true (by first | (with_reducible assumption) | assumption)
                                  obtain ⟨ad262, A262_0, c262_0, e262, hx262_0, hl262_0, hi262_0⟩ := at_L3 HR1.out x5_1 p262 q262
                                  obtain rfl : ad258 = ad262 := (by injection e262)
                                  have HR262_0 := Aside0.mk hi262_0
                                  have HC262_0 := Aside0.mk hl262_0
                                  clear hi262_0 hl262_0
                                  replace p262 := eq_true p262
                                  replace q262 := eq_true q262
                                  have p263 : 0 ≤ (x6_2 : Int) := of_decide_eq_true (by first | (with_reducible assumption) | assumption)
                                  have q263 : x6_2 < ((rd_L3 l1 x5_1).length : Int) := of_decide_eq_true (by first | (with_reducible assumption) | assumption)
                                  obtain ⟨ad263, e263, hx263_0, hx263_1, hx263_2⟩ := at_T64 HR262_0.out x6_2 p263 q263
                                  cases e263
                                  replace p263 := eq_true p263
                                  replace q263 := eq_true q263
                                  go_wp2
                                  repeat (go_quiet (fail); try go_wp2)
                                  go_ret
                                  exact ⟨by first | rfl | (simp; done) | (simp [*]; done), by repeat (first | exact Drawn0.refl _ | apply Drawn0.step)⟩
                                · rw [if_neg c14] at H
                                  have c14b0 : (!((((rd_T64 (rd_L3 l0 x5_1) x6_2).f0).toList) == (((rd_T64 (rd_L3 l1 x5_1) x6_2).f0).toList)) || (!(((rd_T64 (rd_L3 l0 x5_1) x6_2).f1) == ((rd_T64 (rd_L3 l1 x5_1) x6_2).f1)) || (!((((rd_T64 (rd_L3 l0 x5_1) x6_2).f2).toList) == (((rd_T64 (rd_L3 l1 x5_1) x6_2).f2).toList))))) = false := by simpa using c14
                                  clear c14
                                  have H' := Aside0.mk H
                                  clear H
                                  have p259 : 0 ≤ (x5_1 : Int) := of_decide_eq_true (by first | (with_reducible assumption) | assumption)
                                  have q259 : x5_1 < (l0.length : Int) := of_decide_eq_true (by first | (with_reducible assumption) | assumption)
                                  obtain ⟨ad259, A259_0, c259_0, e259, hx259_0, hl259_0, hi259_0⟩ := at_L3 HR0.out x5_1 p259 q259
                                  obtain rfl : ad257 = ad259 := (by injection e259)
                                  have HR259_0 := Aside0.mk hi259_0
                                  have HC259_0 := Aside0.mk hl259_0
                                  clear hi259_0 hl259_0
                                  replace p259 := eq_true p259
                                  replace q259 := eq_true q259
                                  have p260 : 0 ≤ (x5_1 : Int) := of_decide_eq_true (by first | (with_reducible assumption) | assumption)
                                  have q260 : x5_1 < (l0.length : Int) := of_decide_eq_true (by first | (with_reducible assumption) | assumption)
                                  obtain ⟨ad260, A260_0, c260_0, e260, hx260_0, hl260_0, hi260_0⟩ := at_L3 HR0.out x5_1 p260 q260
                                  obtain rfl : ad257 = ad260 := (by injection e260)
                                  have HR260_0 := Aside0.mk hi260_0
                                  have HC260_0 := Aside0.mk hl260_0
                                  clear hi260_0 hl260_0
                                  replace p260 := eq_true p260
                                  replace q260 := eq_true q260
                                  have ea_ := Option.some.inj (hx259_0.symm.trans hx260_0)
                                  injection ea_ with ea_ en_ ec_
                                  subst ea_
                                  subst ec_
                                  clear en_
                                  have p261 : 0 ≤ (x6_2 : Int) := of_decide_eq_true (by first | (with_reducible assumption) | assumption)
                                  have q261 : x6_2 < ((rd_L3 l0 x5_1).length : Int) := of_decide_eq_true (by first | (with_reducible assumption) | assumption)
                                  obtain ⟨ad261, e261, hx261_0, hx261_1, hx261_2⟩ := at_T64 HR260_0.out x6_2 p261 q261
                                  cases e261
                                  replace p261 := eq_true p261
                                  replace q261 := eq_true q261
                                  have p262 : 0 ≤ (x5_1 : Int) := of_decide_eq_true (by first | (with_reducible assumption) | assumption)
                                  have q262 : x5_1 < (l1.length : Int) := of_decide_eq_true (by first | (with_reducible assumption) | assumption)
                                  obtain ⟨ad262, A262_0, c262_0, e262, hx262_0, hl262_0, hi262_0⟩ := at_L3 HR1.out x5_1 p262 q262
                                  obtain rfl : ad258 = ad262 := (by injection e262)
                                  have HR262_0 := Aside0.mk hi262_0
                                  have HC262_0 := Aside0.mk hl262_0
                                  clear hi262_0 hl262_0
                                  replace p262 := eq_true p262
                                  replace q262 := eq_true q262
                                  have p263 : 0 ≤ (x6_2 : Int) := of_decide_eq_true (by first | (with_reducible assumption) | assumption)
                                  have q263 : x6_2 < ((rd_L3 l1 x5_1).length : Int) := of_decide_eq_true (by first | (with_reducible assumption) | assumption)
                                  obtain ⟨ad263, e263, hx263_0, hx263_1, hx263_2⟩ := at_T64 HR262_0.out x6_2 p263 q263
                                  cases e263
                                  replace p263 := eq_true p263
                                  replace q263 := eq_true q263
                                  go_wp2
                                  repeat (go_quiet (fail); try go_wp2)
                                  go_roundg k2
                                  case measure => have := HK1.out; have := HK2.out; omega
                                  case rel => exact ⟨(wrap64 (x6_2 + 1)), (by first | rfl | (simp; done) | (simp [*]; done)), H', ⟨by have := HK1.out; have := HK2.out; omega⟩, by repeat (first | exact Drawn0.refl _ | apply Drawn0.step)⟩
                              · rw [if_neg c13] at H
                                exact absurd H (by simp)
                            · rw [if_neg c12] at H
                              exact absurd H (by simp)
                          · rw [if_neg c11] at H
                            exact absurd H (by simp)
                        · rw [if_neg c10] at H
                          have c10b0 : decide (x6_2 < ((rd_L3 l0 x5_1).length : Int)) = false := decide_eq_false c10
                          clear c10
                          have H' := Aside0.mk H
                          clear H
                          have p259 : 0 ≤ (x5_1 : Int) := of_decide_eq_true (by first | (with_reducible assumption) | assumption)
                          have q259 : x5_1 < (l0.length : Int) := of_decide_eq_true (by first | (with_reducible assumption) | assumption)
                          obtain ⟨ad259, A259_0, c259_0, e259, hx259_0, hl259_0, hi259_0⟩ := at_L3 HR0.out x5_1 p259 q259
                          obtain rfl : ad257 = ad259 := (by injection e259)
                          have HR259_0 := Aside0.mk hi259_0
                          have HC259_0 := Aside0.mk hl259_0
                          clear hi259_0 hl259_0
                          replace p259 := eq_true p259
                          replace q259 := eq_true q259
                          go_wp2
                          repeat (go_quiet (fail); try go_wp2)
                          go_roundg k2
                          case measure => have := HK1.out; have := HK2.out; omega
                          case rel => exact ⟨(wrap64 (x5_1 + 1)), (by first | rfl | (simp; done) | (simp [*]; done)), H', ⟨by have := HK1.out; have := HK2.out; omega⟩, by repeat (first | exact Drawn0.refl _ | apply Drawn0.step)⟩
                      · rw [if_neg c9] at H
                        exact absurd H (by simp)
                    · rw [if_neg c8] at H
                      exact absurd H (by simp)
              · rw [if_neg c7] at H
                have c7b0 : (((rd_L3 l0 x5_1).length : Int) == ((rd_L3 l1 x5_1).length : Int)) = false := beq_eq_false_iff_ne.mpr c7
                have c7b1 : (((rd_L3 l0 x5_1).length : Int) != ((rd_L3 l1 x5_1).length : Int)) = true := bne_iff_ne.mpr c7
                have c7b2 : ((rd_L3 l0 x5_1).length == (rd_L3 l1 x5_1).length) = false := by first | simpa using c7 | (simp at c7 ⊢; omega)
                obtain rfl := Option.some.inj H
                have p257 : 0 ≤ (x5_1 : Int) := of_decide_eq_true (by first | (with_reducible assumption) | assumption)
                have q257 : x5_1 < (l0.length : Int) := of_decide_eq_true (by first | (with_reducible assumption) | assumption)
                obtain ⟨ad257, A257_0, c257_0, e257, hx257_0, hl257_0, hi257_0⟩ := at_L3 HR0.out x5_1 p257 q257
                cases e257
                have HR257_0 := Aside0.mk hi257_0
                have HC257_0 := Aside0.mk hl257_0
                clear hi257_0 hl257_0
                replace p257 := eq_true p257
                replace q257 := eq_true q257
                have p258 : 0 ≤ (x5_1 : Int) := of_decide_eq_true (by first | (with_reducible assumption) | assumption)
                have q258 : x5_1 < (l1.length : Int) := of_decide_eq_true (by first | (with_reducible assumption) | assumption)
                obtain ⟨ad258, A258_0, c258_0, e258, hx258_0, hl258_0, hi258_0⟩ := at_L3 HR1.out x5_1 p258 q258
                cases e258
                have HR258_0 := Aside0.mk hi258_0
                have HC258_0 := Aside0.mk hl258_0
                clear hi258_0 hl258_0
                replace p258 := eq_true p258
                replace q258 := eq_true q258
                go_wp2
                repeat (go_quiet (fail); try go_wp2)
                go_ret
                exact ⟨by first | rfl | (simp; done) | (simp [*]; done), by repeat (first | exact Drawn0.refl _ | apply Drawn0.step)⟩
            · rw [if_neg c6] at H
              exact absurd H (by simp)
          · rw [if_neg c5] at H
            exact absurd H (by simp)
        · rw [if_neg c4] at H
          have c4b0 : decide (x5_1 < (l0.length : Int)) = false := decide_eq_false c4
          clear c4
          obtain rfl := Option.some.inj H
          go_wp2
          repeat (go_quiet (fail); try go_wp2)
          go_ret
          exact ⟨by first | rfl | (simp; done) | (simp [*]; done), by repeat (first | exact Drawn0.refl _ | apply Drawn0.step)⟩
  · rw [if_neg c3] at H
    have c3b0 : ((l0.length : Int) == (l1.length : Int)) = false := beq_eq_false_iff_ne.mpr c3
    have c3b1 : ((l0.length : Int) != (l1.length : Int)) = true := bne_iff_ne.mpr c3
    have c3b2 : (l0.length == l1.length) = false := by first | simpa using c3 | (simp at c3 ⊢; omega)
    obtain rfl := Option.some.inj H
    go_enter Try.func11, Try.ntmps11
    go_wp2
    repeat (go_quiet (fail); try go_wp2)
    go_ret
    exact ⟨by first | rfl | (simp; done) | (simp [*]; done), by repeat (first | exact Drawn0.refl _ | apply Drawn0.step)⟩

/-! ### screeroom_lot: function 50 -/
def screeroom_lot.f (a0 : Int) : Option (Int) := if (Int.tmod a0 2) = 0 then (some (-7701)) else (some (-7702))
set_option maxHeartbeats 8000000 in
set_option maxRecDepth 100000 in
theorem screeroom_lot.calls (a0 : Int) (r : Int) (w : World) (h : screeroom_lot.f a0 = some r) :
    Calls Try.prog 50 #[.int .i64 a0] w fun e w' => e = .returned (.int .i64 r) ∧ Drawn0 w w' := by
  have H : (if (Int.tmod a0 2) = 0 then (some (-7701)) else (some (-7702))) = some r := h
  clear h
  by_cases c2 : (Int.tmod a0 2) = 0
  · rw [if_pos c2] at H
    have c2b0 : ((Int.tmod a0 2) == 0) = true := beq_iff_eq.mpr c2
    have c2b1 : ((Int.tmod a0 2) != 0) = false := bne_eq_false_iff_eq.mpr c2
    clear c2
    obtain rfl := Option.some.inj H
    go_enter Try.func50, Try.ntmps50
    go_wp2
    go_ret
    exact ⟨by first | rfl | (simp; done) | (simp [*]; done), by repeat (first | exact Drawn0.refl _ | apply Drawn0.step)⟩
  · rw [if_neg c2] at H
    have c2b0 : ((Int.tmod a0 2) == 0) = false := beq_eq_false_iff_ne.mpr c2
    have c2b1 : ((Int.tmod a0 2) != 0) = true := bne_iff_ne.mpr c2
    obtain rfl := Option.some.inj H
    go_enter Try.func50, Try.ntmps50
    go_wp2
    go_ret
    exact ⟨by first | rfl | (simp; done) | (simp [*]; done), by repeat (first | exact Drawn0.refl _ | apply Drawn0.step)⟩

-- NOT PRINTED: function 25 (screeroom_Room_holdBytes)

-- NOT PRINTED: function 26 (screeroom_Room_holdInts)

-- NOT PRINTED: function 27 (screeroom_Room_holdNums)

-- NOT PRINTED: function 28 (screeroom_Room_holdTexts)

-- NOT PRINTED: function 29 (screeroom_Room_holdEntries)

-- NOT PRINTED: function 30 (screeroom_Room_holdPairs)

-- NOT PRINTED: function 31 (screeroom_Room_holdWrites)

-- NOT PRINTED: function 32 (screeroom_Room_holdTables)

-- NOT PRINTED: function 33 (screeroom_Room_holdPlaces)

-- NOT PRINTED: function 34 (screeroom_Room_holdPlaceds)

-- NOT PRINTED: function 35 (screeroom_Room_holdChunks)

-- NOT PRINTED: function 36 (screeroom_Room_holdGroups)

-- NOT PRINTED: function 37 (screeroom_Room_holdFiles)

-- NOT PRINTED: function 38 (screeroom_Room_holdSteps)

-- NOT PRINTED: function 12 (screeroom_Room_Hold)

-- NOT PRINTED: function 4 (screelaw7_LogPuts)

end Go.Proofs.Ytnamanalacjhnaa.QPt
