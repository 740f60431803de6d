/- Lemmas of this claim's own, put together: KbD, KbE, KbF, KbG, KbM, KbN, KbO, KbP, KbQ, KbR. -/
import Derived.Test.YtlcohooognjmaaaGreatDoorZBf2
import Derived.Test.YtlcohooognjmaaaGreatDoorZBf1
import Derived.KernelRfl
namespace Go.Proofs.YtlcohooognjmaaaGreatDoor.Kb
open Go.RowKit Go.Proofs.YtlcohooognjmaaaGreatDoorW.PrintWords Go.Proofs.YtlcohooognjmaaaGreatDoor.Own Go.Proofs.YtlcohooognjmaaaGreatDoor.Wk
set_option linter.unusedVariables false
/-- The fields of the kinds that hold nothing. -/
def Emp (w : World) (g : Nat) : Prop := (∀ i, 13 ≤ i → i < 175 → w.cell? ⟨g, i, none⟩ = some (tailv i)) ∧ ∀ i, w.frozen? ⟨g, i, none⟩ = false
theorem Emp.at_ {w : World} {g : Nat} (h : Emp w g) (i : Nat) (v : Value) (h1 : 13 ≤ i) (h2 : i < 175) (hv : tailv i = v) : w.cell? ⟨g, i, none⟩ = some v := by rw [h.1 i h1 h2, hv]
theorem setCell_cell {w : World} {g i : Nat} {v : Value} (h : w.cell? ⟨g, i, none⟩ = some v) : w.setCell ⟨g, i, none⟩ v = w := by
  have hm : ∀ f : Obj → Obj, (∀ o, w.heap[g]? = some o → f o = o) → w.heap.modify g f = w.heap := fun f hf => by
    apply Array.ext
    · simp
    · intro i h1 h2
      rw [Array.getElem_modify]
      split
      · rename_i e
        subst e
        exact hf _ (Array.getElem?_eq_getElem h2)
      · rfl
  unfold World.setCell
  rw [hm _ (fun o ho => ?_)]
  unfold World.cell? at h
  have ho' : w.heap[(⟨g, i, none⟩ : Addr).block]? = some o := ho
  rw [ho'] at h
  cases o with
  | cells c t fr =>
    simp only [Option.isSome_none, Bool.false_eq_true, if_false] at h ⊢
    congr 1
    apply Array.ext
    · simp
    · intro j h1 h2
      rw [Array.getElem_setIfInBounds]
      split
      · rename_i e
        subst e
        rw [Array.getElem?_eq_getElem h2] at h
        exact (Option.some.inj h).symm
      · rfl
  | _ => simp at h
set_option maxHeartbeats 1000000 in
set_option maxRecDepth 100000 in
theorem markInts_calls {w : World} {g : Nat} (hE : Emp w g) : Calls Tryz.prog 58 #[.pointer (some ⟨g, 0, none⟩)] w fun e w' => e = .returned (.tuple #[]) ∧ w' = w := by
  have c1 := hE.at_ 15 (.slice none 0 0) (by decide) (by decide) rfl
  have c2 := hE.at_ 16 (.slice none 0 0) (by decide) (by decide) rfl
  have c3 := hE.at_ 18 (.slice none 0 0) (by decide) (by decide) rfl
  have c4 := hE.at_ 19 (.slice none 0 0) (by decide) (by decide) rfl
  clear hE
  go_enter Tryz.func58, Tryz.ntmps58
  go_wp2_with fail
  first | go_end0 | refine bodyPost_ret (results_none rfl _ _ _) rfl ?_
  exact ⟨rfl, rfl⟩
set_option maxHeartbeats 1000000 in
set_option maxRecDepth 100000 in
theorem growInts_calls {w : World} {g : Nat} (hE : Emp w g) : Calls Tryz.prog 77 #[.pointer (some ⟨g, 0, none⟩)] w fun e w' => e = .returned (.tuple #[]) ∧ w' = w := by
  have c1 := hE.at_ 17 (.slice none 0 0) (by decide) (by decide) rfl
  have c2 := hE.at_ 20 (.slice none 0 0) (by decide) (by decide) rfl
  have f1 := hE.2 17
  have f2 := hE.2 20
  have s1 := setCell_cell c1
  have s2 := setCell_cell c2
  clear hE
  go_enter Tryz.func77, Tryz.ntmps77
  go_wp2_with fail
  go_loopw [2] (fun s wr => s = .int .i64 0 ∧ wr = w) (fun _ _ => 0)
  case atStart => exact ⟨rfl, rfl⟩
  case round =>
    obtain ⟨rfl, rfl⟩ := hrel
    go_wp2_with fail
    first | go_end0 | refine bodyPost_ret (results_none rfl _ _ _) rfl ?_
    exact ⟨rfl, rfl⟩
set_option maxHeartbeats 1000000 in
set_option maxRecDepth 100000 in
theorem holdInts_calls {w : World} {g : Nat} (hE : Emp w g) : Calls Tryz.prog 17 #[.pointer (some ⟨g, 0, none⟩)] w fun e w' => e = .returned (.bool true) ∧ w' = w := by
  have c1 := hE.at_ 13 (.slice none 0 0) (by decide) (by decide) rfl
  have c2 := hE.at_ 15 (.slice none 0 0) (by decide) (by decide) rfl
  clear hE
  go_enter Tryz.func17, Tryz.ntmps17
  go_wp2_with fail
  go_loopw [3] (fun s wr => s = .int .i64 0 ∧ wr = w) (fun _ _ => 0)
  case atStart => exact ⟨rfl, rfl⟩
  case round =>
    obtain ⟨rfl, rfl⟩ := hrel
    go_wp2_with fail
    go_loopw [4] (fun s w2 => s = .int .i64 0 ∧ w2 = wr) (fun _ _ => 0)
    case atStart => exact ⟨rfl, rfl⟩
    case round =>
      obtain ⟨rfl, rfl⟩ := hrel
      go_wp2_with fail
      go_ret
      exact ⟨rfl, rfl⟩
set_option maxHeartbeats 1000000 in
set_option maxRecDepth 100000 in
theorem markNums_calls {w : World} {g : Nat} (hE : Emp w g) : Calls Tryz.prog 59 #[.pointer (some ⟨g, 0, none⟩)] w fun e w' => e = .returned (.tuple #[]) ∧ w' = w := by
  have c1 := hE.at_ 24 (.slice none 0 0) (by decide) (by decide) rfl
  have c2 := hE.at_ 25 (.slice none 0 0) (by decide) (by decide) rfl
  have c3 := hE.at_ 27 (.slice none 0 0) (by decide) (by decide) rfl
  have c4 := hE.at_ 28 (.slice none 0 0) (by decide) (by decide) rfl
  clear hE
  go_enter Tryz.func59, Tryz.ntmps59
  go_wp2_with fail
  first | go_end0 | refine bodyPost_ret (results_none rfl _ _ _) rfl ?_
  exact ⟨rfl, rfl⟩
set_option maxHeartbeats 1000000 in
set_option maxRecDepth 100000 in
theorem growNums_calls {w : World} {g : Nat} (hE : Emp w g) : Calls Tryz.prog 78 #[.pointer (some ⟨g, 0, none⟩)] w fun e w' => e = .returned (.tuple #[]) ∧ w' = w := by
  have c1 := hE.at_ 26 (.slice none 0 0) (by decide) (by decide) rfl
  have c2 := hE.at_ 29 (.slice none 0 0) (by decide) (by decide) rfl
  have f1 := hE.2 26
  have f2 := hE.2 29
  have s1 := setCell_cell c1
  have s2 := setCell_cell c2
  clear hE
  go_enter Tryz.func78, Tryz.ntmps78
  go_wp2_with fail
  go_loopw [2] (fun s wr => s = .int .i64 0 ∧ wr = w) (fun _ _ => 0)
  case atStart => exact ⟨rfl, rfl⟩
  case round =>
    obtain ⟨rfl, rfl⟩ := hrel
    go_wp2_with fail
    first | go_end0 | refine bodyPost_ret (results_none rfl _ _ _) rfl ?_
    exact ⟨rfl, rfl⟩
set_option maxHeartbeats 1000000 in
set_option maxRecDepth 100000 in
theorem holdNums_calls {w : World} {g : Nat} (hE : Emp w g) : Calls Tryz.prog 18 #[.pointer (some ⟨g, 0, none⟩)] w fun e w' => e = .returned (.bool true) ∧ w' = w := by
  have c1 := hE.at_ 22 (.slice none 0 0) (by decide) (by decide) rfl
  have c2 := hE.at_ 24 (.slice none 0 0) (by decide) (by decide) rfl
  clear hE
  go_enter Tryz.func18, Tryz.ntmps18
  go_wp2_with fail
  go_loopw [3] (fun s wr => s = .int .i64 0 ∧ wr = w) (fun _ _ => 0)
  case atStart => exact ⟨rfl, rfl⟩
  case round =>
    obtain ⟨rfl, rfl⟩ := hrel
    go_wp2_with fail
    go_loopw [4] (fun s w2 => s = .int .i64 0 ∧ w2 = wr) (fun _ _ => 0)
    case atStart => exact ⟨rfl, rfl⟩
    case round =>
      obtain ⟨rfl, rfl⟩ := hrel
      go_wp2_with fail
      go_ret
      exact ⟨rfl, rfl⟩
set_option maxHeartbeats 1000000 in
set_option maxRecDepth 100000 in
theorem markTexts_calls {w : World} {g : Nat} (hE : Emp w g) : Calls Tryz.prog 60 #[.pointer (some ⟨g, 0, none⟩)] w fun e w' => e = .returned (.tuple #[]) ∧ w' = w := by
  have c1 := hE.at_ 33 (.slice none 0 0) (by decide) (by decide) rfl
  have c2 := hE.at_ 34 (.slice none 0 0) (by decide) (by decide) rfl
  have c3 := hE.at_ 36 (.slice none 0 0) (by decide) (by decide) rfl
  have c4 := hE.at_ 37 (.slice none 0 0) (by decide) (by decide) rfl
  clear hE
  go_enter Tryz.func60, Tryz.ntmps60
  go_wp2_with fail
  first | go_end0 | refine bodyPost_ret (results_none rfl _ _ _) rfl ?_
  exact ⟨rfl, rfl⟩
set_option maxHeartbeats 1000000 in
set_option maxRecDepth 100000 in
theorem growTexts_calls {w : World} {g : Nat} (hE : Emp w g) : Calls Tryz.prog 79 #[.pointer (some ⟨g, 0, none⟩)] w fun e w' => e = .returned (.tuple #[]) ∧ w' = w := by
  have c1 := hE.at_ 35 (.slice none 0 0) (by decide) (by decide) rfl
  have c2 := hE.at_ 38 (.slice none 0 0) (by decide) (by decide) rfl
  have f1 := hE.2 35
  have f2 := hE.2 38
  have s1 := setCell_cell c1
  have s2 := setCell_cell c2
  clear hE
  go_enter Tryz.func79, Tryz.ntmps79
  go_wp2_with fail
  go_loopw [2] (fun s wr => s = .int .i64 0 ∧ wr = w) (fun _ _ => 0)
  case atStart => exact ⟨rfl, rfl⟩
  case round =>
    obtain ⟨rfl, rfl⟩ := hrel
    go_wp2_with fail
    first | go_end0 | refine bodyPost_ret (results_none rfl _ _ _) rfl ?_
    exact ⟨rfl, rfl⟩
set_option maxHeartbeats 1000000 in
set_option maxRecDepth 100000 in
theorem holdTexts_calls {w : World} {g : Nat} (hE : Emp w g) : Calls Tryz.prog 19 #[.pointer (some ⟨g, 0, none⟩)] w fun e w' => e = .returned (.bool true) ∧ w' = w := by
  have c1 := hE.at_ 31 (.slice none 0 0) (by decide) (by decide) rfl
  have c2 := hE.at_ 33 (.slice none 0 0) (by decide) (by decide) rfl
  clear hE
  go_enter Tryz.func19, Tryz.ntmps19
  go_wp2_with fail
  go_loopw [3] (fun s wr => s = .int .i64 0 ∧ wr = w) (fun _ _ => 0)
  case atStart => exact ⟨rfl, rfl⟩
  case round =>
    obtain ⟨rfl, rfl⟩ := hrel
    go_wp2_with fail
    go_loopw [4] (fun s w2 => s = .int .i64 0 ∧ w2 = wr) (fun _ _ => 0)
    case atStart => exact ⟨rfl, rfl⟩
    case round =>
      obtain ⟨rfl, rfl⟩ := hrel
      go_wp2_with fail
      go_ret
      exact ⟨rfl, rfl⟩
set_option maxHeartbeats 1000000 in
set_option maxRecDepth 100000 in
theorem markEntries_calls {w : World} {g : Nat} (hE : Emp w g) : Calls Tryz.prog 61 #[.pointer (some ⟨g, 0, none⟩)] w fun e w' => e = .returned (.tuple #[]) ∧ w' = w := by
  have c1 := hE.at_ 42 (.slice none 0 0) (by decide) (by decide) rfl
  have c2 := hE.at_ 43 (.slice none 0 0) (by decide) (by decide) rfl
  have c3 := hE.at_ 45 (.slice none 0 0) (by decide) (by decide) rfl
  have c4 := hE.at_ 46 (.slice none 0 0) (by decide) (by decide) rfl
  clear hE
  go_enter Tryz.func61, Tryz.ntmps61
  go_wp2_with fail
  first | go_end0 | refine bodyPost_ret (results_none rfl _ _ _) rfl ?_
  exact ⟨rfl, rfl⟩
set_option maxHeartbeats 1000000 in
set_option maxRecDepth 100000 in
theorem growEntries_calls {w : World} {g : Nat} (hE : Emp w g) : Calls Tryz.prog 80 #[.pointer (some ⟨g, 0, none⟩)] w fun e w' => e = .returned (.tuple #[]) ∧ w' = w := by
  have c1 := hE.at_ 44 (.slice none 0 0) (by decide) (by decide) rfl
  have c2 := hE.at_ 47 (.slice none 0 0) (by decide) (by decide) rfl
  have f1 := hE.2 44
  have f2 := hE.2 47
  have s1 := setCell_cell c1
  have s2 := setCell_cell c2
  clear hE
  go_enter Tryz.func80, Tryz.ntmps80
  go_wp2_with fail
  go_loopw [2] (fun s wr => s = .int .i64 0 ∧ wr = w) (fun _ _ => 0)
  case atStart => exact ⟨rfl, rfl⟩
  case round =>
    obtain ⟨rfl, rfl⟩ := hrel
    go_wp2_with fail
    first | go_end0 | refine bodyPost_ret (results_none rfl _ _ _) rfl ?_
    exact ⟨rfl, rfl⟩
set_option maxHeartbeats 1000000 in
set_option maxRecDepth 100000 in
theorem holdEntries_calls {w : World} {g : Nat} (hE : Emp w g) : Calls Tryz.prog 20 #[.pointer (some ⟨g, 0, none⟩)] w fun e w' => e = .returned (.bool true) ∧ w' = w := by
  have c1 := hE.at_ 40 (.slice none 0 0) (by decide) (by decide) rfl
  have c2 := hE.at_ 42 (.slice none 0 0) (by decide) (by decide) rfl
  clear hE
  go_enter Tryz.func20, Tryz.ntmps20
  go_wp2_with fail
  go_loopw [3] (fun s wr => s = .int .i64 0 ∧ wr = w) (fun _ _ => 0)
  case atStart => exact ⟨rfl, rfl⟩
  case round =>
    obtain ⟨rfl, rfl⟩ := hrel
    go_wp2_with fail
    go_loopw [4] (fun s w2 => s = .int .i64 0 ∧ w2 = wr) (fun _ _ => 0)
    case atStart => exact ⟨rfl, rfl⟩
    case round =>
      obtain ⟨rfl, rfl⟩ := hrel
      go_wp2_with fail
      go_ret
      exact ⟨rfl, rfl⟩
set_option maxHeartbeats 1000000 in
set_option maxRecDepth 100000 in
theorem markPairs_calls {w : World} {g : Nat} (hE : Emp w g) : Calls Tryz.prog 62 #[.pointer (some ⟨g, 0, none⟩)] w fun e w' => e = .returned (.tuple #[]) ∧ w' = w := by
  have c1 := hE.at_ 51 (.slice none 0 0) (by decide) (by decide) rfl
  have c2 := hE.at_ 52 (.slice none 0 0) (by decide) (by decide) rfl
  have c3 := hE.at_ 54 (.slice none 0 0) (by decide) (by decide) rfl
  have c4 := hE.at_ 55 (.slice none 0 0) (by decide) (by decide) rfl
  clear hE
  go_enter Tryz.func62, Tryz.ntmps62
  go_wp2_with fail
  first | go_end0 | refine bodyPost_ret (results_none rfl _ _ _) rfl ?_
  exact ⟨rfl, rfl⟩
set_option maxHeartbeats 1000000 in
set_option maxRecDepth 100000 in
theorem growPairs_calls {w : World} {g : Nat} (hE : Emp w g) : Calls Tryz.prog 81 #[.pointer (some ⟨g, 0, none⟩)] w fun e w' => e = .returned (.tuple #[]) ∧ w' = w := by
  have c1 := hE.at_ 53 (.slice none 0 0) (by decide) (by decide) rfl
  have c2 := hE.at_ 56 (.slice none 0 0) (by decide) (by decide) rfl
  have f1 := hE.2 53
  have f2 := hE.2 56
  have s1 := setCell_cell c1
  have s2 := setCell_cell c2
  clear hE
  go_enter Tryz.func81, Tryz.ntmps81
  go_wp2_with fail
  go_loopw [2] (fun s wr => s = .int .i64 0 ∧ wr = w) (fun _ _ => 0)
  case atStart => exact ⟨rfl, rfl⟩
  case round =>
    obtain ⟨rfl, rfl⟩ := hrel
    go_wp2_with fail
    first | go_end0 | refine bodyPost_ret (results_none rfl _ _ _) rfl ?_
    exact ⟨rfl, rfl⟩
set_option maxHeartbeats 1000000 in
set_option maxRecDepth 100000 in
theorem holdPairs_calls {w : World} {g : Nat} (hE : Emp w g) : Calls Tryz.prog 21 #[.pointer (some ⟨g, 0, none⟩)] w fun e w' => e = .returned (.bool true) ∧ w' = w := by
  have c1 := hE.at_ 49 (.slice none 0 0) (by decide) (by decide) rfl
  have c2 := hE.at_ 51 (.slice none 0 0) (by decide) (by decide) rfl
  clear hE
  go_enter Tryz.func21, Tryz.ntmps21
  go_wp2_with fail
  go_loopw [3] (fun s wr => s = .int .i64 0 ∧ wr = w) (fun _ _ => 0)
  case atStart => exact ⟨rfl, rfl⟩
  case round =>
    obtain ⟨rfl, rfl⟩ := hrel
    go_wp2_with fail
    go_loopw [4] (fun s w2 => s = .int .i64 0 ∧ w2 = wr) (fun _ _ => 0)
    case atStart => exact ⟨rfl, rfl⟩
    case round =>
      obtain ⟨rfl, rfl⟩ := hrel
      go_wp2_with fail
      go_ret
      exact ⟨rfl, rfl⟩
set_option maxHeartbeats 1000000 in
set_option maxRecDepth 100000 in
theorem markWrites_calls {w : World} {g : Nat} (hE : Emp w g) : Calls Tryz.prog 63 #[.pointer (some ⟨g, 0, none⟩)] w fun e w' => e = .returned (.tuple #[]) ∧ w' = w := by
  have c1 := hE.at_ 60 (.slice none 0 0) (by decide) (by decide) rfl
  have c2 := hE.at_ 61 (.slice none 0 0) (by decide) (by decide) rfl
  have c3 := hE.at_ 63 (.slice none 0 0) (by decide) (by decide) rfl
  have c4 := hE.at_ 64 (.slice none 0 0) (by decide) (by decide) rfl
  clear hE
  go_enter Tryz.func63, Tryz.ntmps63
  go_wp2_with fail
  first | go_end0 | refine bodyPost_ret (results_none rfl _ _ _) rfl ?_
  exact ⟨rfl, rfl⟩
set_option maxHeartbeats 1000000 in
set_option maxRecDepth 100000 in
theorem growWrites_calls {w : World} {g : Nat} (hE : Emp w g) : Calls Tryz.prog 82 #[.pointer (some ⟨g, 0, none⟩)] w fun e w' => e = .returned (.tuple #[]) ∧ w' = w := by
  have c1 := hE.at_ 62 (.slice none 0 0) (by decide) (by decide) rfl
  have c2 := hE.at_ 65 (.slice none 0 0) (by decide) (by decide) rfl
  have f1 := hE.2 62
  have f2 := hE.2 65
  have s1 := setCell_cell c1
  have s2 := setCell_cell c2
  clear hE
  go_enter Tryz.func82, Tryz.ntmps82
  go_wp2_with fail
  go_loopw [2] (fun s wr => s = .int .i64 0 ∧ wr = w) (fun _ _ => 0)
  case atStart => exact ⟨rfl, rfl⟩
  case round =>
    obtain ⟨rfl, rfl⟩ := hrel
    go_wp2_with fail
    first | go_end0 | refine bodyPost_ret (results_none rfl _ _ _) rfl ?_
    exact ⟨rfl, rfl⟩
set_option maxHeartbeats 1000000 in
set_option maxRecDepth 100000 in
theorem holdWrites_calls {w : World} {g : Nat} (hE : Emp w g) : Calls Tryz.prog 22 #[.pointer (some ⟨g, 0, none⟩)] w fun e w' => e = .returned (.bool true) ∧ w' = w := by
  have c1 := hE.at_ 58 (.slice none 0 0) (by decide) (by decide) rfl
  have c2 := hE.at_ 60 (.slice none 0 0) (by decide) (by decide) rfl
  clear hE
  go_enter Tryz.func22, Tryz.ntmps22
  go_wp2_with fail
  go_loopw [3] (fun s wr => s = .int .i64 0 ∧ wr = w) (fun _ _ => 0)
  case atStart => exact ⟨rfl, rfl⟩
  case round =>
    obtain ⟨rfl, rfl⟩ := hrel
    go_wp2_with fail
    go_loopw [4] (fun s w2 => s = .int .i64 0 ∧ w2 = wr) (fun _ _ => 0)
    case atStart => exact ⟨rfl, rfl⟩
    case round =>
      obtain ⟨rfl, rfl⟩ := hrel
      go_wp2_with fail
      go_ret
      exact ⟨rfl, rfl⟩
set_option maxHeartbeats 1000000 in
set_option maxRecDepth 100000 in
theorem markTables_calls {w : World} {g : Nat} (hE : Emp w g) : Calls Tryz.prog 64 #[.pointer (some ⟨g, 0, none⟩)] w fun e w' => e = .returned (.tuple #[]) ∧ w' = w := by
  have c1 := hE.at_ 69 (.slice none 0 0) (by decide) (by decide) rfl
  have c2 := hE.at_ 70 (.slice none 0 0) (by decide) (by decide) rfl
  have c3 := hE.at_ 72 (.slice none 0 0) (by decide) (by decide) rfl
  have c4 := hE.at_ 73 (.slice none 0 0) (by decide) (by decide) rfl
  clear hE
  go_enter Tryz.func64, Tryz.ntmps64
  go_wp2_with fail
  first | go_end0 | refine bodyPost_ret (results_none rfl _ _ _) rfl ?_
  exact ⟨rfl, rfl⟩
set_option maxHeartbeats 1000000 in
set_option maxRecDepth 100000 in
theorem growTables_calls {w : World} {g : Nat} (hE : Emp w g) : Calls Tryz.prog 83 #[.pointer (some ⟨g, 0, none⟩)] w fun e w' => e = .returned (.tuple #[]) ∧ w' = w := by
  have c1 := hE.at_ 71 (.slice none 0 0) (by decide) (by decide) rfl
  have c2 := hE.at_ 74 (.slice none 0 0) (by decide) (by decide) rfl
  have f1 := hE.2 71
  have f2 := hE.2 74
  have s1 := setCell_cell c1
  have s2 := setCell_cell c2
  clear hE
  go_enter Tryz.func83, Tryz.ntmps83
  go_wp2_with fail
  go_loopw [2] (fun s wr => s = .int .i64 0 ∧ wr = w) (fun _ _ => 0)
  case atStart => exact ⟨rfl, rfl⟩
  case round =>
    obtain ⟨rfl, rfl⟩ := hrel
    go_wp2_with fail
    first | go_end0 | refine bodyPost_ret (results_none rfl _ _ _) rfl ?_
    exact ⟨rfl, rfl⟩
set_option maxHeartbeats 1000000 in
set_option maxRecDepth 100000 in
theorem holdTables_calls {w : World} {g : Nat} (hE : Emp w g) : Calls Tryz.prog 23 #[.pointer (some ⟨g, 0, none⟩)] w fun e w' => e = .returned (.bool true) ∧ w' = w := by
  have c1 := hE.at_ 67 (.slice none 0 0) (by decide) (by decide) rfl
  have c2 := hE.at_ 69 (.slice none 0 0) (by decide) (by decide) rfl
  clear hE
  go_enter Tryz.func23, Tryz.ntmps23
  go_wp2_with fail
  go_loopw [3] (fun s wr => s = .int .i64 0 ∧ wr = w) (fun _ _ => 0)
  case atStart => exact ⟨rfl, rfl⟩
  case round =>
    obtain ⟨rfl, rfl⟩ := hrel
    go_wp2_with fail
    go_loopw [4] (fun s w2 => s = .int .i64 0 ∧ w2 = wr) (fun _ _ => 0)
    case atStart => exact ⟨rfl, rfl⟩
    case round =>
      obtain ⟨rfl, rfl⟩ := hrel
      go_wp2_with fail
      go_ret
      exact ⟨rfl, rfl⟩
set_option maxHeartbeats 1000000 in
set_option maxRecDepth 100000 in
theorem markPlaces_calls {w : World} {g : Nat} (hE : Emp w g) : Calls Tryz.prog 65 #[.pointer (some ⟨g, 0, none⟩)] w fun e w' => e = .returned (.tuple #[]) ∧ w' = w := by
  have c1 := hE.at_ 78 (.slice none 0 0) (by decide) (by decide) rfl
  have c2 := hE.at_ 79 (.slice none 0 0) (by decide) (by decide) rfl
  have c3 := hE.at_ 81 (.slice none 0 0) (by decide) (by decide) rfl
  have c4 := hE.at_ 82 (.slice none 0 0) (by decide) (by decide) rfl
  clear hE
  go_enter Tryz.func65, Tryz.ntmps65
  go_wp2_with fail
  first | go_end0 | refine bodyPost_ret (results_none rfl _ _ _) rfl ?_
  exact ⟨rfl, rfl⟩
set_option maxHeartbeats 1000000 in
set_option maxRecDepth 100000 in
theorem growPlaces_calls {w : World} {g : Nat} (hE : Emp w g) : Calls Tryz.prog 84 #[.pointer (some ⟨g, 0, none⟩)] w fun e w' => e = .returned (.tuple #[]) ∧ w' = w := by
  have c1 := hE.at_ 80 (.slice none 0 0) (by decide) (by decide) rfl
  have c2 := hE.at_ 83 (.slice none 0 0) (by decide) (by decide) rfl
  have f1 := hE.2 80
  have f2 := hE.2 83
  have s1 := setCell_cell c1
  have s2 := setCell_cell c2
  clear hE
  go_enter Tryz.func84, Tryz.ntmps84
  go_wp2_with fail
  go_loopw [2] (fun s wr => s = .int .i64 0 ∧ wr = w) (fun _ _ => 0)
  case atStart => exact ⟨rfl, rfl⟩
  case round =>
    obtain ⟨rfl, rfl⟩ := hrel
    go_wp2_with fail
    first | go_end0 | refine bodyPost_ret (results_none rfl _ _ _) rfl ?_
    exact ⟨rfl, rfl⟩
set_option maxHeartbeats 1000000 in
set_option maxRecDepth 100000 in
theorem holdPlaces_calls {w : World} {g : Nat} (hE : Emp w g) : Calls Tryz.prog 24 #[.pointer (some ⟨g, 0, none⟩)] w fun e w' => e = .returned (.bool true) ∧ w' = w := by
  have c1 := hE.at_ 76 (.slice none 0 0) (by decide) (by decide) rfl
  have c2 := hE.at_ 78 (.slice none 0 0) (by decide) (by decide) rfl
  clear hE
  go_enter Tryz.func24, Tryz.ntmps24
  go_wp2_with fail
  go_loopw [3] (fun s wr => s = .int .i64 0 ∧ wr = w) (fun _ _ => 0)
  case atStart => exact ⟨rfl, rfl⟩
  case round =>
    obtain ⟨rfl, rfl⟩ := hrel
    go_wp2_with fail
    go_loopw [4] (fun s w2 => s = .int .i64 0 ∧ w2 = wr) (fun _ _ => 0)
    case atStart => exact ⟨rfl, rfl⟩
    case round =>
      obtain ⟨rfl, rfl⟩ := hrel
      go_wp2_with fail
      go_ret
      exact ⟨rfl, rfl⟩
set_option maxHeartbeats 1000000 in
set_option maxRecDepth 100000 in
theorem markPlaceds_calls {w : World} {g : Nat} (hE : Emp w g) : Calls Tryz.prog 66 #[.pointer (some ⟨g, 0, none⟩)] w fun e w' => e = .returned (.tuple #[]) ∧ w' = w := by
  have c1 := hE.at_ 87 (.slice none 0 0) (by decide) (by decide) rfl
  have c2 := hE.at_ 88 (.slice none 0 0) (by decide) (by decide) rfl
  have c3 := hE.at_ 90 (.slice none 0 0) (by decide) (by decide) rfl
  have c4 := hE.at_ 91 (.slice none 0 0) (by decide) (by decide) rfl
  clear hE
  go_enter Tryz.func66, Tryz.ntmps66
  go_wp2_with fail
  first | go_end0 | refine bodyPost_ret (results_none rfl _ _ _) rfl ?_
  exact ⟨rfl, rfl⟩
set_option maxHeartbeats 1000000 in
set_option maxRecDepth 100000 in
theorem growPlaceds_calls {w : World} {g : Nat} (hE : Emp w g) : Calls Tryz.prog 85 #[.pointer (some ⟨g, 0, none⟩)] w fun e w' => e = .returned (.tuple #[]) ∧ w' = w := by
  have c1 := hE.at_ 89 (.slice none 0 0) (by decide) (by decide) rfl
  have c2 := hE.at_ 92 (.slice none 0 0) (by decide) (by decide) rfl
  have f1 := hE.2 89
  have f2 := hE.2 92
  have s1 := setCell_cell c1
  have s2 := setCell_cell c2
  clear hE
  go_enter Tryz.func85, Tryz.ntmps85
  go_wp2_with fail
  go_loopw [2] (fun s wr => s = .int .i64 0 ∧ wr = w) (fun _ _ => 0)
  case atStart => exact ⟨rfl, rfl⟩
  case round =>
    obtain ⟨rfl, rfl⟩ := hrel
    go_wp2_with fail
    first | go_end0 | refine bodyPost_ret (results_none rfl _ _ _) rfl ?_
    exact ⟨rfl, rfl⟩
set_option maxHeartbeats 1000000 in
set_option maxRecDepth 100000 in
theorem holdPlaceds_calls {w : World} {g : Nat} (hE : Emp w g) : Calls Tryz.prog 25 #[.pointer (some ⟨g, 0, none⟩)] w fun e w' => e = .returned (.bool true) ∧ w' = w := by
  have c1 := hE.at_ 85 (.slice none 0 0) (by decide) (by decide) rfl
  have c2 := hE.at_ 87 (.slice none 0 0) (by decide) (by decide) rfl
  clear hE
  go_enter Tryz.func25, Tryz.ntmps25
  go_wp2_with fail
  go_loopw [3] (fun s wr => s = .int .i64 0 ∧ wr = w) (fun _ _ => 0)
  case atStart => exact ⟨rfl, rfl⟩
  case round =>
    obtain ⟨rfl, rfl⟩ := hrel
    go_wp2_with fail
    go_loopw [4] (fun s w2 => s = .int .i64 0 ∧ w2 = wr) (fun _ _ => 0)
    case atStart => exact ⟨rfl, rfl⟩
    case round =>
      obtain ⟨rfl, rfl⟩ := hrel
      go_wp2_with fail
      go_ret
      exact ⟨rfl, rfl⟩
set_option maxHeartbeats 1000000 in
set_option maxRecDepth 100000 in
theorem markFaults_calls {w : World} {g : Nat} (hE : Emp w g) : Calls Tryz.prog 67 #[.pointer (some ⟨g, 0, none⟩)] w fun e w' => e = .returned (.tuple #[]) ∧ w' = w := by
  have c1 := hE.at_ 96 (.slice none 0 0) (by decide) (by decide) rfl
  have c2 := hE.at_ 97 (.slice none 0 0) (by decide) (by decide) rfl
  have c3 := hE.at_ 99 (.slice none 0 0) (by decide) (by decide) rfl
  have c4 := hE.at_ 100 (.slice none 0 0) (by decide) (by decide) rfl
  clear hE
  go_enter Tryz.func67, Tryz.ntmps67
  go_wp2_with fail
  first | go_end0 | refine bodyPost_ret (results_none rfl _ _ _) rfl ?_
  exact ⟨rfl, rfl⟩
set_option maxHeartbeats 1000000 in
set_option maxRecDepth 100000 in
theorem growFaults_calls {w : World} {g : Nat} (hE : Emp w g) : Calls Tryz.prog 86 #[.pointer (some ⟨g, 0, none⟩)] w fun e w' => e = .returned (.tuple #[]) ∧ w' = w := by
  have c1 := hE.at_ 98 (.slice none 0 0) (by decide) (by decide) rfl
  have c2 := hE.at_ 101 (.slice none 0 0) (by decide) (by decide) rfl
  have f1 := hE.2 98
  have f2 := hE.2 101
  have s1 := setCell_cell c1
  have s2 := setCell_cell c2
  clear hE
  go_enter Tryz.func86, Tryz.ntmps86
  go_wp2_with fail
  go_loopw [2] (fun s wr => s = .int .i64 0 ∧ wr = w) (fun _ _ => 0)
  case atStart => exact ⟨rfl, rfl⟩
  case round =>
    obtain ⟨rfl, rfl⟩ := hrel
    go_wp2_with fail
    first | go_end0 | refine bodyPost_ret (results_none rfl _ _ _) rfl ?_
    exact ⟨rfl, rfl⟩
set_option maxHeartbeats 1000000 in
set_option maxRecDepth 100000 in
theorem holdFaults_calls {w : World} {g : Nat} (hE : Emp w g) : Calls Tryz.prog 26 #[.pointer (some ⟨g, 0, none⟩)] w fun e w' => e = .returned (.bool true) ∧ w' = w := by
  have c1 := hE.at_ 94 (.slice none 0 0) (by decide) (by decide) rfl
  have c2 := hE.at_ 96 (.slice none 0 0) (by decide) (by decide) rfl
  clear hE
  go_enter Tryz.func26, Tryz.ntmps26
  go_wp2_with fail
  go_loopw [3] (fun s wr => s = .int .i64 0 ∧ wr = w) (fun _ _ => 0)
  case atStart => exact ⟨rfl, rfl⟩
  case round =>
    obtain ⟨rfl, rfl⟩ := hrel
    go_wp2_with fail
    go_loopw [4] (fun s w2 => s = .int .i64 0 ∧ w2 = wr) (fun _ _ => 0)
    case atStart => exact ⟨rfl, rfl⟩
    case round =>
      obtain ⟨rfl, rfl⟩ := hrel
      go_wp2_with fail
      go_ret
      exact ⟨rfl, rfl⟩
set_option maxHeartbeats 1000000 in
set_option maxRecDepth 100000 in
theorem markChunks_calls {w : World} {g : Nat} (hE : Emp w g) : Calls Tryz.prog 68 #[.pointer (some ⟨g, 0, none⟩)] w fun e w' => e = .returned (.tuple #[]) ∧ w' = w := by
  have c1 := hE.at_ 105 (.slice none 0 0) (by decide) (by decide) rfl
  have c2 := hE.at_ 106 (.slice none 0 0) (by decide) (by decide) rfl
  have c3 := hE.at_ 108 (.slice none 0 0) (by decide) (by decide) rfl
  have c4 := hE.at_ 109 (.slice none 0 0) (by decide) (by decide) rfl
  clear hE
  go_enter Tryz.func68, Tryz.ntmps68
  go_wp2_with fail
  first | go_end0 | refine bodyPost_ret (results_none rfl _ _ _) rfl ?_
  exact ⟨rfl, rfl⟩
set_option maxHeartbeats 1000000 in
set_option maxRecDepth 100000 in
theorem growChunks_calls {w : World} {g : Nat} (hE : Emp w g) : Calls Tryz.prog 87 #[.pointer (some ⟨g, 0, none⟩)] w fun e w' => e = .returned (.tuple #[]) ∧ w' = w := by
  have c1 := hE.at_ 107 (.slice none 0 0) (by decide) (by decide) rfl
  have c2 := hE.at_ 110 (.slice none 0 0) (by decide) (by decide) rfl
  have f1 := hE.2 107
  have f2 := hE.2 110
  have s1 := setCell_cell c1
  have s2 := setCell_cell c2
  clear hE
  go_enter Tryz.func87, Tryz.ntmps87
  go_wp2_with fail
  go_loopw [2] (fun s wr => s = .int .i64 0 ∧ wr = w) (fun _ _ => 0)
  case atStart => exact ⟨rfl, rfl⟩
  case round =>
    obtain ⟨rfl, rfl⟩ := hrel
    go_wp2_with fail
    first | go_end0 | refine bodyPost_ret (results_none rfl _ _ _) rfl ?_
    exact ⟨rfl, rfl⟩
set_option maxHeartbeats 1000000 in
set_option maxRecDepth 100000 in
theorem holdChunks_calls {w : World} {g : Nat} (hE : Emp w g) : Calls Tryz.prog 27 #[.pointer (some ⟨g, 0, none⟩)] w fun e w' => e = .returned (.bool true) ∧ w' = w := by
  have c1 := hE.at_ 103 (.slice none 0 0) (by decide) (by decide) rfl
  have c2 := hE.at_ 105 (.slice none 0 0) (by decide) (by decide) rfl
  clear hE
  go_enter Tryz.func27, Tryz.ntmps27
  go_wp2_with fail
  go_loopw [3] (fun s wr => s = .int .i64 0 ∧ wr = w) (fun _ _ => 0)
  case atStart => exact ⟨rfl, rfl⟩
  case round =>
    obtain ⟨rfl, rfl⟩ := hrel
    go_wp2_with fail
    go_loopw [4] (fun s w2 => s = .int .i64 0 ∧ w2 = wr) (fun _ _ => 0)
    case atStart => exact ⟨rfl, rfl⟩
    case round =>
      obtain ⟨rfl, rfl⟩ := hrel
      go_wp2_with fail
      go_ret
      exact ⟨rfl, rfl⟩
set_option maxHeartbeats 1000000 in
set_option maxRecDepth 100000 in
theorem markGroups_calls {w : World} {g : Nat} (hE : Emp w g) : Calls Tryz.prog 69 #[.pointer (some ⟨g, 0, none⟩)] w fun e w' => e = .returned (.tuple #[]) ∧ w' = w := by
  have c1 := hE.at_ 114 (.slice none 0 0) (by decide) (by decide) rfl
  have c2 := hE.at_ 115 (.slice none 0 0) (by decide) (by decide) rfl
  have c3 := hE.at_ 117 (.slice none 0 0) (by decide) (by decide) rfl
  have c4 := hE.at_ 118 (.slice none 0 0) (by decide) (by decide) rfl
  clear hE
  go_enter Tryz.func69, Tryz.ntmps69
  go_wp2_with fail
  first | go_end0 | refine bodyPost_ret (results_none rfl _ _ _) rfl ?_
  exact ⟨rfl, rfl⟩
set_option maxHeartbeats 1000000 in
set_option maxRecDepth 100000 in
theorem growGroups_calls {w : World} {g : Nat} (hE : Emp w g) : Calls Tryz.prog 88 #[.pointer (some ⟨g, 0, none⟩)] w fun e w' => e = .returned (.tuple #[]) ∧ w' = w := by
  have c1 := hE.at_ 116 (.slice none 0 0) (by decide) (by decide) rfl
  have c2 := hE.at_ 119 (.slice none 0 0) (by decide) (by decide) rfl
  have f1 := hE.2 116
  have f2 := hE.2 119
  have s1 := setCell_cell c1
  have s2 := setCell_cell c2
  clear hE
  go_enter Tryz.func88, Tryz.ntmps88
  go_wp2_with fail
  go_loopw [2] (fun s wr => s = .int .i64 0 ∧ wr = w) (fun _ _ => 0)
  case atStart => exact ⟨rfl, rfl⟩
  case round =>
    obtain ⟨rfl, rfl⟩ := hrel
    go_wp2_with fail
    first | go_end0 | refine bodyPost_ret (results_none rfl _ _ _) rfl ?_
    exact ⟨rfl, rfl⟩
set_option maxHeartbeats 1000000 in
set_option maxRecDepth 100000 in
theorem holdGroups_calls {w : World} {g : Nat} (hE : Emp w g) : Calls Tryz.prog 28 #[.pointer (some ⟨g, 0, none⟩)] w fun e w' => e = .returned (.bool true) ∧ w' = w := by
  have c1 := hE.at_ 112 (.slice none 0 0) (by decide) (by decide) rfl
  have c2 := hE.at_ 114 (.slice none 0 0) (by decide) (by decide) rfl
  clear hE
  go_enter Tryz.func28, Tryz.ntmps28
  go_wp2_with fail
  go_loopw [3] (fun s wr => s = .int .i64 0 ∧ wr = w) (fun _ _ => 0)
  case atStart => exact ⟨rfl, rfl⟩
  case round =>
    obtain ⟨rfl, rfl⟩ := hrel
    go_wp2_with fail
    go_loopw [4] (fun s w2 => s = .int .i64 0 ∧ w2 = wr) (fun _ _ => 0)
    case atStart => exact ⟨rfl, rfl⟩
    case round =>
      obtain ⟨rfl, rfl⟩ := hrel
      go_wp2_with fail
      go_ret
      exact ⟨rfl, rfl⟩
set_option maxHeartbeats 1000000 in
set_option maxRecDepth 100000 in
theorem markRuns_calls {w : World} {g : Nat} (hE : Emp w g) : Calls Tryz.prog 70 #[.pointer (some ⟨g, 0, none⟩)] w fun e w' => e = .returned (.tuple #[]) ∧ w' = w := by
  have c1 := hE.at_ 123 (.slice none 0 0) (by decide) (by decide) rfl
  have c2 := hE.at_ 124 (.slice none 0 0) (by decide) (by decide) rfl
  have c3 := hE.at_ 126 (.slice none 0 0) (by decide) (by decide) rfl
  have c4 := hE.at_ 127 (.slice none 0 0) (by decide) (by decide) rfl
  clear hE
  go_enter Tryz.func70, Tryz.ntmps70
  go_wp2_with fail
  first | go_end0 | refine bodyPost_ret (results_none rfl _ _ _) rfl ?_
  exact ⟨rfl, rfl⟩
set_option maxHeartbeats 1000000 in
set_option maxRecDepth 100000 in
theorem growRuns_calls {w : World} {g : Nat} (hE : Emp w g) : Calls Tryz.prog 89 #[.pointer (some ⟨g, 0, none⟩)] w fun e w' => e = .returned (.tuple #[]) ∧ w' = w := by
  have c1 := hE.at_ 125 (.slice none 0 0) (by decide) (by decide) rfl
  have c2 := hE.at_ 128 (.slice none 0 0) (by decide) (by decide) rfl
  have f1 := hE.2 125
  have f2 := hE.2 128
  have s1 := setCell_cell c1
  have s2 := setCell_cell c2
  clear hE
  go_enter Tryz.func89, Tryz.ntmps89
  go_wp2_with fail
  go_loopw [2] (fun s wr => s = .int .i64 0 ∧ wr = w) (fun _ _ => 0)
  case atStart => exact ⟨rfl, rfl⟩
  case round =>
    obtain ⟨rfl, rfl⟩ := hrel
    go_wp2_with fail
    first | go_end0 | refine bodyPost_ret (results_none rfl _ _ _) rfl ?_
    exact ⟨rfl, rfl⟩
set_option maxHeartbeats 1000000 in
set_option maxRecDepth 100000 in
theorem holdRuns_calls {w : World} {g : Nat} (hE : Emp w g) : Calls Tryz.prog 29 #[.pointer (some ⟨g, 0, none⟩)] w fun e w' => e = .returned (.bool true) ∧ w' = w := by
  have c1 := hE.at_ 121 (.slice none 0 0) (by decide) (by decide) rfl
  have c2 := hE.at_ 123 (.slice none 0 0) (by decide) (by decide) rfl
  clear hE
  go_enter Tryz.func29, Tryz.ntmps29
  go_wp2_with fail
  go_loopw [3] (fun s wr => s = .int .i64 0 ∧ wr = w) (fun _ _ => 0)
  case atStart => exact ⟨rfl, rfl⟩
  case round =>
    obtain ⟨rfl, rfl⟩ := hrel
    go_wp2_with fail
    go_loopw [4] (fun s w2 => s = .int .i64 0 ∧ w2 = wr) (fun _ _ => 0)
    case atStart => exact ⟨rfl, rfl⟩
    case round =>
      obtain ⟨rfl, rfl⟩ := hrel
      go_wp2_with fail
      go_ret
      exact ⟨rfl, rfl⟩
set_option maxHeartbeats 1000000 in
set_option maxRecDepth 100000 in
theorem markLevels_calls {w : World} {g : Nat} (hE : Emp w g) : Calls Tryz.prog 71 #[.pointer (some ⟨g, 0, none⟩)] w fun e w' => e = .returned (.tuple #[]) ∧ w' = w := by
  have c1 := hE.at_ 132 (.slice none 0 0) (by decide) (by decide) rfl
  have c2 := hE.at_ 133 (.slice none 0 0) (by decide) (by decide) rfl
  have c3 := hE.at_ 135 (.slice none 0 0) (by decide) (by decide) rfl
  have c4 := hE.at_ 136 (.slice none 0 0) (by decide) (by decide) rfl
  clear hE
  go_enter Tryz.func71, Tryz.ntmps71
  go_wp2_with fail
  first | go_end0 | refine bodyPost_ret (results_none rfl _ _ _) rfl ?_
  exact ⟨rfl, rfl⟩
set_option maxHeartbeats 1000000 in
set_option maxRecDepth 100000 in
theorem growLevels_calls {w : World} {g : Nat} (hE : Emp w g) : Calls Tryz.prog 90 #[.pointer (some ⟨g, 0, none⟩)] w fun e w' => e = .returned (.tuple #[]) ∧ w' = w := by
  have c1 := hE.at_ 134 (.slice none 0 0) (by decide) (by decide) rfl
  have c2 := hE.at_ 137 (.slice none 0 0) (by decide) (by decide) rfl
  have f1 := hE.2 134
  have f2 := hE.2 137
  have s1 := setCell_cell c1
  have s2 := setCell_cell c2
  clear hE
  go_enter Tryz.func90, Tryz.ntmps90
  go_wp2_with fail
  go_loopw [2] (fun s wr => s = .int .i64 0 ∧ wr = w) (fun _ _ => 0)
  case atStart => exact ⟨rfl, rfl⟩
  case round =>
    obtain ⟨rfl, rfl⟩ := hrel
    go_wp2_with fail
    first | go_end0 | refine bodyPost_ret (results_none rfl _ _ _) rfl ?_
    exact ⟨rfl, rfl⟩
set_option maxHeartbeats 1000000 in
set_option maxRecDepth 100000 in
theorem holdLevels_calls {w : World} {g : Nat} (hE : Emp w g) : Calls Tryz.prog 30 #[.pointer (some ⟨g, 0, none⟩)] w fun e w' => e = .returned (.bool true) ∧ w' = w := by
  have c1 := hE.at_ 130 (.slice none 0 0) (by decide) (by decide) rfl
  have c2 := hE.at_ 132 (.slice none 0 0) (by decide) (by decide) rfl
  clear hE
  go_enter Tryz.func30, Tryz.ntmps30
  go_wp2_with fail
  go_loopw [3] (fun s wr => s = .int .i64 0 ∧ wr = w) (fun _ _ => 0)
  case atStart => exact ⟨rfl, rfl⟩
  case round =>
    obtain ⟨rfl, rfl⟩ := hrel
    go_wp2_with fail
    go_loopw [4] (fun s w2 => s = .int .i64 0 ∧ w2 = wr) (fun _ _ => 0)
    case atStart => exact ⟨rfl, rfl⟩
    case round =>
      obtain ⟨rfl, rfl⟩ := hrel
      go_wp2_with fail
      go_ret
      exact ⟨rfl, rfl⟩
set_option maxHeartbeats 1000000 in
set_option maxRecDepth 100000 in
theorem markFiles_calls {w : World} {g : Nat} (hE : Emp w g) : Calls Tryz.prog 72 #[.pointer (some ⟨g, 0, none⟩)] w fun e w' => e = .returned (.tuple #[]) ∧ w' = w := by
  have c1 := hE.at_ 141 (.slice none 0 0) (by decide) (by decide) rfl
  have c2 := hE.at_ 142 (.slice none 0 0) (by decide) (by decide) rfl
  have c3 := hE.at_ 144 (.slice none 0 0) (by decide) (by decide) rfl
  have c4 := hE.at_ 145 (.slice none 0 0) (by decide) (by decide) rfl
  clear hE
  go_enter Tryz.func72, Tryz.ntmps72
  go_wp2_with fail
  first | go_end0 | refine bodyPost_ret (results_none rfl _ _ _) rfl ?_
  exact ⟨rfl, rfl⟩
set_option maxHeartbeats 1000000 in
set_option maxRecDepth 100000 in
theorem growFiles_calls {w : World} {g : Nat} (hE : Emp w g) : Calls Tryz.prog 91 #[.pointer (some ⟨g, 0, none⟩)] w fun e w' => e = .returned (.tuple #[]) ∧ w' = w := by
  have c1 := hE.at_ 143 (.slice none 0 0) (by decide) (by decide) rfl
  have c2 := hE.at_ 146 (.slice none 0 0) (by decide) (by decide) rfl
  have f1 := hE.2 143
  have f2 := hE.2 146
  have s1 := setCell_cell c1
  have s2 := setCell_cell c2
  clear hE
  go_enter Tryz.func91, Tryz.ntmps91
  go_wp2_with fail
  go_loopw [2] (fun s wr => s = .int .i64 0 ∧ wr = w) (fun _ _ => 0)
  case atStart => exact ⟨rfl, rfl⟩
  case round =>
    obtain ⟨rfl, rfl⟩ := hrel
    go_wp2_with fail
    first | go_end0 | refine bodyPost_ret (results_none rfl _ _ _) rfl ?_
    exact ⟨rfl, rfl⟩
set_option maxHeartbeats 1000000 in
set_option maxRecDepth 100000 in
theorem holdFiles_calls {w : World} {g : Nat} (hE : Emp w g) : Calls Tryz.prog 31 #[.pointer (some ⟨g, 0, none⟩)] w fun e w' => e = .returned (.bool true) ∧ w' = w := by
  have c1 := hE.at_ 139 (.slice none 0 0) (by decide) (by decide) rfl
  have c2 := hE.at_ 141 (.slice none 0 0) (by decide) (by decide) rfl
  clear hE
  go_enter Tryz.func31, Tryz.ntmps31
  go_wp2_with fail
  go_loopw [3] (fun s wr => s = .int .i64 0 ∧ wr = w) (fun _ _ => 0)
  case atStart => exact ⟨rfl, rfl⟩
  case round =>
    obtain ⟨rfl, rfl⟩ := hrel
    go_wp2_with fail
    go_loopw [4] (fun s w2 => s = .int .i64 0 ∧ w2 = wr) (fun _ _ => 0)
    case atStart => exact ⟨rfl, rfl⟩
    case round =>
      obtain ⟨rfl, rfl⟩ := hrel
      go_wp2_with fail
      go_ret
      exact ⟨rfl, rfl⟩
set_option maxHeartbeats 1000000 in
set_option maxRecDepth 100000 in
theorem markJobs_calls {w : World} {g : Nat} (hE : Emp w g) : Calls Tryz.prog 73 #[.pointer (some ⟨g, 0, none⟩)] w fun e w' => e = .returned (.tuple #[]) ∧ w' = w := by
  have c1 := hE.at_ 150 (.slice none 0 0) (by decide) (by decide) rfl
  have c2 := hE.at_ 151 (.slice none 0 0) (by decide) (by decide) rfl
  have c3 := hE.at_ 153 (.slice none 0 0) (by decide) (by decide) rfl
  have c4 := hE.at_ 154 (.slice none 0 0) (by decide) (by decide) rfl
  clear hE
  go_enter Tryz.func73, Tryz.ntmps73
  go_wp2_with fail
  first | go_end0 | refine bodyPost_ret (results_none rfl _ _ _) rfl ?_
  exact ⟨rfl, rfl⟩
set_option maxHeartbeats 1000000 in
set_option maxRecDepth 100000 in
theorem growJobs_calls {w : World} {g : Nat} (hE : Emp w g) : Calls Tryz.prog 92 #[.pointer (some ⟨g, 0, none⟩)] w fun e w' => e = .returned (.tuple #[]) ∧ w' = w := by
  have c1 := hE.at_ 152 (.slice none 0 0) (by decide) (by decide) rfl
  have c2 := hE.at_ 155 (.slice none 0 0) (by decide) (by decide) rfl
  have f1 := hE.2 152
  have f2 := hE.2 155
  have s1 := setCell_cell c1
  have s2 := setCell_cell c2
  clear hE
  go_enter Tryz.func92, Tryz.ntmps92
  go_wp2_with fail
  go_loopw [2] (fun s wr => s = .int .i64 0 ∧ wr = w) (fun _ _ => 0)
  case atStart => exact ⟨rfl, rfl⟩
  case round =>
    obtain ⟨rfl, rfl⟩ := hrel
    go_wp2_with fail
    first | go_end0 | refine bodyPost_ret (results_none rfl _ _ _) rfl ?_
    exact ⟨rfl, rfl⟩
set_option maxHeartbeats 1000000 in
set_option maxRecDepth 100000 in
theorem holdJobs_calls {w : World} {g : Nat} (hE : Emp w g) : Calls Tryz.prog 32 #[.pointer (some ⟨g, 0, none⟩)] w fun e w' => e = .returned (.bool true) ∧ w' = w := by
  have c1 := hE.at_ 148 (.slice none 0 0) (by decide) (by decide) rfl
  have c2 := hE.at_ 150 (.slice none 0 0) (by decide) (by decide) rfl
  clear hE
  go_enter Tryz.func32, Tryz.ntmps32
  go_wp2_with fail
  go_loopw [3] (fun s wr => s = .int .i64 0 ∧ wr = w) (fun _ _ => 0)
  case atStart => exact ⟨rfl, rfl⟩
  case round =>
    obtain ⟨rfl, rfl⟩ := hrel
    go_wp2_with fail
    go_loopw [4] (fun s w2 => s = .int .i64 0 ∧ w2 = wr) (fun _ _ => 0)
    case atStart => exact ⟨rfl, rfl⟩
    case round =>
      obtain ⟨rfl, rfl⟩ := hrel
      go_wp2_with fail
      go_ret
      exact ⟨rfl, rfl⟩
set_option maxHeartbeats 1000000 in
set_option maxRecDepth 100000 in
theorem markEdits_calls {w : World} {g : Nat} (hE : Emp w g) : Calls Tryz.prog 74 #[.pointer (some ⟨g, 0, none⟩)] w fun e w' => e = .returned (.tuple #[]) ∧ w' = w := by
  have c1 := hE.at_ 159 (.slice none 0 0) (by decide) (by decide) rfl
  have c2 := hE.at_ 160 (.slice none 0 0) (by decide) (by decide) rfl
  have c3 := hE.at_ 162 (.slice none 0 0) (by decide) (by decide) rfl
  have c4 := hE.at_ 163 (.slice none 0 0) (by decide) (by decide) rfl
  clear hE
  go_enter Tryz.func74, Tryz.ntmps74
  go_wp2_with fail
  first | go_end0 | refine bodyPost_ret (results_none rfl _ _ _) rfl ?_
  exact ⟨rfl, rfl⟩
set_option maxHeartbeats 1000000 in
set_option maxRecDepth 100000 in
theorem growEdits_calls {w : World} {g : Nat} (hE : Emp w g) : Calls Tryz.prog 93 #[.pointer (some ⟨g, 0, none⟩)] w fun e w' => e = .returned (.tuple #[]) ∧ w' = w := by
  have c1 := hE.at_ 161 (.slice none 0 0) (by decide) (by decide) rfl
  have c2 := hE.at_ 164 (.slice none 0 0) (by decide) (by decide) rfl
  have f1 := hE.2 161
  have f2 := hE.2 164
  have s1 := setCell_cell c1
  have s2 := setCell_cell c2
  clear hE
  go_enter Tryz.func93, Tryz.ntmps93
  go_wp2_with fail
  go_loopw [2] (fun s wr => s = .int .i64 0 ∧ wr = w) (fun _ _ => 0)
  case atStart => exact ⟨rfl, rfl⟩
  case round =>
    obtain ⟨rfl, rfl⟩ := hrel
    go_wp2_with fail
    first | go_end0 | refine bodyPost_ret (results_none rfl _ _ _) rfl ?_
    exact ⟨rfl, rfl⟩
set_option maxHeartbeats 1000000 in
set_option maxRecDepth 100000 in
theorem holdEdits_calls {w : World} {g : Nat} (hE : Emp w g) : Calls Tryz.prog 33 #[.pointer (some ⟨g, 0, none⟩)] w fun e w' => e = .returned (.bool true) ∧ w' = w := by
  have c1 := hE.at_ 157 (.slice none 0 0) (by decide) (by decide) rfl
  have c2 := hE.at_ 159 (.slice none 0 0) (by decide) (by decide) rfl
  clear hE
  go_enter Tryz.func33, Tryz.ntmps33
  go_wp2_with fail
  go_loopw [3] (fun s wr => s = .int .i64 0 ∧ wr = w) (fun _ _ => 0)
  case atStart => exact ⟨rfl, rfl⟩
  case round =>
    obtain ⟨rfl, rfl⟩ := hrel
    go_wp2_with fail
    go_loopw [4] (fun s w2 => s = .int .i64 0 ∧ w2 = wr) (fun _ _ => 0)
    case atStart => exact ⟨rfl, rfl⟩
    case round =>
      obtain ⟨rfl, rfl⟩ := hrel
      go_wp2_with fail
      go_ret
      exact ⟨rfl, rfl⟩
set_option maxHeartbeats 1000000 in
set_option maxRecDepth 100000 in
theorem markSteps_calls {w : World} {g : Nat} (hE : Emp w g) : Calls Tryz.prog 75 #[.pointer (some ⟨g, 0, none⟩)] w fun e w' => e = .returned (.tuple #[]) ∧ w' = w := by
  have c1 := hE.at_ 168 (.slice none 0 0) (by decide) (by decide) rfl
  have c2 := hE.at_ 169 (.slice none 0 0) (by decide) (by decide) rfl
  have c3 := hE.at_ 171 (.slice none 0 0) (by decide) (by decide) rfl
  have c4 := hE.at_ 172 (.slice none 0 0) (by decide) (by decide) rfl
  clear hE
  go_enter Tryz.func75, Tryz.ntmps75
  go_wp2_with fail
  first | go_end0 | refine bodyPost_ret (results_none rfl _ _ _) rfl ?_
  exact ⟨rfl, rfl⟩
set_option maxHeartbeats 1000000 in
set_option maxRecDepth 100000 in
theorem growSteps_calls {w : World} {g : Nat} (hE : Emp w g) : Calls Tryz.prog 94 #[.pointer (some ⟨g, 0, none⟩)] w fun e w' => e = .returned (.tuple #[]) ∧ w' = w := by
  have c1 := hE.at_ 170 (.slice none 0 0) (by decide) (by decide) rfl
  have c2 := hE.at_ 173 (.slice none 0 0) (by decide) (by decide) rfl
  have f1 := hE.2 170
  have f2 := hE.2 173
  have s1 := setCell_cell c1
  have s2 := setCell_cell c2
  clear hE
  go_enter Tryz.func94, Tryz.ntmps94
  go_wp2_with fail
  go_loopw [2] (fun s wr => s = .int .i64 0 ∧ wr = w) (fun _ _ => 0)
  case atStart => exact ⟨rfl, rfl⟩
  case round =>
    obtain ⟨rfl, rfl⟩ := hrel
    go_wp2_with fail
    first | go_end0 | refine bodyPost_ret (results_none rfl _ _ _) rfl ?_
    exact ⟨rfl, rfl⟩
set_option maxHeartbeats 1000000 in
set_option maxRecDepth 100000 in
theorem holdSteps_calls {w : World} {g : Nat} (hE : Emp w g) : Calls Tryz.prog 34 #[.pointer (some ⟨g, 0, none⟩)] w fun e w' => e = .returned (.bool true) ∧ w' = w := by
  have c1 := hE.at_ 166 (.slice none 0 0) (by decide) (by decide) rfl
  have c2 := hE.at_ 168 (.slice none 0 0) (by decide) (by decide) rfl
  clear hE
  go_enter Tryz.func34, Tryz.ntmps34
  go_wp2_with fail
  go_loopw [3] (fun s wr => s = .int .i64 0 ∧ wr = w) (fun _ _ => 0)
  case atStart => exact ⟨rfl, rfl⟩
  case round =>
    obtain ⟨rfl, rfl⟩ := hrel
    go_wp2_with fail
    go_loopw [4] (fun s w2 => s = .int .i64 0 ∧ w2 = wr) (fun _ _ => 0)
    case atStart => exact ⟨rfl, rfl⟩
    case round =>
      obtain ⟨rfl, rfl⟩ := hrel
      go_wp2_with fail
      go_ret
      exact ⟨rfl, rfl⟩
end Go.Proofs.YtlcohooognjmaaaGreatDoor.Kb
namespace Go.Proofs.YtlcohooognjmaaaGreatDoor.Kb
open Go.RowKit Go.Proofs.YtlcohooognjmaaaGreatDoorW.PrintWords Go.Proofs.YtlcohooognjmaaaGreatDoor.Own Go.Proofs.YtlcohooognjmaaaGreatDoor.Wk
set_option linter.unusedVariables false
theorem sl_at {w : World} {A : Option Addr} {n : Nat} {L : List Sl} (h : Kd.C kS w A n L) (i : Nat) (h1 : i < n) {x : Sl} (hx : L[i]? = some x) : ∃ ad, A = some ad ∧ w.cell? (ad.add i) = some (.slice x.A x.n x.c) := by
  obtain ⟨ad, c, h2, h3, h4, h5⟩ := Kd.C_get h x (i : Int) (by omega) (by omega)
  refine ⟨ad, h2, ?_⟩
  have h6 : c = [x.v] := by
    have h7 : c = [Sl.v (L.getD ((i : Int).toNat) x)] := h4
    rw [Int.toNat_natCast, List.getD_eq_getElem?_getD, hx] at h7
    exact h7
  subst h6
  have := h5 0 _ rfl
  have hsz : kS.sz = 1 := rfl
  rw [hsz, Nat.mul_one, Int.toNat_natCast, Nat.add_zero] at this
  exact this
theorem V_sl {W : World} {ok : Nat → Prop} {s : Sl} {l : List Int} (h : Kd.V kB 0 W 0 ok s.v l) : s.n = l.length ∧ s.n ≤ s.c ∧ Kd.C kB W s.A l.length l := by
  obtain ⟨A, n, c⟩ := s
  have := Kd.V_reads' (A := A) (n := n) (c := c) h
  exact this
theorem R_sl {W : World} {e base : Nat} {ok : Nat → Prop} {s : Sl} {l : List Int} (h : Kd.R kB e W base ok s.v l) : s.n = l.length ∧ s.n ≤ s.c ∧ Kd.C kB W s.A l.length l := V_sl (rv h)
theorem drew_in {w W : World} (h : ∃ m, W = w.drewN m) (n : Nat) : Aside0 (∃ m, W.drewN n = w.drewN m) := by
  obtain ⟨m, rfl⟩ := h
  exact ⟨m + n, World.drewN_drewN ..⟩
set_option maxHeartbeats 1000000 in
set_option maxRecDepth 100000 in
theorem holdBytes_calls {w : World} {τ : Nat → Nat} {M base g : Nat} {dp : Int} {f : Nat → Value} {S : Nat → List Sl} {I : Nat → List Int} {ws : List It} {os : List Ou} {fr : List It} (hI : Inv w τ M base g dp f S I) (hC : Con w τ M base ws os fr)
    (e4 : S 4 = os.map Ou.s) (e5 : S 5 = os.map Ou.td) (e6 : S 6 = ws.map It.s) (e7 : S 7 = ws.map It.nt) (lo : os.length ≤ 1099511627776) (lw : ws.length ≤ 1099511627776) :
    Calls Tryz.prog 16 #[.pointer (some ⟨g, 0, none⟩)] w fun e w' => e = .returned (.bool true) ∧ ∃ m, w' = w.drewN m := by
  have HI : Aside0 (∀ W, (∃ m, W = w.drewN m) → Inv W τ M base g dp f S I) := ⟨fun W hW => by obtain ⟨m, rfl⟩ := hW; exact hI.heap rfl⟩
  have HC : Aside0 (∀ W, (∃ m, W = w.drewN m) → Con W τ M base ws os fr) := ⟨fun W hW => by obtain ⟨m, rfl⟩ := hW; exact hC.below (pw_below_drewN (Below.refl _ _) m)⟩
  obtain ⟨A4, q4, v4, l4, -⟩ := Kd.R_reads (hI.rs 4 (by omega) (by omega))
  obtain ⟨A5, q5, v5, l5, -⟩ := Kd.R_reads (hI.rs 5 (by omega) (by omega))
  obtain ⟨A6, q6, v6, l6, -⟩ := Kd.R_reads (hI.rs 6 (by omega) (by omega))
  obtain ⟨A7, q7, v7, l7, -⟩ := Kd.R_reads (hI.rs 7 (by omega) (by omega))
  rw [e4, List.length_map] at v4 l4
  rw [e5, List.length_map] at v5 l5
  rw [e6, List.length_map] at v6 l6
  rw [e7, List.length_map] at v7 l7
  have HE := Aside0.mk (And.intro e4 (And.intro e5 (And.intro e6 e7)))
  have HV := Aside0.mk (And.intro v4 (And.intro v5 (And.intro v6 v7)))
  clear hI hC e4 e5 e6 e7 v4 v5 v6 v7
  have K4 : Aside0 (∀ W, (∃ m, W = w.drewN m) → W.cell? ⟨g, 4, none⟩ = some (.slice A4 os.length q4)) := ⟨fun W hW => by rw [(HI.out W hW).blk.cell 4 (by omega), HV.out.1]⟩
  have K5 : Aside0 (∀ W, (∃ m, W = w.drewN m) → W.cell? ⟨g, 5, none⟩ = some (.slice A5 os.length q5)) := ⟨fun W hW => by rw [(HI.out W hW).blk.cell 5 (by omega), HV.out.2.1]⟩
  have K6 : Aside0 (∀ W, (∃ m, W = w.drewN m) → W.cell? ⟨g, 6, none⟩ = some (.slice A6 ws.length q6)) := ⟨fun W hW => by rw [(HI.out W hW).blk.cell 6 (by omega), HV.out.2.2.1]⟩
  have K7 : Aside0 (∀ W, (∃ m, W = w.drewN m) → W.cell? ⟨g, 7, none⟩ = some (.slice A7 ws.length q7)) := ⟨fun W hW => by rw [(HI.out W hW).blk.cell 7 (by omega), HV.out.2.2.2]⟩
  go_enter Tryz.func16, Tryz.ntmps16
  go_wp2_with fail
  go_loopw [3] (fun s wr => ∃ k : Nat, s = .int .i64 (k : Int) ∧ k ≤ os.length ∧ Aside0 (∃ m, wr = w.drewN m)) (fun s _ => os.length - (intOf s).toNat)
  case atStart => exact ⟨0, rfl, Nat.zero_le _, ⟨0, rfl⟩⟩
  case round =>
    obtain ⟨k, rfl, hk, HD⟩ := hrel
    have c4 := K4.out wr HD.out
    have c5 := K5.out wr HD.out
    by_cases hlt : k < os.length
    · obtain ⟨o, ho⟩ : ∃ o, os[k]? = some o := ⟨_, List.getElem?_eq_getElem hlt⟩
      have hom : o ∈ os := List.mem_of_getElem? ho
      obtain ⟨-, -, l, hV1, hV2⟩ := (HC.out wr HD.out).o o hom
      have hR4 := (HI.out wr HD.out).rs 4 (by omega) (by omega)
      rw [HV.out.1] at hR4
      have hR5 := (HI.out wr HD.out).rs 5 (by omega) (by omega)
      rw [HV.out.2.1] at hR5
      have hC4 := (Kd.R_reads' hR4).2.2
      have hC5 := (Kd.R_reads' hR5).2.2
      rw [HE.out.1, List.length_map] at hC4
      rw [HE.out.2.1, List.length_map] at hC5
      obtain ⟨ad, ea, hx⟩ := sl_at hC4 k hlt (x := o.s) (by rw [List.getElem?_map, ho]; rfl)
      obtain ⟨bd, eb, hy⟩ := sl_at hC5 k hlt (x := o.td) (by rw [List.getElem?_map, ho]; rfl)
      subst ea eb
      have hs1 := V_sl hV1
      have hs2 := V_sl hV2
      have e1 : o.td.n = o.s.n := by omega
      rw [e1] at hy
      have hq : l.length = o.s.n := hs1.1.symm
      have HSB : Aside0 (∀ n : Nat, Calls Tryz.prog 38 #[.slice o.s.A o.s.n o.s.c, .slice o.td.A o.s.n o.td.c] (wr.drewN n) fun e w' => e = .returned (.bool true) ∧ w' = wr.drewN n) := ⟨fun n => sameBytes_calls (Kd.C_below (hq ▸ hs1.2.2) (pw_below_drewN (Below.refl _ _) n)) (Kd.C_below (hq ▸ hs2.2.2) (pw_below_drewN (Below.refl _ _) n))⟩
      clear hR4 hR5 hC4 hC5 hV1 hV2 hs1 hs2 hq e1
      go_wp2_with fail
      go_quiet ((go_at_call 38; exact Calls.quiet_of_same (HSB.out _)))
      go_wp2_with fail
      go_roundw
      case rel => exact ⟨k + 1, by go_num, by omega, drew_in HD.out nq⟩
      case measure => simp [intOf]; omega
    · obtain rfl : k = os.length := by omega
      clear c5 hk hlt
      go_wp2_with fail
      clear c4
      go_loopw [4] (fun s w2 => ∃ k : Nat, s = .int .i64 (k : Int) ∧ k ≤ ws.length ∧ Aside0 (∃ m, w2 = w.drewN m)) (fun s _ => ws.length - (intOf s).toNat)
      case atStart => exact ⟨0, rfl, Nat.zero_le _, HD⟩
      case round =>
        clear HD
        obtain ⟨k, rfl, hk, HD⟩ := hrel
        have c6 := K6.out wr HD.out
        have c7 := K7.out wr HD.out
        by_cases hlt : k < ws.length
        · obtain ⟨o, ho⟩ : ∃ o, ws[k]? = some o := ⟨_, List.getElem?_eq_getElem hlt⟩
          have hom : o ∈ ws := List.mem_of_getElem? ho
          obtain ⟨l, hH, hV2⟩ := (HC.out wr HD.out).w o hom
          have hV1 := rv hH.2.2.2
          have hR6 := (HI.out wr HD.out).rs 6 (by omega) (by omega)
          rw [HV.out.2.2.1] at hR6
          have hR7 := (HI.out wr HD.out).rs 7 (by omega) (by omega)
          rw [HV.out.2.2.2] at hR7
          have hC6 := (Kd.R_reads' hR6).2.2
          have hC7 := (Kd.R_reads' hR7).2.2
          rw [HE.out.2.2.1, List.length_map] at hC6
          rw [HE.out.2.2.2, List.length_map] at hC7
          obtain ⟨ad, ea, hx⟩ := sl_at hC6 k hlt (x := o.s) (by rw [List.getElem?_map, ho]; rfl)
          obtain ⟨bd, eb, hy⟩ := sl_at hC7 k hlt (x := o.nt) (by rw [List.getElem?_map, ho]; rfl)
          subst ea eb
          have hs1 := V_sl hV1
          have hs2 := V_sl hV2
          have e1 : o.nt.n = o.s.n := by omega
          rw [e1] at hy
          have hq : l.length = o.s.n := hs1.1.symm
          have HSB : Aside0 (∀ n : Nat, Calls Tryz.prog 38 #[.slice o.s.A o.s.n o.s.c, .slice o.nt.A o.s.n o.nt.c] (wr.drewN n) fun e w' => e = .returned (.bool true) ∧ w' = wr.drewN n) := ⟨fun n => sameBytes_calls (Kd.C_below (hq ▸ hs1.2.2) (pw_below_drewN (Below.refl _ _) n)) (Kd.C_below (hq ▸ hs2.2.2) (pw_below_drewN (Below.refl _ _) n))⟩
          clear hR6 hR7 hC6 hC7 hV1 hV2 hs1 hs2 hq e1 hH
          go_wp2_with fail
          go_quiet ((go_at_call 38; exact Calls.quiet_of_same (HSB.out _)))
          go_wp2_with fail
          go_roundw
          case rel => exact ⟨k + 1, by go_num, by omega, drew_in HD.out nq⟩
          case measure => simp [intOf]; omega
        · obtain rfl : k = ws.length := by omega
          clear c7 hk hlt
          go_wp2_with fail
          go_ret
          exact ⟨rfl, HD.out⟩
end Go.Proofs.YtlcohooognjmaaaGreatDoor.Kb
namespace Go.Proofs.YtlcohooognjmaaaGreatDoor.Kb
open Go.RowKit Go.Proofs.YtlcohooognjmaaaGreatDoorW.PrintWords Go.Proofs.YtlcohooognjmaaaGreatDoor.Own Go.Proofs.YtlcohooognjmaaaGreatDoor.Wk
set_option linter.unusedVariables false
theorem append_cell_run {P : Program} (W : World) (base : Nat) (t ty e : TypeId) (i : TypeInfo) (z : Value) (bytes : Nat) (ht : P.underlying t = some (.slice e)) (hi : P.info? e = some i) (hz : i.zero = some z) (hsize : i.size = 1) (hby : i.bytes = bytes) (hzs : z.cells.size = 1) (hb0 : 0 < bytes)
    (v : Value) (n : Nat) (xs : List Value) (hown : W.ownsRow base e 1 v n xs) (y : Value) (h1 : y.oneCell' = true) (hl : (n + 1) * bytes ≤ 140737488355328) (hbase : base ≤ W.heap.size) :
    ∃ v' w', (Builtin.append_ #[t, t] ty #[v, .slice (some ⟨W.heap.size, 0, none⟩) 1 1]).run P (W.alloc (.cells #[y] e)) = .ok v' w' ∧ w'.ownsRow base e 1 v' (n + 1) (xs ++ [y]) ∧ W.grownBy w' v.ownBlock ∧ W.grownBy w' v'.ownBlock ∧ (v'.ownBlock = v.ownBlock ∨ ∃ b, v'.ownBlock = some b ∧ W.heap.size ≤ b) := by
  have hn : n + 1 ≤ 140737488355328 := Nat.le_trans (Nat.le_mul_of_pos_right _ hb0) hl
  have hown' : (W.alloc (.cells #[y] e)).ownsRow base e 1 v n xs := World.ownsRow.alloc hown _
  have hnews : ∀ j u, [y][j]? = some u → (W.alloc (.cells #[y] e)).cell? ((⟨W.heap.size, 0, none⟩ : Addr).add j) = some u := World.news_of_block (cs := #[y]) (t := e) (fr := (0, 0)) (heap_alloc_new W _)
  obtain ⟨v', w', hr, h2, h3, -, h5⟩ := run_append_own_at (P := P) (W.alloc (.cells #[y] e)) base t ty e i z 1 bytes ht hi hz hsize hby hzs (by decide) v n xs hown' ⟨W.heap.size, 0, none⟩ 1 1 [y] rfl hnews (by simpa using h1) (by simp only [maxLen]; omega) hl (by simp; omega)
  have h4 : W.grownBy w' v.ownBlock := World.grownBy.trans (World.grownBy_alloc W _ _) h3
  refine ⟨v', w', hr, h2, h4, ?_, h5.imp id (fun h => ⟨_, h, by simp⟩)⟩
  have hg : ∀ (A : Array Value) (row : Option Nat), (W.alloc (.cells #[y] e)).grownBy ((W.alloc (.cells #[y] e)).drew.alloc (.cells A e)) row := fun A row => ⟨rfl, rfl, rfl, by simp, fun k hk _ => Below.heap_alloc (W.alloc (.cells #[y] e)).drew _ k hk⟩
  have hlen : xs.length = n := by simpa using hown.1
  rcases hown'.2 with ⟨rfl, rfl⟩ | ⟨g, cap, cur, rfl, hbg, hgc, hnc, hcm, hcs, htake⟩
  · have hr2 := run_append_nil (P := P) (W.alloc (.cells #[y] e)) t ty e i z ht hi hz ⟨W.heap.size, 0, none⟩ 1 1 [y] (by rw [hsize]; rfl) hnews (by omega) (by omega) (by rw [hby]; omega)
    rw [hr2] at hr
    injection hr with e1 e2
    subst e2
    exact World.grownBy.trans (World.grownBy_alloc W _ _) (hg _ _)
  · by_cases hroom : n + 1 ≤ cap
    · have hcs' : cur.size = cap := by simpa using hcs
      have hr2 := run_append_room (P := P) (W.alloc (.cells #[y] e)) t ty e i ht hi g n cap cur hgc ⟨W.heap.size, 0, none⟩ 1 1 [y] (by rw [hsize]; rfl) hnews (by simpa using h1) hroom (by rw [hsize]; simp; omega)
      rw [hr2] at hr
      injection hr with e1 e2
      subst e1
      exact h4
    · have holds : ∀ j u, xs[j]? = some u → (W.alloc (.cells #[y] e)).cell? ((⟨g, 0, none⟩ : Addr).add j) = some u := hown'.cells (g := g) rfl
      have hr2 := run_append_grow (P := P) (W.alloc (.cells #[y] e)) t ty e i z ht hi hz ⟨g, 0, none⟩ n cap xs (by rw [hsize]; simpa using hlen) holds ⟨W.heap.size, 0, none⟩ 1 1 [y] (by rw [hsize]; rfl) hnews (by omega) (by omega) (growslice_fits (by omega) (by rw [hby]; exact hl))
      rw [hr2] at hr
      injection hr with e1 e2
      subst e2
      exact World.grownBy.trans (World.grownBy_alloc W _ _) (hg _ _)
section
variable {P : Program} {ops : Array Oper} {rest : List Oper} {o : Oper} {a : Act} {Q : Exit → Act → World → Prop}
theorem R_append_byte {w0 W : World} (base : Nat) (hgd : o.guard = none) (s x : Operand) (t e : TypeId)
    (ho : o.op = .call { callee := .builtin .append, args := #[s, x], argTypes := #[t, t] })
    (ht : P.underlying t = some (.slice e)) (hinfo : (P.info? e).map (fun i => (i.zero, i.size, i.bytes)) = some (some (.int .u8 0), 1, 1))
    (v : Value) (xs : List Int) (y : Int) (ok : Nat → Prop) (hs : a.eval s = v) (hx : a.eval x = .slice (some ⟨W.heap.size, 0, none⟩) 1 1) (hfresh : ∀ k, W.heap.size ≤ k → ok k)
    (HO : Kd.R kB e W base ok v xs) (HB : Below base w0 W) (hbase : base ≤ W.heap.size) (hl : xs.length + 1 ≤ 140737488355328)
    (h : ∀ v1 w1, Kd.R kB e w1 base ok v1 (xs ++ [y]) → Below base w0 w1 → W.grownBy w1 v.ownBlock → W.grownBy w1 v1.ownBlock → (v1.ownBlock = v.ownBlock ∨ ∃ b, v1.ownBlock = some b ∧ W.heap.size ≤ b) → wpList P ops Q rest (a.put o.dst v1) w1) :
    wpList P ops Q (o :: rest) a (W.alloc (.cells #[.int .u8 y] e)) := by
  obtain ⟨i0, hi, hzz⟩ := Option.map_eq_some_iff.1 hinfo
  simp only [Prod.mk.injEq] at hzz
  obtain ⟨hz0, hz1, hz2⟩ := hzz
  have hown := Kd.own_of_R (enc := Value.int .u8) (h1 := fun _ => rfl) HO
  obtain ⟨v', w', hr, h2, h3, h4, hat⟩ := append_cell_run (P := P) W base t o.type e i0 (.int .u8 0) 1 ht hi hz0 hz1 hz2 rfl (by decide) v xs.length _ hown (.int .u8 y) rfl (by omega) hbase
  refine wpList_plain hgd fun K hK => ?_
  unfold Oper.wp execOp
  simp only [ho, resolve, invoke, builtin, Sem.run_bind, Sem.run_pure, Result.andThen_ok, List.map_toArray, List.map_cons, List.map_nil, hs, hx, hr]
  have h5 : w'.ownsRow base e 1 v' (xs ++ [y]).length (encs (Value.int .u8) (xs ++ [y])) := by
    rw [encs_append]
    simpa [encs] using h2
  refine hK _ _ (h v' w' (Kd.R_of_own (enc := Value.int .u8) (h1 := fun _ => rfl) h5 (fun k hk => ?_)) (HB.grown h3 hbase (fun k hk => own_base hown k hk)) h3 h4 hat)
  rcases hat with hat | ⟨b, hat, hb⟩
  · exact HO.1 k (hat ▸ hk)
  · rw [hat] at hk
    injection hk with hk
    exact hfresh k (by omega)
end
theorem infoS : (Tryz.prog.info? 25).map (fun i => (i.zero, i.size, i.bytes)) = some (some (.slice none 0 0), 1, 24) := by kernel_rfl
theorem infoI : (Tryz.prog.info? 3).map (fun i => (i.zero, i.size, i.bytes)) = some (some (.int .i64 0), 1, 8) := by kernel_rfl
theorem infoB : (Tryz.prog.info? 5).map (fun i => (i.zero, i.size, i.bytes)) = some (some (.int .u8 0), 1, 1) := by kernel_rfl
section
variable {w W W' W1 : World} {τ τ' τ0 : Nat → Nat} {M base g : Nat} {dp : Int} {f : Nat → Value} {S : Nat → List Sl} {I : Nat → List Int} {v v1 : Value} {T : Nat → Prop} {ws : List It} {os : List Ou} {fr : List It}
theorem Inv.fresh (h : Inv W τ M base g dp f S I) (hb : Below W.heap.size W W1) {t : Nat} (ht : t < M) : Inv W1 (newT τ W W1 t) M base g dp f S I ∧ Stp (fun _ => False) W W1 τ (newT τ W W1 t) := by
  have hs : Stp (fun _ => False) W W1 τ (newT τ W W1 t) := ⟨hb.size, fun k hk _ => hb.block k hk, fun k hk => newT_old hk⟩
  exact ⟨h.stp hs (fun _ e => e.elim) (newT_zero h t hb.size) (newT_lt h ht), hs⟩
theorem R_new {α : Type} {d : Kd α} {e t : Nat} {l : List α} (h : Kd.R d e W1 W.heap.size (fun _ => True) v l) : Kd.R d e W1 W.heap.size (Tg (newT τ W W1 t) t) v l :=
  Kd.R_mono (Kd.R_bound h) (fun k hk => newT_new hk.2.1 hk.2.2.1)
/-- A row of lists as the walk takes it. -/
theorem Inv.cS (h : Inv W τ M base g dp f S I) {i : Nat} (h4 : 4 ≤ i) (h8 : i ≤ 8) : ∃ A c, f i = .slice A (S i).length c ∧ W.cell? ⟨g, i, none⟩ = some (.slice A (S i).length c) ∧ (S i).length ≤ c ∧ Kd.C kS W A (S i).length (S i) ∧ Kd.R kS 25 W base (Tg τ i) (.slice A (S i).length c) (S i) := by
  obtain ⟨A, c, hv, hl, hC⟩ := Kd.R_reads (h.rs i h4 h8)
  have hc := h.blk.cell i (by omega)
  have hR := h.rs i h4 h8
  rw [hv] at hc hR
  exact ⟨A, c, hv, hc, hl, hC, hR⟩
theorem Inv.cI (h : Inv W τ M base g dp f S I) {i : Nat} (h4 : 9 ≤ i) (h8 : i ≤ 11) : ∃ A c, f i = .slice A (I i).length c ∧ W.cell? ⟨g, i, none⟩ = some (.slice A (I i).length c) ∧ (I i).length ≤ c ∧ Kd.C kI W A (I i).length (I i) ∧ Kd.R kI 3 W base (Tg τ i) (.slice A (I i).length c) (I i) := by
  obtain ⟨A, c, hv, hl, hC⟩ := Kd.R_reads (h.ri i h4 h8)
  have hc := h.blk.cell i (by omega)
  have hR := h.ri i h4 h8
  rw [hv] at hc hR
  exact ⟨A, c, hv, hc, hl, hC, hR⟩
theorem Inv.frS (h : Inv W τ M base g dp f S I) {i : Nat} (h4 : 4 ≤ i) (h8 : i ≤ 8) {A : Option Addr} {n c : Nat} (hf : f i = .slice A n c) (hg : W.grownBy W1 (Value.slice A n c).ownBlock) (j : Nat) : W1.frozen? ⟨g, j, none⟩ = false := by
  have hR := h.rs i h4 h8
  rw [hf] at hR
  refine (BkC.keep h.blk (hg.block g h.blk.lt (fun e => ?_))).fr j
  have h1 : τ g = i := hR.1 g e.symm
  have h2 := h.tg
  omega
theorem Inv.frI (h : Inv W τ M base g dp f S I) {i : Nat} (h4 : 9 ≤ i) (h8 : i ≤ 11) {A : Option Addr} {n c : Nat} (hf : f i = .slice A n c) (hg : W.grownBy W1 (Value.slice A n c).ownBlock) (j : Nat) : W1.frozen? ⟨g, j, none⟩ = false := by
  have hR := h.ri i h4 h8
  rw [hf] at hR
  refine (BkC.keep h.blk (hg.block g h.blk.lt (fun e => ?_))).fr j
  have h1 : τ g = i := hR.1 g e.symm
  have h2 := h.tg
  omega
theorem Inv.stS (h : Inv W τ M base g dp f S I) {i : Nat} (h4 : 4 ≤ i) (h8 : i ≤ 8) {A : Option Addr} {n c : Nat} (hf : f i = .slice A n c) (hg : W.grownBy W1 (Value.slice A n c).ownBlock) : W1.cell? ⟨g, i, none⟩ = some (.slice A n c) ∧ W1.frozen? ⟨g, i, none⟩ = false := by
  have hR := h.rs i h4 h8
  rw [hf] at hR
  have hb := BkC.keep h.blk (hg.block g h.blk.lt (fun e => by
    have h1 : τ g = i := hR.1 g e.symm
    have h2 := h.tg
    omega))
  exact ⟨by rw [hb.cell i (by omega), hf], hb.fr i⟩
theorem Inv.stI (h : Inv W τ M base g dp f S I) {i : Nat} (h4 : 9 ≤ i) (h8 : i ≤ 11) {A : Option Addr} {n c : Nat} (hf : f i = .slice A n c) (hg : W.grownBy W1 (Value.slice A n c).ownBlock) : W1.cell? ⟨g, i, none⟩ = some (.slice A n c) ∧ W1.frozen? ⟨g, i, none⟩ = false := by
  have hR := h.ri i h4 h8
  rw [hf] at hR
  have hb := BkC.keep h.blk (hg.block g h.blk.lt (fun e => by
    have h1 : τ g = i := hR.1 g e.symm
    have h2 := h.tg
    omega))
  exact ⟨by rw [hb.cell i (by omega), hf], hb.fr i⟩
/-- A row's value, its length a letter. -/
theorem R_sliceN {α : Type} {d : Kd α} {e : Nat} {ok : Nat → Prop} {l : List α} (h : Kd.R d e W base ok v l) : ∃ A n c, v = .slice A n c ∧ Aside0 (n = l.length) := by
  obtain ⟨A, c, hv⟩ := Kd.R_slice h
  exact ⟨A, _, c, hv, ⟨rfl⟩⟩
/-- What was held from a world on. -/
structure Cur (w W : World) (τ0 τ : Nat → Nat) (T : Nat → Prop) (M base g : Nat) (dp : Int) (f : Nat → Value) (S : Nat → List Sl) (I : Nat → List Int) : Prop where
  inv : Inv W τ M base g dp f S I
  stp : Stp T w W τ0 τ
  bel : Below base w W
theorem Cur.refl (h : Inv W τ M base g dp f S I) (T : Nat → Prop) : Cur W W τ τ T M base g dp f S I := ⟨h, Stp.refl _ _ _, Below.refl _ _⟩
theorem Cur.pushS (h : Cur w W τ0 τ T M base g dp f S I) {i : Nat} (h4 : 4 ≤ i) (h8 : i ≤ 8) (hT1 : T 1) (hTi : T i) {A : Option Addr} {n c : Nat} (hf : f i = .slice A n c) {L : List Sl} (ho : Kd.R kS 25 W1 base (fun k => Tg τ i k ∨ W.heap.size ≤ k) v1 L) (hg : W.grownBy W1 (Value.slice A n c).ownBlock) (hb : Below base w W1) :
    Cur w (W1.setCell ⟨g, i, none⟩ v1) τ0 (newT τ W W1 i) T M base g dp (upd f i v1) (upd S i L) I ∧ Stp (fun t => t = 1 ∨ t = i) W (W1.setCell ⟨g, i, none⟩ v1) τ (newT τ W W1 i) := by
  obtain ⟨h1, h2⟩ := h.inv.pushS h4 h8 ho (by rw [hf]; exact hg)
  refine ⟨⟨h1, (h.stp.trans h2).mono (fun t ht => ?_), hb.setCell (p := ⟨g, i, none⟩) h.inv.bs _⟩, h2⟩
  rcases ht with ht | ht | ht
  · exact ht
  · rw [ht]; exact hT1
  · rw [ht]; exact hTi
theorem Cur.pushI (h : Cur w W τ0 τ T M base g dp f S I) {i : Nat} (h4 : 9 ≤ i) (h8 : i ≤ 11) (hT1 : T 1) (hTi : T i) {A : Option Addr} {n c : Nat} (hf : f i = .slice A n c) {L : List Int} (ho : Kd.R kI 3 W1 base (fun k => Tg τ i k ∨ W.heap.size ≤ k) v1 L) (hg : W.grownBy W1 (Value.slice A n c).ownBlock) (hb : Below base w W1) :
    Cur w (W1.setCell ⟨g, i, none⟩ v1) τ0 (newT τ W W1 i) T M base g dp (upd f i v1) S (upd I i L) ∧ Stp (fun t => t = 1 ∨ t = i) W (W1.setCell ⟨g, i, none⟩ v1) τ (newT τ W W1 i) := by
  obtain ⟨h1, h2⟩ := h.inv.pushI h4 h8 ho (by rw [hf]; exact hg)
  refine ⟨⟨h1, (h.stp.trans h2).mono (fun t ht => ?_), hb.setCell (p := ⟨g, i, none⟩) h.inv.bs _⟩, h2⟩
  rcases ht with ht | ht | ht
  · exact ht
  · rw [ht]; exact hT1
  · rw [ht]; exact hTi
theorem Cur.fresh (h : Cur w W τ0 τ T M base g dp f S I) (hb : Below W.heap.size W W1) {t : Nat} (ht : t < M) : Cur w W1 τ0 (newT τ W W1 t) T M base g dp f S I ∧ Stp (fun _ => False) W W1 τ (newT τ W W1 t) := by
  obtain ⟨h1, h2⟩ := h.inv.fresh hb ht
  refine ⟨⟨h1, (h.stp.trans h2).mono (fun t ht => ?_), h.bel.trans (hb.mono h.inv.size)⟩, h2⟩
  rcases ht with ht | ht
  · exact ht
  · exact ht.elim
theorem Cur.heap (h : Cur w W τ0 τ T M base g dp f S I) (hb : Below W.heap.size W W1) (he : W1.heap = W.heap) : Cur w W1 τ0 τ T M base g dp f S I := ⟨h.inv.heap he, h.stp.heap he, h.bel.trans (hb.mono h.inv.size)⟩
theorem lit_row (W : World) (b : Nat) (hb : b ≤ W.heap.size) : Kd.R kB 5 (W.alloc (.cells #[] 5)) b (fun _ => True) (.slice (some ⟨W.heap.size, 0, none⟩) 0 0) ([] : List Int) :=
  ⟨fun _ _ => trivial, [], own_lit W b 5 .u8 [] hb (by simp), Reps.none _ _⟩
theorem lit_below (W : World) : Below W.heap.size W (W.drew.alloc (.cells #[] 5)) := below_alloc (below_drew (Below.refl _ _)) _
theorem lit_size (W : World) : W.heap.size ≤ (W.drew.alloc (.cells #[] 5)).heap.size := (lit_below W).size
end
end Go.Proofs.YtlcohooognjmaaaGreatDoor.Kb
namespace Go.Proofs.YtlcohooognjmaaaGreatDoor.Kb
open Go.RowKit Go.Proofs.YtlcohooognjmaaaGreatDoorW.PrintWords Go.Proofs.YtlcohooognjmaaaGreatDoor.Own Go.Proofs.YtlcohooognjmaaaGreatDoor.Wk
set_option linter.unusedVariables false
/-- The book as it stands: fr0 are the lists of the row Fresh, fr those of them that are not laid on yet. -/
structure Bs (W : World) (τ : Nat → Nat) (M base g : Nat) (dp : Int) (f : Nat → Value) (S : Nat → List Sl) (I : Nat → List Int) (ws : List It) (os : List Ou) (fr fr0 : List It) : Prop where
  inv : Inv W τ M base g dp f S I
  con : Con W τ M base ws os fr
  e4 : S 4 = os.map Ou.s
  e5 : S 5 = os.map Ou.td
  e6 : S 6 = ws.map It.s
  e7 : S 7 = ws.map It.nt
  e8 : S 8 = fr0.map It.s
  i9 : (I 9).length = ws.length
  i10 : (I 10).length = ws.length
  i11 : (I 11).length = fr0.length
/-- What a step may turn while list x is laid on. -/
def TX (x : Nat) (t : Nat) : Prop := t = x ∨ (t ≠ 0 ∧ t ≠ 2 ∧ t < 20)
theorem cell_prefix {W : World} {base : Nat} {A : Option Addr} {n c : Nat} {l : List Int} {ok : Nat → Prop} (h : Kd.R kB 5 W base ok (.slice A n c) l) (j : Nat) (hj : j < l.length) : ∃ b, A = some ⟨b, 0, none⟩ ∧ W.cell? ⟨b, j, none⟩ = some (.int .u8 (l.getD j 0)) := by
  obtain ⟨h1, h2, h3⟩ := Kd.R_reads' h
  obtain ⟨ad, ea, hx⟩ := int_at h3 j hj
  obtain ⟨inner, ho⟩ := Kd.R_own h
  rcases ho.2 with ⟨hv, hn⟩ | ⟨b, cap, cur, hv, r⟩
  · injection hv with e1 e2 e3
    omega
  · injection hv with e1 e2 e3
    rw [e1] at ea
    injection ea with ea
    subst ea
    rw [add_plain] at hx
    exact ⟨b, e1, hx⟩
theorem add_blk (a : Addr) (n : Nat) : (a.add n).block = a.block := by unfold Addr.add; split <;> rfl
theorem cell_same {W W1 : World} {a : Addr} (h : W1.heap[a.block]? = W.heap[a.block]?) : W1.cell? a = W.cell? a := by unfold World.cell?; rw [h]
/-- A list that is read is read on, where its cells stand. -/
theorem V_cells {W W1 : World} {ok ok1 : Nat → Prop} {s : Sl} {l : List Int} (h : Kd.V kB 0 W 0 ok s.v l) (hc : ∀ ad, s.A = some ad → 0 < s.n → ok ad.block → ad.block < W.heap.size → (∀ j, j < s.n → W1.cell? (ad.add j) = W.cell? (ad.add j)) ∧ ok1 ad.block ∧ ad.block < W1.heap.size) : Kd.V kB 0 W1 0 ok1 s.v l := by
  obtain ⟨A, n, c⟩ := s
  obtain ⟨hn, hle, hF⟩ := Kd.V_at (A := A) (n := n) (c := c) h
  subst hn
  refine ⟨A, c, rfl, hle, fun W' hW' => ?_⟩
  have hr := Kd.reads_of_C (enc := Value.int .u8) (d := (0 : Int)) (h1 := fun _ => rfl) (Kd.F_now hF)
  refine Kd.C_of_reads (enc := Value.int .u8) (d := (0 : Int)) (h1 := fun _ => rfl) ⟨rfl, hr.2.1, fun h0 => ?_⟩
  obtain ⟨ad, ea, hx⟩ := hr.2.2 h0
  have hok := Kd.F_in (Kd.F_bound hF) ea h0 (by decide)
  obtain ⟨h1, h2, h3⟩ := hc ad ea h0 hok.1 hok.2
  refine ⟨ad, ea, fun j hj => ?_⟩
  exact (cell_same (by rw [add_blk]; exact hW' _ h2 h3)).trans ((h1 j hj).trans (hx j hj))
/-- Within one list's growth. -/
structure Gr (wr W : World) (τ1 τ2 : Nat → Nat) (M base : Nat) (x : It) (v : Value) (l : List Int) : Prop where
  R : Kd.R kB 5 W base (Tg τ2 x.id) v l
  stp : Stp (fun t => t = x.id) wr W τ1 τ2
  keep : ∀ l0, Kd.V kB 0 wr 0 (Tg τ1 x.id) x.s.v l0 → Kd.V kB 0 W 0 (Tg τ2 x.id) x.s.v l0
  bel : Below base wr W
  pre : x.s.n ≤ l.length
  at0 : ∀ ad, x.s.A = some ad → 0 < x.s.n → ad.off = 0 ∧ ad.spot = none
  new : ∀ k, W.heap.size ≤ k → τ2 k = 0
  tm : ∀ k, τ2 k < M
theorem addr_eta {ad : Addr} (h1 : ad.off = 0) (h2 : ad.spot = none) : ad = ⟨ad.block, 0, none⟩ := by
  cases ad
  simp at h1 h2
  subst h1 h2
  rfl
/-- One byte more. -/
theorem Gr.step {wr W W1 : World} {τ1 τ2 : Nat → Nat} {M base : Nat} {x : It} {v v1 : Value} {l : List Int} {y : Int} (h : Gr wr W τ1 τ2 M base x v l) (hM : x.id < M) (ho : Kd.R kB 5 W1 base (fun k => Tg τ2 x.id k ∨ W.heap.size ≤ k) v1 (l ++ [y])) (hb : Below base wr W1) (hg : W.grownBy W1 v.ownBlock) (hg1 : W.grownBy W1 v1.ownBlock) (hat : v1.ownBlock = v.ownBlock ∨ ∃ b, v1.ownBlock = some b ∧ W.heap.size ≤ b) :
    Gr wr W1 τ1 (newT τ2 W W1 x.id) M base x v1 (l ++ [y]) := by
  have hsz := hg.size
  have hst : Stp (fun t => t = x.id) W W1 τ2 (newT τ2 W W1 x.id) := ⟨hsz, fun k hk ht => hg.block k hk (fun e => ht (h.R.1 k e.symm)), fun k hk => newT_old hk⟩
  refine ⟨R_newT ho h.new, (h.stp.trans hst).mono (fun t ht => ht.elim id id), fun l0 hl0 => ?_, hb, ?_, h.at0, fun k hk => ?_, fun k => ?_⟩
  · refine V_cells (h.keep l0 hl0) (fun ad ea h0 hok hlt => ?_)
    refine ⟨fun j hj => ?_, (newT_old hlt).trans hok, by omega⟩
    by_cases e : some ad.block = v1.ownBlock
    · obtain ⟨h1, h2⟩ := h.at0 ad ea h0
      have hpre := h.pre
      have e2 := addr_eta h1 h2
      have e3 : v1.ownBlock = v.ownBlock := by
        rcases hat with hat | ⟨b, hat, hb⟩
        · exact hat
        · rw [hat] at e
          injection e with e
          omega
      obtain ⟨A, c, ev⟩ := Kd.R_slice h.R
      obtain ⟨A', c', ev'⟩ := Kd.R_slice ho
      subst ev ev'
      obtain ⟨b, eb, hx⟩ := cell_prefix h.R j (by omega)
      obtain ⟨b', eb', hx'⟩ := cell_prefix ho j (by rw [List.length_append]; omega)
      subst eb eb'
      have h5 : some ad.block = some b' := e
      have h6 : some b' = some b := e3
      injection h5 with h5
      injection h6 with h6
      rw [e2, add_plain, h5, hx', h6, hx]
      congr 2
      rw [List.getD_eq_getElem?_getD, List.getD_eq_getElem?_getD, List.getElem?_append_left (by omega)]
    · exact cell_same (by rw [add_blk]; exact hg1.block _ hlt e)
  · rw [List.length_append]
    have := h.pre
    omega
  · unfold newT
    rw [if_neg (by omega)]
    exact h.new k (by omega)
  · unfold newT
    split
    · exact hM
    · exact h.tm k
theorem drop_cons {α : Type} {l : List α} {k : Nat} {x : α} (h : l[k]? = some x) : l.drop k = x :: l.drop (k + 1) := by
  obtain ⟨hk, e⟩ := List.getElem?_eq_some_iff.1 h
  rw [List.drop_eq_getElem_cons hk, e]
theorem Bs.grown {wo wr W3 w10 W5 : World} {τ1 τ2 τ3 τ4 τ5 : Nat → Nat} {M base g : Nat} {dp : Int} {f1 f5 : Nat → Value} {S1 S5 : Nat → List Sl} {I1 : Nat → List Int} {ws : List It} {os1 : List Ou} {x : It} {b fr0 : List It} {s s' : Sl} {l : List Int}
    (hB : Bs wo τ1 M base g dp f1 S1 I1 ws os1 (x :: b) fr0) (hG : Gr wo wr τ1 τ2 M base x s.v l) (h20 : 20 ≤ x.id) (h3 : Stp (fun t => t = 1 ∨ t = 4) wr W3 τ2 τ3) (h4 : Stp (fun _ => False) W3 w10 τ3 τ4) (hV : Kd.V kB 0 w10 0 (Tg τ4 2) s'.v ([] ++ l))
    (hC : Cur wo W5 τ1 τ5 (TX x.id) M base g dp f5 S5 I1) (h5 : Stp (fun t => t = 1 ∨ t = 5) w10 W5 τ4 τ5) (e4 : S5 4 = S1 4 ++ [s]) (e5 : S5 5 = S1 5 ++ [s']) (e6 : S5 6 = S1 6) (e7 : S5 7 = S1 7) (e8 : S5 8 = S1 8) :
    Bs W5 τ5 M base g dp f5 S5 I1 ws (os1 ++ [⟨x.id, s, s'⟩]) b fr0 where
  inv := hC.inv
  con := by
    have hx : ∀ {l0 : List Int} {s0 : Sl}, Kd.V kB 0 wr 0 (Tg τ2 x.id) s0.v l0 → Kd.V kB 0 W5 0 (Tg τ5 x.id) s0.v l0 := fun h => h5.V (by omega) (h4.V (fun e => e) (h3.V (by omega) h))
    refine hB.con.grow (gs := s) (td := s') (l' := l) hC.stp (fun t ht => ?_) (fun l0 hl0 => hx (hG.keep l0 hl0)) (hx (rv hG.R)) (h5.V (by omega) hV)
    rcases ht with ht | ht
    · exact .inl ht
    · exact .inr ⟨ht.2.1, ht.2.2⟩
  e4 := by rw [e4, hB.e4]; simp
  e5 := by rw [e5, hB.e5]; simp
  e6 := by rw [e6, hB.e6]
  e7 := by rw [e7, hB.e7]
  e8 := by rw [e8, hB.e8]
  i9 := hB.i9
  i10 := hB.i10
  i11 := hB.i11
theorem TX.pos {x t : Nat} (h20 : 20 ≤ x) (h : TX x t) : t ≠ 0 := by
  rcases h with h | h
  · omega
  · exact h.1
/-- The rows Fresh and From are let go. -/
theorem Bs.let_go {W : World} {τ : Nat → Nat} {M base g : Nat} {dp : Int} {f : Nat → Value} {S : Nat → List Sl} {I : Nat → List Int} {ws : List It} {os : List Ou} {fr0 : List It} (h : Bs W τ M base g dp f S I ws os [] fr0) :
    Bs ((W.setCell ⟨g, 8, none⟩ (.slice none 0 0)).setCell ⟨g, 11, none⟩ (.slice none 0 0)) τ M base g dp (upd (upd f 8 (.slice none 0 0)) 11 (.slice none 0 0)) (upd S 8 []) (upd I 11 []) ws os [] [] ∧ Stp (fun t => t ≠ 0) W ((W.setCell ⟨g, 8, none⟩ (.slice none 0 0)).setCell ⟨g, 11, none⟩ (.slice none 0 0)) τ τ ∧ Below base W ((W.setCell ⟨g, 8, none⟩ (.slice none 0 0)).setCell ⟨g, 11, none⟩ (.slice none 0 0)) := by
  have h1 := h.inv.nilS (i := 8) (by decide) (by decide)
  have h2 := h1.nilI (i := 11) (by decide) (by decide)
  have s1 := stp_set h.inv 8 (.slice none 0 0)
  have s2 := stp_set h1 11 (.slice none 0 0)
  refine ⟨⟨h2, (h.con.step s1 (fun t e => by omega)).step s2 (fun t e => by omega), h.e4, h.e5, h.e6, h.e7, rfl, h.i9, h.i10, rfl⟩, (s1.trans s2).mono (fun t e => by omega), ?_⟩
  exact ((Below.refl base W).setCell (p := ⟨g, 8, none⟩) h.inv.bs _).setCell (p := ⟨g, 11, none⟩) h.inv.bs _
/-- What a walk of the book's leaves. -/
def GrPost (w : World) (τ : Nat → Nat) (M base g : Nat) (dp : Int) (ws : List It) (n : Nat) (e : Ending) (w' : World) : Prop :=
  e = .returned (.tuple #[]) ∧ ∃ τ' f' S' I' os', Bs w' τ' M base g dp f' S' I' ws os' [] [] ∧ os'.length = n ∧ Stp (fun t => t ≠ 0) w w' τ τ' ∧ Below base w w'
set_option maxHeartbeats 8000000 in
set_option maxRecDepth 100000 in
theorem growBytes_calls {w : World} {τ : Nat → Nat} {M base g : Nat} {dp : Int} {f : Nat → Value} {S : Nat → List Sl} {I : Nat → List Int} {ws : List It} {os : List Ou} {fr0 : List It} (hb : Bs w τ M base g dp f S I ws os fr0 fr0) (hn : os.length + fr0.length ≤ 1000000) :
    Calls Tryz.prog 76 #[.pointer (some ⟨g, 0, none⟩)] w (GrPost w τ M base g dp ws (os.length + fr0.length)) := by
  have HB0 := Aside0.mk hb
  clear hb
  go_enter Tryz.func76, Tryz.ntmps76
  go_wp2_with fail
  go_loopw [2] (fun s wr => ∃ (k : Nat) (τ1 : Nat → Nat) (f1 : Nat → Value) (S1 : Nat → List Sl) (I1 : Nat → List Int) (os1 : List Ou), s = .int .i64 (k : Int) ∧ k ≤ fr0.length ∧ os1.length = os.length + k ∧ Aside0 (Bs wr τ1 M base g dp f1 S1 I1 ws os1 (fr0.drop k) fr0) ∧ Aside0 (Stp (fun t => t ≠ 0) w wr τ τ1) ∧ Aside0 (Below base w wr)) (fun s _ => fr0.length - (intOf s).toNat)
  case atStart => exact ⟨0, τ, f, S, I, os, rfl, Nat.zero_le _, by omega, HB0, ⟨Stp.refl _ _ _⟩, ⟨Below.refl _ _⟩⟩
  case round =>
    clear HB0
    obtain ⟨k, τ1, f1, S1, I1, os1, rfl, hk, ho1, HB, HS, HW⟩ := hrel
    have hM := HB.out.inv.mx
    obtain ⟨A8, q8, v8, c8, l8, hC8, hR8⟩ := HB.out.inv.cS (i := 8) (by decide) (by decide)
    obtain ⟨A11, q11, v11, c11, l11, hC11, hR11⟩ := HB.out.inv.cI (i := 11) (by decide) (by decide)
    rw [HB.out.e8, List.length_map] at v8 c8 l8 hC8 hR8
    rw [HB.out.i11] at v11 c11 l11 hC11 hR11
    by_cases hlt : k < fr0.length
    · obtain ⟨x, hx⟩ : ∃ x, fr0[k]? = some x := ⟨_, List.getElem?_eq_getElem hlt⟩
      have HD := Aside0.mk (drop_cons hx)
      obtain ⟨lx, hH⟩ := HB.out.con.r x (by rw [HD.out]; simp)
      obtain ⟨ad, ea, hx8⟩ := sl_at hC8 k hlt (x := x.s) (by rw [List.getElem?_map, hx]; rfl)
      obtain ⟨bd, eb, hx11⟩ := int_at hC11 k hlt
      subst ea eb
      obtain ⟨m, hm⟩ : ∃ m, (I1 11).getD k 0 = m := ⟨_, rfl⟩
      rw [hm] at hx11
      have hns := R_sl hH.2.2.2
      have hnx : x.s.n ≤ LB := by have := hH.2.2.1; omega
      have HG : Aside0 (Gr wr wr τ1 τ1 M base x (.slice x.s.A x.s.n x.s.c) lx) := ⟨⟨hH.2.2.2, Stp.refl _ _ _, fun _ h => h, Below.refl _ _, by omega, fun ad ea h0 => by
        obtain ⟨b, e1, _⟩ := cell_prefix (A := x.s.A) (n := x.s.n) (c := x.s.c) hH.2.2.2 0 (by omega)
        rw [e1] at ea
        injection ea with ea
        subst ea
        exact ⟨rfl, rfl⟩, HB.out.inv.new, HB.out.inv.tm⟩⟩
      have HX := Aside0.mk hH
      have hlx : lx.length = x.s.n := hns.1.symm
      have HM := Aside0.mk hH.2.1
      have H20 := Aside0.mk hH.1
      clear hC8 hR8 hC11 hR11 hm hH hns
      go_wp2_with fail
      obtain ⟨wo, rfl⟩ : ∃ wo, wo = wr := ⟨_, rfl⟩
      go_loopw [4, 5] (fun s4 s5 wr => ∃ (i : Nat) (l : List Int) (τ2 : Nat → Nat), s5 = .int .i64 (i : Int) ∧ i ≤ 150 ∧ Aside0 (l.length = lx.length + i) ∧ Aside0 (Gr wo wr τ1 τ2 M base x s4 l)) (fun _ s5 _ => 150 - (intOf s5).toNat)
      case atStart => exact ⟨0, lx, τ1, rfl, by omega, ⟨by omega⟩, HG⟩
      case round =>
        clear HG
        obtain ⟨i, l, τ2, rfl, hi, hl, HG⟩ := hrel
        obtain ⟨A2, n2, c2, ev, HN⟩ := R_sliceN HG.out.R
        subst ev
        have HL : Aside0 (l.length + 1 ≤ 140737488355328) := ⟨by have z := hl.out; unfold LB at hnx; omega⟩
        have HZ : Aside0 (base ≤ wr.heap.size) := ⟨Nat.le_trans HB.out.inv.size HG.out.bel.size⟩
        by_cases hlt2 : i < 150
        · go_wp2_with ((with_reducible refine gate_builtin (b := .append) (xs := #[.tmp 33, .tmp 40]) rfl ?_); at_builtin; go_must (refine R_append_byte (w0 := wo) base rfl (.tmp 33) (.tmp 40) 25 5 rfl Tryz.underlying25 infoB _ l _ (fun k => Tg τ2 x.id k ∨ wr.heap.size ≤ k) rfl rfl (fun _ hk => .inr hk) (Kd.R_mono HG.out.R (fun _ hk => .inl hk)) HG.out.bel HZ.out HL.out ?_); intro v1 w1 ho hb hg hg1 hat; (obtain ⟨A3, n3, c3, ev, HN3⟩ := R_sliceN ho); subst ev; (have HG1 := Aside0.mk (HG.out.step HM.out ho hb hg hg1 hat)); clear ho hb hg hg1 hat)
          go_roundw
          case rel =>
            refine ⟨i + 1, _, _, by go_num, by omega, ⟨?_⟩, HG1⟩
            rw [List.length_append, hl.out]
            rfl
          case measure => simp [intOf]; omega
        · obtain rfl : i = 150 := by omega
          have HC : Aside0 (Cur wo wr τ1 τ2 (TX x.id) M base g dp f1 S1 I1) := ⟨⟨HB.out.inv.stp HG.out.stp (fun t ht => by have := H20.out; omega) HG.out.new HG.out.tm, HG.out.stp.mono (fun _ h => .inl h), HG.out.bel⟩⟩
          obtain ⟨A4, q4, v4, c4, l4, hC4, hR4⟩ := HC.out.inv.cS (i := 4) (by decide) (by decide)
          obtain ⟨n4, hn4⟩ : ∃ n, (S1 4).length = n := ⟨_, rfl⟩
          rw [hn4] at v4 c4 l4 hR4
          have HF4 := Aside0.mk v4
          have HR4 := Aside0.mk hR4
          have HL4 : Aside0 ((S1 4).length ≤ 1000000) := ⟨by rw [HB.out.e4, List.length_map]; omega⟩
          have HT : ∀ t, (t ≠ 0 ∧ t ≠ 2 ∧ t < 20) → TX x.id t := fun t h => .inr h
          clear hC4 hR4 v4 c8 c11 hx8 hx11 hn4
          go_wp2_with ((with_reducible refine gate_builtin (b := .append) (xs := #[.tmp 46, .tmp 48]) rfl ?_); at_builtin; go_must (refine Kd.R_append kS (w0 := wo) base rfl (.tmp 46) (.tmp 48) 28 25 (.slice none 0 0) 24 rfl Tryz.underlying28 infoS rfl (by decide) (by decide) (.slice A4 n4 q4) (S1 4) ⟨A2, n2, c2⟩ [.slice A2 n2 c2] (fun k => Tg τ2 4 k ∨ wr.heap.size ≤ k) (fun _ => False) rfl rfl rfl (fun _ hk => hk.elim) (fun _ hk => .inr hk) (Kd.R_mono HR4.out (fun _ hk => .inl hk)) HC.out.bel HC.out.inv.size (by have z := HL4.out; omega) ?_); intro v9 w9 ho hb hg hat; (obtain ⟨A9, n9, c9, ev, HN9⟩ := R_sliceN ho); subst ev; (have HP9 := Aside0.mk (HC.out.pushS (i := 4) (by decide) (by decide) (HT 1 (by decide)) (HT 4 (by decide)) HF4.out ho hg hb)); (obtain ⟨e9, f9⟩ := HC.out.inv.stS (i := 4) (by decide) (by decide) HF4.out hg); clear ho hb hg hat)
          generalize (w9.setCell ⟨g, 4, none⟩ (Value.slice A9 n9 c9)) = W3 at HP9 ⊢
          have HC3 := Aside0.mk HP9.out.1
          have HS3 := Aside0.mk HP9.out.2
          obtain ⟨A5, q5, v5, c5, l5, hC5, hR5⟩ := HC3.out.inv.cS (i := 5) (by decide) (by decide)
          have hu5 : upd S1 4 (S1 4 ++ [⟨A2, n2, c2⟩]) 5 = S1 5 := rfl
          rw [hu5] at v5 c5 l5 hC5 hR5
          obtain ⟨n5, hn5⟩ : ∃ n, (S1 5).length = n := ⟨_, rfl⟩
          rw [hn5] at v5 c5 l5 hR5
          have HF5 := Aside0.mk v5
          have HR5 := Aside0.mk hR5
          have HL5 : Aside0 ((S1 5).length ≤ 1000000) := ⟨by rw [HB.out.e5, List.length_map]; omega⟩
          clear hC5 hR5 v5 c4 hn5 hu5 HP9 e9 f9
          have hCl := (R_sl (s := ⟨A2, n2, c2⟩) HG.out.R)
          have HCl : Aside0 (Kd.C kB (W3.drew.alloc (.cells #[] 5)) A2 n2 l) := ⟨by
            have z := hCl.2.2
            rw [← HN.out] at z
            exact Kd.C_below (HS3.out.V (t := x.id) (fun e => by have := H20.out; omega) (rv HG.out.R) |> fun h => by have y := (V_sl (s := ⟨A2, n2, c2⟩) h).2.2; rw [← HN.out] at y; exact y) (lit_below W3)⟩
          have HLn : Aside0 (n2 + 1 ≤ 140737488355328) := ⟨by rw [HN.out]; exact HL.out⟩
          have c5a : (W3.alloc (.cells #[] 5)).cell? ⟨g, 5, none⟩ = some (.slice A5 n5 q5) := pw_cell_below (below_alloc (Below.refl _ _) _) c5
          clear hCl
          go_region_law (first | ((try rw [show (W3.alloc (.cells #[] 5)).drew = W3.drew.alloc (.cells #[] 5) from rfl]); refine Kd.R_append_rows_step kB (w0 := W3) W3.heap.size (by rfl) (.tmp 57) (.tmp 58) 25 5 (.int .u8 0) 1 rfl Tryz.underlying25 infoB rfl (by decide) (by decide) (.slice (some ⟨W3.heap.size, 0, none⟩) 0 0) ([] : List Int) l A2 n2 c2 (fun _ => True) (fun _ => False) (by rfl) (by rfl) (lit_row W3.drew W3.heap.size (Nat.le_refl _)) HCl.out (fun _ _ h => h) (fun _ h => h.elim) (fun _ _ => trivial) (lit_below W3) (lit_size W3) (by have z := HLn.out; simp only [List.length_nil, Nat.zero_add, Nat.mul_one]; omega) ?_; intro v10 w10 ho hb hg hat; (obtain ⟨A10, n10, c10, ev, HN10⟩ := R_sliceN ho); subst ev; (have HQ10 := Aside0.mk (HC3.out.fresh hb (t := 2) (Nat.lt_of_lt_of_le (by decide) HC3.out.inv.mx))); (have HV10 := Aside0.mk (rv (R_new (τ := (newT τ2 wr w9 4)) (t := 2) ho))); (have HZ10 := Aside0.mk (HQ10.out.1.inv.rs 5 (by decide) (by decide))); rw [HF5.out] at HZ10; (have b10 := HQ10.out.1.inv.blk.cell 5 (by decide)); rw [HF5.out] at b10; (have d10 : (w10.alloc (.cells #[.slice A10 n10 c10] 25)).cell? ⟨g, 5, none⟩ = some (.slice A5 n5 q5) := pw_cell_below (below_alloc (Below.refl _ _) _) b10); clear ho hb hg hat) | (refine Kd.R_append_step kS (w0 := wo) base (by rfl) (.tmp 56) (.tmp 60) 28 25 (.slice none 0 0) 24 rfl Tryz.underlying28 infoS rfl (by decide) (by decide) (.slice A5 n5 q5) (S1 5) ⟨A10, n10, c10⟩ [.slice A10 n10 c10] (fun k => Tg (newT (newT τ2 wr w9 4) W3 w10 2) 5 k ∨ w10.heap.size ≤ k) (fun _ => False) (by rfl) (by rfl) rfl (fun _ h => h.elim) (fun _ h => .inr h) (Kd.R_mono HZ10.out (fun _ h => .inl h)) HQ10.out.1.bel HQ10.out.1.inv.size (by have z := HL5.out; omega) ?_; intro v11 w11 ho hb hg hat; (obtain ⟨A11, n11, c11, ev, HN11⟩ := R_sliceN ho); subst ev; (have HP11 := Aside0.mk (HQ10.out.1.pushS (i := 5) (by decide) (by decide) (HT 1 (by decide)) (HT 5 (by decide)) HF5.out ho hg hb)); (obtain ⟨e11, f11⟩ := HQ10.out.1.inv.stS (i := 5) (by decide) (by decide) HF5.out hg); clear ho hb hg hat))
          all_goals (try go_wp2_with fail)
          all_goals (obtain ⟨wr, rfl⟩ : ∃ w0, w0 = wo := ⟨_, rfl⟩)
          all_goals go_roundw
          all_goals first
            | (case rel =>
                have hBd := HB.out
                rw [HD.out] at hBd
                refine ⟨k + 1, _, _, _, _, _, by go_num, by omega, ?_, ⟨hBd.grown (s := ⟨A2, n2, c2⟩) (s' := ⟨A10, n10, c10⟩) HG.out H20.out HS3.out HQ10.out.2 HV10.out HP11.out.1 HP11.out.2 rfl rfl rfl rfl rfl⟩, ⟨(HS.out.trans HP11.out.1.stp).mono (fun t e => e.elim id (TX.pos H20.out))⟩, ⟨HW.out.trans HP11.out.1.bel⟩⟩
                rw [List.length_append, ho1]; rfl)
            | (case measure => simp [intOf]; omega)
    · obtain rfl : k = fr0.length := by omega
      have f8 := HB.out.inv.blk.fr 8
      have f11 := HB.out.inv.blk.fr 11
      have hBd := HB.out
      rw [List.drop_length] at hBd
      have HE := Aside0.mk hBd.let_go
      have c11' : (wr.setCell ⟨g, 8, none⟩ (.slice none 0 0)).cell? ⟨g, 11, none⟩ = some (.slice A11 fr0.length q11) := by
        rw [(hBd.inv.blk.set 8 (.slice none 0 0)).cell 11 (by decide)]
        exact congrArg some v11
      have f11' : (wr.setCell ⟨g, 8, none⟩ (.slice none 0 0)).frozen? ⟨g, 11, none⟩ = false := (hBd.inv.blk.set 8 (.slice none 0 0)).fr 11
      clear hC8 hR8 hC11 hR11 hBd v8 v11 hk hlt
      go_wp2_with fail
      first | go_end0 | refine bodyPost_ret (results_none rfl _ _ _) rfl ?_
      exact ⟨rfl, _, _, _, _, os1, HE.out.1, by omega, (HS.out.trans HE.out.2.1).mono (fun t e => e.elim id id), HW.out.trans HE.out.2.2⟩
end Go.Proofs.YtlcohooognjmaaaGreatDoor.Kb
namespace Go.Proofs.YtlcohooognjmaaaGreatDoor.Kb
open Go.RowKit Go.Proofs.YtlcohooognjmaaaGreatDoorW.PrintWords Go.Proofs.YtlcohooognjmaaaGreatDoor.Own Go.Proofs.YtlcohooognjmaaaGreatDoor.Wk
set_option linter.unusedVariables false
/-- What is nobody's of the book stays so. -/
structure Frm (w W : World) (τ τ' : Nat → Nat) : Prop where
  size : w.heap.size ≤ W.heap.size
  keep : ∀ k, k < w.heap.size → τ k = 0 → W.heap[k]? = w.heap[k]? ∧ τ' k = 0
section
variable {w W W' : World} {τ τ' τ2 : Nat → Nat} {T : Nat → Prop}
theorem Frm.refl (W : World) (τ : Nat → Nat) : Frm W W τ τ := ⟨Nat.le_refl _, fun _ _ h => ⟨rfl, h⟩⟩
theorem Frm.trans (h : Frm w W τ τ') (h2 : Frm W W' τ' τ2) : Frm w W' τ τ2 := by
  have h0 := h.size
  refine ⟨Nat.le_trans h.size h2.size, fun k hk ht => ?_⟩
  obtain ⟨a1, a2⟩ := h.keep k hk ht
  obtain ⟨b1, b2⟩ := h2.keep k (by omega) a2
  exact ⟨b1.trans a1, b2⟩
theorem Stp.frm (h : Stp T w W τ τ') (hT : ¬ T 0) : Frm w W τ τ' := ⟨h.1, fun k hk ht => ⟨h.2.1 k hk (by rw [ht]; exact hT), by rw [h.2.2 k hk]; exact ht⟩⟩
end
/-- The marks of the rows that are let go. -/
def ret (τ : Nat → Nat) (k : Nat) : Nat := if τ k = 6 then 12 else if τ k = 7 then 13 else if τ k = 9 then 15 else if τ k = 10 then 16 else τ k
theorem ret_same {τ : Nat → Nat} {t : Nat} (h : t ≠ 6 ∧ t ≠ 7 ∧ t ≠ 9 ∧ t ≠ 10) : ∀ k, Tg τ t k → Tg (ret τ) t k := fun k hk => by
  have hk' : τ k = t := hk
  show ret τ k = t
  unfold ret
  rw [hk', if_neg h.1, if_neg h.2.1, if_neg h.2.2.1, if_neg h.2.2.2]
def nil4 (W : World) (g : Nat) : World := (((W.setCell ⟨g, 6, none⟩ (.slice none 0 0)).setCell ⟨g, 7, none⟩ (.slice none 0 0)).setCell ⟨g, 9, none⟩ (.slice none 0 0)).setCell ⟨g, 10, none⟩ (.slice none 0 0)
/-- While the lists that waited are gone through: those ahead of k that still wait are kept. -/
structure Ms (W : World) (τ : Nat → Nat) (M base g : Nat) (dp : Int) (f : Nat → Value) (S : Nat → List Sl) (I : Nat → List Int) (ws0 : List It) (k : Nat) (kept : List It) (os : List Ou) (fr : List It) (v6 v7 v9 v10 : Value) (Lm Ld : List Int) : Prop where
  inv : Inv W τ M base g dp f S I
  con : Con W τ M base (kept ++ ws0.drop k) os fr
  e4 : S 4 = os.map Ou.s
  e5 : S 5 = os.map Ou.td
  e6 : S 6 = kept.map It.s
  e7 : S 7 = kept.map It.nt
  e8 : S 8 = fr.map It.s
  i9 : (I 9).length = kept.length
  i10 : (I 10).length = kept.length
  i11 : (I 11).length = fr.length
  o6 : Kd.V kS 0 W 0 (Tg τ 12) v6 (ws0.map It.s)
  o7 : Kd.V kS 0 W 0 (Tg τ 13) v7 (ws0.map It.nt)
  o9 : Kd.V kI 0 W 0 (Tg τ 15) v9 Lm
  o10 : Kd.V kI 0 W 0 (Tg τ 16) v10 Ld
theorem Con.retag {W : World} {τ : Nat → Nat} {M base : Nat} {ws fr : List It} {os : List Ou} (h : Con W τ M base ws os fr) : Con W (ret τ) M base ws os fr where
  w := fun x hx => by
    obtain ⟨l, h1, h2⟩ := h.w x hx
    have := h1.1
    exact ⟨l, ⟨h1.1, h1.2.1, h1.2.2.1, Kd.R_mono h1.2.2.2 (ret_same (by omega))⟩, Kd.V_mono h2 (ret_same (by omega))⟩
  o := fun x hx => by
    obtain ⟨h1, h2, l, h3, h4⟩ := h.o x hx
    exact ⟨h1, h2, l, Kd.V_mono h3 (ret_same (by omega)), Kd.V_mono h4 (ret_same (by omega))⟩
  r := fun x hx => by
    obtain ⟨l, h1⟩ := h.r x hx
    have := h1.1
    exact ⟨l, h1.1, h1.2.1, h1.2.2.1, Kd.R_mono h1.2.2.2 (ret_same (by omega))⟩
  ids := h.ids
  ow := h.ow
  of := h.of
theorem Bs.begin {W : World} {τ : Nat → Nat} {M base g : Nat} {dp : Int} {f : Nat → Value} {S : Nat → List Sl} {I : Nat → List Int} {ws : List It} {os : List Ou} (h : Bs W τ M base g dp f S I ws os [] []) :
    ∃ f', Ms (nil4 W g) (ret τ) M base g dp f' (upd (upd S 6 []) 7 []) (upd (upd I 9 []) 10 []) ws 0 [] os [] (f 6) (f 7) (f 9) (f 10) (I 9) (I 10) ∧ Frm W (nil4 W g) τ (ret τ) ∧ Below base W (nil4 W g) := by
  have h1 := h.inv.nilS (i := 6) (by decide) (by decide)
  have h2 := h1.nilS (i := 7) (by decide) (by decide)
  have h3 := h2.nilI (i := 9) (by decide) (by decide)
  have h4 := h3.nilI (i := 10) (by decide) (by decide)
  have s1 := stp_set h.inv 6 (.slice none 0 0)
  have s2 := stp_set h1 7 (.slice none 0 0)
  have s3 := stp_set h2 9 (.slice none 0 0)
  have s4 := stp_set h3 10 (.slice none 0 0)
  have s : Stp (fun t => t = 1) W (nil4 W g) τ τ := (((s1.trans s2).trans s3).trans s4).mono (fun t e => by omega)
  have r6 : ∀ k, Tg τ 6 k → Tg (ret τ) 12 k := fun k hk => by
    have hk' : τ k = 6 := hk
    show ret τ k = 12; unfold ret; rw [hk']; rfl
  have r7 : ∀ k, Tg τ 7 k → Tg (ret τ) 13 k := fun k hk => by
    have hk' : τ k = 7 := hk
    show ret τ k = 13; unfold ret; rw [hk']; rfl
  have r9 : ∀ k, Tg τ 9 k → Tg (ret τ) 15 k := fun k hk => by
    have hk' : τ k = 9 := hk
    show ret τ k = 15; unfold ret; rw [hk']; rfl
  have r10 : ∀ k, Tg τ 10 k → Tg (ret τ) 16 k := fun k hk => by
    have hk' : τ k = 10 := hk
    show ret τ k = 16; unfold ret; rw [hk']; rfl
  have hmx := h.inv.mx
  refine ⟨_, ⟨{ blk := h4.blk, bs := h4.bs, tg := ret_same (t := 1) (by omega) g h4.tg, new := fun k hk => ret_same (t := 0) (by omega) k (h4.new k hk), mx := h4.mx, tm := fun k => ?_, c0 := h4.c0, c1 := h4.c1, c2 := h4.c2, c3 := h4.c3, c12 := h4.c12, ct := h4.ct, rs := fun i a b => ?_, ri := fun i a b => ?_ }, ?_, h.e4, h.e5, rfl, rfl, h.e8, rfl, rfl, h.i11, ?_, ?_, ?_, ?_⟩, ⟨s.1, fun k hk ht => ⟨s.2.1 k hk (by omega), ret_same (t := 0) (by omega) k ht⟩⟩, ?_⟩
  · have := h.inv.tm k
    unfold ret
    repeat' split
    all_goals omega
  · by_cases e6 : i = 6
    · subst e6; exact Kd.R_nil _ _ _ _ _
    · by_cases e7 : i = 7
      · subst e7; exact Kd.R_nil _ _ _ _ _
      · exact Kd.R_mono (h4.rs i a b) (ret_same (by omega))
  · by_cases e9 : i = 9
    · subst e9; exact Kd.R_nil _ _ _ _ _
    · by_cases e10 : i = 10
      · subst e10; exact Kd.R_nil _ _ _ _ _
      · exact Kd.R_mono (h4.ri i a b) (ret_same (by omega))
  · rw [List.nil_append, List.drop_zero]
    exact (h.con.step s (fun t e => by omega)).retag
  · rw [← h.e6]; exact Kd.V_mono (s.V (by omega) (rv (h.inv.rs 6 (by decide) (by decide)))) r6
  · rw [← h.e7]; exact Kd.V_mono (s.V (by omega) (rv (h.inv.rs 7 (by decide) (by decide)))) r7
  · exact Kd.V_mono (s.V (by omega) (rv (h.inv.ri 9 (by decide) (by decide)))) r9
  · exact Kd.V_mono (s.V (by omega) (rv (h.inv.ri 10 (by decide) (by decide)))) r10
  · exact ((((Below.refl base W).setCell (p := ⟨g, 6, none⟩) h.inv.bs _).setCell (p := ⟨g, 7, none⟩) h.inv.bs _).setCell (p := ⟨g, 9, none⟩) h.inv.bs _).setCell (p := ⟨g, 10, none⟩) h.inv.bs _
theorem V_sl_at {W : World} {ok : Nat → Prop} {A : Option Addr} {n q k : Nat} {L : List Sl} {x : Sl} (h : Kd.V kS 0 W 0 ok (.slice A n q) L) (hx : L[k]? = some x) : ∃ ad, A = some ad ∧ W.cell? (ad.add k) = some (.slice x.A x.n x.c) := by
  obtain ⟨h1, h2, h3⟩ := Kd.V_reads' h
  obtain ⟨hk, _⟩ := List.getElem?_eq_some_iff.1 hx
  exact sl_at h3 k hk hx
theorem V_sl_on {W : World} {ok : Nat → Prop} {ad : Addr} {n q k : Nat} {L : List Sl} {x : Sl} (h : Kd.V kS 0 W 0 ok (.slice (some ad) n q) L) (hx : L[k]? = some x) : W.cell? (ad.add k) = some (.slice x.A x.n x.c) := by
  obtain ⟨ad', e, h1⟩ := V_sl_at h hx
  injection e with e
  subst e
  exact h1
theorem V_int_at {W : World} {ok : Nat → Prop} {A : Option Addr} {n q k : Nat} {L : List Int} (h : Kd.V kI 0 W 0 ok (.slice A n q) L) (hk : k < L.length) : ∃ ad, A = some ad ∧ W.cell? (ad.add k) = some (.int .i64 (L.getD k 0)) := by
  obtain ⟨h1, h2, h3⟩ := Kd.V_reads' h
  exact int_at h3 k hk
theorem V_int_on {W : World} {ok : Nat → Prop} {ad : Addr} {n q k : Nat} {L : List Int} (h : Kd.V kI 0 W 0 ok (.slice (some ad) n q) L) (hk : k < L.length) : W.cell? (ad.add k) = some (.int .i64 (L.getD k 0)) := by
  obtain ⟨ad', e, h1⟩ := V_int_at h hk
  injection e with e
  subst e
  exact h1
/-- What a list that waits on may turn. -/
def TK (t : Nat) : Prop := t ≠ 0 ∧ t ≠ 2 ∧ t < 12
/-- What a list that is written may turn. -/
def TY (x t : Nat) : Prop := t = x ∨ (t ≠ 0 ∧ t ≠ 2 ∧ t < 12)
section
variable {wr W W5 : World} {τ1 τ5 : Nat → Nat} {M base g : Nat} {dp : Int} {f f5 : Nat → Value} {S S5 : Nat → List Sl} {I I5 : Nat → List Int} {ws0 kept : List It} {os : List Ou} {fr : List It} {k : Nat} {x : It} {v6 v7 v9 v10 : Value} {Lm Ld : List Int}
theorem Ms.heap (h : Ms wr τ1 M base g dp f S I ws0 k kept os fr v6 v7 v9 v10 Lm Ld) (he : W.heap = wr.heap) : Ms W τ1 M base g dp f S I ws0 k kept os fr v6 v7 v9 v10 Lm Ld := by
  have hs : Stp (fun _ => False) wr W τ1 τ1 := (Stp.refl _ wr τ1).heap he
  exact { h with
    inv := h.inv.heap he
    con := h.con.step hs (fun t e => e.elim)
    o6 := hs.V (fun e => e) h.o6
    o7 := hs.V (fun e => e) h.o7
    o9 := hs.V (fun e => e) h.o9
    o10 := hs.V (fun e => e) h.o10 }
theorem Ms.keep (h : Ms wr τ1 M base g dp f S I ws0 k kept os fr v6 v7 v9 v10 Lm Ld) (hx : ws0[k]? = some x) (hC : Cur wr W5 τ1 τ5 TK M base g dp f5 S5 I5) (e4 : S5 4 = S 4) (e5 : S5 5 = S 5) (e6 : S5 6 = S 6 ++ [x.s]) (e7 : S5 7 = S 7 ++ [x.nt]) (e8 : S5 8 = S 8)
    (i9 : (I5 9).length = (I 9).length + 1) (i10 : (I5 10).length = (I 10).length + 1) (i11 : (I5 11).length = (I 11).length) : Ms W5 τ5 M base g dp f5 S5 I5 ws0 (k + 1) (kept ++ [x]) os fr v6 v7 v9 v10 Lm Ld where
  inv := hC.inv
  con := by
    have h1 := h.con.step hC.stp (fun t ht => ⟨ht.2.1, by have := ht.2.2; omega⟩)
    rw [drop_cons hx] at h1
    rw [List.append_assoc]
    exact h1
  e4 := by rw [e4, h.e4]
  e5 := by rw [e5, h.e5]
  e6 := by rw [e6, h.e6]; simp
  e7 := by rw [e7, h.e7]; simp
  e8 := by rw [e8, h.e8]
  i9 := by rw [i9, h.i9]; simp
  i10 := by rw [i10, h.i10]; simp
  i11 := by rw [i11, h.i11]
  o6 := hC.stp.V (fun ht => by have := ht.2.2; omega) h.o6
  o7 := hC.stp.V (fun ht => by have := ht.2.2; omega) h.o7
  o9 := hC.stp.V (fun ht => by have := ht.2.2; omega) h.o9
  o10 := hC.stp.V (fun ht => by have := ht.2.2; omega) h.o10
theorem TY.no {x t : Nat} (h20 : 20 ≤ x) (h1 : 12 ≤ t) (h2 : t < 20) : ¬ TY x t := fun h => by
  rcases h with h | h <;> omega
theorem Ms.mark (h : Ms wr τ1 M base g dp f S I ws0 k kept os fr v6 v7 v9 v10 Lm Ld) (hx : ws0[k]? = some x) (h20 : 20 ≤ x.id) (hC : Cur wr W5 τ1 τ5 (TY x.id) M base g dp f5 S5 I5) {l' : List Int} {td : Sl} (hR : Kd.R kB 5 W5 base (Tg τ5 x.id) x.s.v l') (hl : l'.length ≤ LB) (hV : Kd.V kB 0 W5 0 (Tg τ5 2) td.v l')
    (e4 : S5 4 = S 4 ++ [x.s]) (e5 : S5 5 = S 5 ++ [td]) (e6 : S5 6 = S 6) (e7 : S5 7 = S 7) (e8 : S5 8 = S 8 ++ [x.s]) (i9 : (I5 9).length = (I 9).length) (i10 : (I5 10).length = (I 10).length) (i11 : (I5 11).length = (I 11).length + 1) :
    Ms W5 τ5 M base g dp f5 S5 I5 ws0 (k + 1) kept (os ++ [⟨x.id, x.s, td⟩]) (fr ++ [x]) v6 v7 v9 v10 Lm Ld where
  inv := hC.inv
  con := by
    have h1 := h.con
    rw [drop_cons hx] at h1
    exact h1.mark hl hC.stp (fun t ht => by
      rcases ht with ht | ht
      · exact .inl ht
      · exact .inr ⟨ht.2.1, by have := ht.2.2; omega⟩) hR hV
  e4 := by rw [e4, h.e4]; simp
  e5 := by rw [e5, h.e5]; simp
  e6 := by rw [e6, h.e6]
  e7 := by rw [e7, h.e7]
  e8 := by rw [e8, h.e8]; simp
  i9 := by rw [i9, h.i9]
  i10 := by rw [i10, h.i10]
  i11 := by rw [i11, h.i11]; simp
  o6 := hC.stp.V (TY.no h20 (by decide) (by decide)) h.o6
  o7 := hC.stp.V (TY.no h20 (by decide) (by decide)) h.o7
  o9 := hC.stp.V (TY.no h20 (by decide) (by decide)) h.o9
  o10 := hC.stp.V (TY.no h20 (by decide) (by decide)) h.o10
theorem Ms.done (h : Ms wr τ1 M base g dp f S I ws0 ws0.length kept os fr v6 v7 v9 v10 Lm Ld) : Bs wr τ1 M base g dp f S I kept os fr fr := by
  have hc := h.con
  rw [List.drop_length, List.append_nil] at hc
  exact ⟨h.inv, hc, h.e4, h.e5, h.e6, h.e7, h.e8, h.i9, h.i10, h.i11⟩
end
/-- Within one list's writing. -/
structure Mk (wo W : World) (τ1 : Nat → Nat) (base : Nat) (x : It) (l : List Int) : Prop where
  R : Kd.R kB 5 W base (Tg τ1 x.id) x.s.v l
  len : l.length = x.s.n
  stp : Stp (fun t => t = x.id) wo W τ1 τ1
  bel : Below base wo W
theorem Mk.at_ {wo W : World} {τ1 : Nat → Nat} {base : Nat} {x : It} {l : List Int} (h : Mk wo W τ1 base x l) {i : Nat} (hi : i < x.s.n) : ∃ ad, x.s.A = some ad ∧ W.cell? (ad.add i) = some (.int .u8 (l.getD i 0)) ∧ W.frozen? (ad.add i) = false ∧
    ∀ y : Int, Mk wo (W.setCell (ad.add i) (.int .u8 y)) τ1 base x (l.set i y) := by
  obtain ⟨hR, hl, hs, hb⟩ := h
  obtain ⟨xid, ⟨A, n, c⟩, nt⟩ := x
  have hl' : l.length = n := hl
  have hi' : i < n := hi
  obtain ⟨b, eb, hc⟩ := cell_prefix (A := A) (n := n) (c := c) hR i (by omega)
  subst eb
  obtain ⟨inner, ho⟩ := Kd.R_own hR
  obtain ⟨cs, hcs⟩ := own_typed ho b rfl
  refine ⟨_, rfl, by rw [add_plain]; exact hc, by rw [add_plain]; exact blk_frozen hcs i, fun y => ?_⟩
  rw [add_plain]
  have hR' : Kd.R kB 5 W base (Tg τ1 xid) (.slice (some ⟨b, 0, none⟩) n c) l := hR
  have hp := Kd.R_putn (i := (i : Int)) (x := y) hR'
  rw [Int.toNat_natCast] at hp
  have hbt : τ1 b = xid := hR'.1 b rfl
  have hbb : base ≤ b := own_base ho b rfl
  have hst : Stp (fun t => t = xid) W (W.setCell ⟨b, i, none⟩ (.int .u8 y)) τ1 τ1 := ⟨by simp [World.setCell], fun k hk ht => Below.heap_setCell W ⟨b, i, none⟩ _ k (fun e => ht (by have e' : k = b := e; rw [e']; exact hbt)), fun _ _ => rfl⟩
  exact ⟨hp, by rw [List.length_set]; exact hl, (hs.trans hst).mono (fun t e => e.elim id id), hb.setCell (p := ⟨b, i, none⟩) hbb _⟩
theorem Mk.cur {wo W : World} {τ1 : Nat → Nat} {M base g : Nat} {dp : Int} {f : Nat → Value} {S : Nat → List Sl} {I : Nat → List Int} {x : It} {l : List Int} (h : Mk wo W τ1 base x l) (h20 : 20 ≤ x.id) (hI : Inv wo τ1 M base g dp f S I) : Cur wo W τ1 τ1 (TY x.id) M base g dp f S I := by
  have h0 := h.stp.1
  exact ⟨hI.stp h.stp (fun t e => by omega) (fun k hk => hI.new k (by omega)) hI.tm, h.stp.mono (fun t e => .inl e), h.bel⟩
end Go.Proofs.YtlcohooognjmaaaGreatDoor.Kb
namespace Go.Proofs.YtlcohooognjmaaaGreatDoor.Kb
open Go.RowKit Go.Proofs.YtlcohooognjmaaaGreatDoorW.PrintWords Go.Proofs.YtlcohooognjmaaaGreatDoor.Own Go.Proofs.YtlcohooognjmaaaGreatDoor.Wk
set_option linter.unusedVariables false
def MkPost (w : World) (τ : Nat → Nat) (M base g : Nat) (dp : Int) (n : Nat) (e : Ending) (w' : World) : Prop :=
  e = .returned (.tuple #[]) ∧ ∃ τ' f' S' I' ws' os' fr', Bs w' τ' M base g dp f' S' I' ws' os' fr' fr' ∧ 2 * ws'.length + os'.length + fr'.length = n ∧ Frm w w' τ τ' ∧ Below base w w'
set_option maxHeartbeats 16000000 in
set_option maxRecDepth 100000 in
theorem markBytes_calls {w : World} {τ : Nat → Nat} {M base g : Nat} {dp : Int} {f : Nat → Value} {S : Nat → List Sl} {I : Nat → List Int} {ws0 : List It} {os : List Ou} (hb : Bs w τ M base g dp f S I ws0 os [] []) (hn : 2 * ws0.length + os.length ≤ 1000000) :
    Calls Tryz.prog 57 #[.pointer (some ⟨g, 0, none⟩)] w (MkPost w τ M base g dp (2 * ws0.length + os.length)) := by
  obtain ⟨A6, q6, v6, c6, l6, -, -⟩ := hb.inv.cS (i := 6) (by decide) (by decide)
  obtain ⟨A7, q7, v7, c7, l7, -, -⟩ := hb.inv.cS (i := 7) (by decide) (by decide)
  obtain ⟨A9, q9, v9, c9, l9, -, -⟩ := hb.inv.cI (i := 9) (by decide) (by decide)
  obtain ⟨A10, q10, v10, c10, l10, -, -⟩ := hb.inv.cI (i := 10) (by decide) (by decide)
  rw [hb.e6, List.length_map] at v6 c6 l6
  rw [hb.e7, List.length_map] at v7 c7 l7
  rw [hb.i9] at v9 c9 l9
  rw [hb.i10] at v10 c10 l10
  obtain ⟨fB, hMs, hFr, hBl⟩ := hb.begin
  rw [v6, v7, v9, v10] at hMs
  have f6 := hb.inv.blk.fr 6
  have b1 := hb.inv.blk.set 6 (.slice none 0 0)
  have c7' : (w.setCell ⟨g, 6, none⟩ (.slice none 0 0)).cell? ⟨g, 7, none⟩ = some (.slice A7 ws0.length q7) := (b1.cell 7 (by decide)).trans (congrArg some v7)
  have f7' := b1.fr 7
  have b2 := b1.set 7 (.slice none 0 0)
  have c9' : ((w.setCell ⟨g, 6, none⟩ (.slice none 0 0)).setCell ⟨g, 7, none⟩ (.slice none 0 0)).cell? ⟨g, 9, none⟩ = some (.slice A9 ws0.length q9) := (b2.cell 9 (by decide)).trans (congrArg some v9)
  have f9' := b2.fr 9
  have b3 := b2.set 9 (.slice none 0 0)
  have c10' : (((w.setCell ⟨g, 6, none⟩ (.slice none 0 0)).setCell ⟨g, 7, none⟩ (.slice none 0 0)).setCell ⟨g, 9, none⟩ (.slice none 0 0)).cell? ⟨g, 10, none⟩ = some (.slice A10 ws0.length q10) := (b3.cell 10 (by decide)).trans (congrArg some v10)
  have f10' := b3.fr 10
  have HB0 := Aside0.mk hb
  have HMs := Aside0.mk hMs
  have HFr := Aside0.mk hFr
  have HBl := Aside0.mk hBl
  have HLm := Aside0.mk hb.i9
  have HLd := Aside0.mk hb.i10
  clear hb v6 v7 v9 v10 b1 b2 b3 hMs hFr hBl
  by_cases h0 : ws0.length = 0
  · go_enter Tryz.func57, Tryz.ntmps57
    go_wp2_with fail
    first | go_end0 | refine bodyPost_ret (results_none rfl _ _ _) rfl ?_
    exact ⟨rfl, τ, f, S, I, ws0, os, [], HB0.out, by simp, Frm.refl _ _, Below.refl _ _⟩
  · have h0' : ((ws0.length : Int) == 0) = false := by rw [beq_eq_false_iff_ne]; omega
    clear HB0
    go_enter Tryz.func57, Tryz.ntmps57
    go_wp2_with fail
    go_loopw [6] (fun s wr => ∃ (k : Nat) (τ1 : Nat → Nat) (f1 : Nat → Value) (S1 : Nat → List Sl) (I1 : Nat → List Int) (kept : List It) (os1 : List Ou) (fr1 : List It), s = .int .i64 (k : Int) ∧ k ≤ ws0.length ∧ Aside0 (kept.length + fr1.length = k ∧ os1.length = os.length + fr1.length) ∧ Aside0 (Ms wr τ1 M base g dp f1 S1 I1 ws0 k kept os1 fr1 (.slice A6 ws0.length q6) (.slice A7 ws0.length q7) (.slice A9 ws0.length q9) (.slice A10 ws0.length q10) (I 9) (I 10)) ∧ Aside0 (Frm w wr τ τ1) ∧ Aside0 (Below base w wr)) (fun s _ => ws0.length - (intOf s).toNat)
    case atStart => exact ⟨0, _, _, _, _, [], os, [], rfl, Nat.zero_le _, ⟨rfl, rfl⟩, HMs, HFr, HBl⟩
    case round =>
      clear HMs HFr HBl c6 c7 c9 c10 f6 c7' f7' c9' f9' c10' f10' h0 h0'
      obtain ⟨k, τ1, f1, S1, I1, kept, os1, fr1, rfl, hk, HK, HMs, HFr, HBl⟩ := hrel
      by_cases hlt : k < ws0.length
      · obtain ⟨x, hx⟩ : ∃ x, ws0[k]? = some x := ⟨_, List.getElem?_eq_getElem hlt⟩
        obtain ⟨a6, e6, hx6⟩ := V_sl_at HMs.out.o6 (k := k) (x := x.s) (by rw [List.getElem?_map, hx]; rfl)
        obtain ⟨a7, e7, hx7⟩ := V_sl_at HMs.out.o7 (k := k) (x := x.nt) (by rw [List.getElem?_map, hx]; rfl)
        obtain ⟨a9, e9, hx9⟩ := V_int_at HMs.out.o9 (k := k) (by rw [HLm.out]; exact hlt)
        obtain ⟨a10, e10, hx10⟩ := V_int_at HMs.out.o10 (k := k) (by rw [HLd.out]; exact hlt)
        subst e6 e7 e9 e10
        obtain ⟨m, hm⟩ : ∃ m, (I 9).getD k 0 = m := ⟨_, rfl⟩
        obtain ⟨d, hd⟩ : ∃ d, (I 10).getD k 0 = d := ⟨_, rfl⟩
        rw [hm] at hx9
        rw [hd] at hx10
        obtain ⟨t, ht⟩ := HMs.out.inv.c2
        have c2 := HMs.out.inv.blk.cell 2 (by decide)
        rw [ht] at c2
        have HX := Aside0.mk hx
        have HD := Aside0.mk hd
        clear hm ht hx hd
        go_wp2_with fail
        go_quiet (fail)
        have HMs1 := Aside0.mk (HMs.out.heap (W := wr.drewN nq) rfl)
        have HFr1 : Aside0 (Frm w (wr.drewN nq) τ τ1) := ⟨HFr.out.trans ((Stp.frm (T := fun _ => False) ((Stp.refl _ wr τ1).heap rfl) (fun e => e)))⟩
        have HBl1 : Aside0 (Below base w (wr.drewN nq)) := ⟨pw_below_drewN HBl.out nq⟩
        clear hx6 hx7 hx9 hx10 c2 HMs HFr HBl
        generalize wr.drewN nq = wo at HMs1 HFr1 HBl1 ⊢
        clear nq wr
        obtain ⟨l0, hHot, hNote⟩ := HMs1.out.con.w x (by rw [drop_cons HX.out]; simp)
        have H20 := Aside0.mk hHot.1
        have HHot := Aside0.mk hHot
        have HNote := Aside0.mk hNote
        clear hHot hNote
        by_cases hgt : t < d
        · have hgt' : decide (t < d) = true := decide_eq_true hgt
          have HT : ∀ t, (t ≠ 0 ∧ t ≠ 2 ∧ t < 12) → TK t := fun t h => h
          have HC0 : Aside0 (Cur wo wo τ1 τ1 TK M base g dp f1 S1 I1) := ⟨Cur.refl HMs1.out.inv TK⟩
          obtain ⟨Ak6, qk6, vk6, ck6, lk6, hCk6, hRk6⟩ := HC0.out.inv.cS (i := 6) (by decide) (by decide)
          obtain ⟨Lk6, hLk6⟩ : ∃ L, S1 6 = L := ⟨_, rfl⟩
          change _ = Value.slice _ (List.length (S1 6)) _ at vk6
          change _ = some (Value.slice _ (List.length (S1 6)) _) at ck6
          change List.length (S1 6) ≤ _ at lk6
          change Kd.R _ _ _ _ _ (Value.slice _ (List.length (S1 6)) _) (S1 6) at hRk6
          rw [hLk6] at vk6 ck6 lk6 hRk6
          obtain ⟨nk6, hnk6⟩ : ∃ n, Lk6.length = n := ⟨_, rfl⟩
          rw [hnk6] at vk6 ck6 lk6 hRk6
          have HFk6 := Aside0.mk vk6
          have HRk6 := Aside0.mk hRk6
          have HEk6 := Aside0.mk hLk6
          have HLk6 : Aside0 (Lk6.length ≤ 1000000) := ⟨by rw [← hLk6]; rw [HMs1.out.e6, List.length_map]; have z1 := HK.out; omega⟩
          clear hCk6 hRk6 vk6 hnk6 hLk6
          go_wp2_with ((with_reducible refine gate_builtin (b := .append) (xs := #[.tmp 68, .tmp 70]) rfl ?_); at_builtin; go_must (refine Kd.R_append kS (w0 := wo) base rfl (.tmp 68) (.tmp 70) 28 25 (.slice none 0 0) 24 rfl Tryz.underlying28 infoS rfl (by decide) (by decide) (.slice Ak6 nk6 qk6) (Lk6) ⟨x.s.A, x.s.n, x.s.c⟩ [.slice x.s.A x.s.n x.s.c] (fun k => Tg τ1 6 k ∨ wo.heap.size ≤ k) (fun _ => False) rfl rfl rfl (fun _ hk => hk.elim) (fun _ hk => .inr hk) (Kd.R_mono HRk6.out (fun _ hk => .inl hk)) HC0.out.bel HC0.out.inv.size (by have z := HLk6.out; omega) ?_); intro v12 w12 ho hb hg hat; (obtain ⟨A12, n12, c12, ev, HN12⟩ := R_sliceN ho); subst ev; (have HP12 := Aside0.mk (HC0.out.pushS (i := 6) (by decide) (by decide) (HT 1 (by decide)) (HT 6 (by decide)) HFk6.out ho hg hb)); (obtain ⟨e12, f12⟩ := HC0.out.inv.stS (i := 6) (by decide) (by decide) HFk6.out hg); clear ho hb hg hat)
          generalize (w12.setCell ⟨g, 6, none⟩ (Value.slice A12 n12 c12)) = W2 at HP12 ⊢
          have HC2 := Aside0.mk HP12.out.1
          clear ck6 e12 f12 HRk6
          generalize (newT τ1 wo w12 6) = τ2 at HC2
          obtain ⟨Ak7, qk7, vk7, ck7, lk7, hCk7, hRk7⟩ := HC2.out.inv.cS (i := 7) (by decide) (by decide)
          obtain ⟨Lk7, hLk7⟩ : ∃ L, S1 7 = L := ⟨_, rfl⟩
          change _ = Value.slice _ (List.length (S1 7)) _ at vk7
          change _ = some (Value.slice _ (List.length (S1 7)) _) at ck7
          change List.length (S1 7) ≤ _ at lk7
          change Kd.R _ _ _ _ _ (Value.slice _ (List.length (S1 7)) _) (S1 7) at hRk7
          rw [hLk7] at vk7 ck7 lk7 hRk7
          obtain ⟨nk7, hnk7⟩ : ∃ n, Lk7.length = n := ⟨_, rfl⟩
          rw [hnk7] at vk7 ck7 lk7 hRk7
          have HFk7 := Aside0.mk vk7
          have HRk7 := Aside0.mk hRk7
          have HEk7 := Aside0.mk hLk7
          have HLk7 : Aside0 (Lk7.length ≤ 1000000) := ⟨by rw [← hLk7]; rw [HMs1.out.e7, List.length_map]; have z1 := HK.out; omega⟩
          clear hCk7 hRk7 vk7 hnk7 hLk7
          have HRdk7 := Aside0.mk (Kd.R_below HRk7.out (below_drew (Below.refl _ _)))
          have HCdk7 := Aside0.mk (HC2.out.heap (W1 := W2.drew) (below_drew (Below.refl _ _)) rfl)
          have cak7 : (W2.alloc (.cells #[.slice x.nt.A x.nt.n x.nt.c] 25)).cell? ⟨g, 7, none⟩ = some (.slice Ak7 nk7 qk7) := pw_cell_below (below_alloc (Below.refl _ _) _) ck7
          have hx7 := V_sl_on (HC2.out.stp.V (fun h => by have := h.2.2; omega) HMs1.out.o7) (k := k) (x := x.nt) (by rw [List.getElem?_map, HX.out]; rfl)
          refine (fun (REST : ∀ (A13 : Option Addr) (n13 c13 : Nat) (w13 : World), Aside0 (Cur wo (w13.setCell ⟨g, 7, none⟩ (Value.slice A13 n13 c13)) τ1 (newT τ2 W2.drew w13 7) TK M base g dp (upd (upd f1 6 (Value.slice A12 n12 c12)) 7 (Value.slice A13 n13 c13)) (upd (upd S1 6 (Lk6 ++ [⟨x.s.A, x.s.n, x.s.c⟩])) 7 (Lk7 ++ [⟨x.nt.A, x.nt.n, x.nt.c⟩])) I1) → (?G13 : Option Addr → Nat → Nat → World → Prop) A13 n13 c13 w13) => ?main13) ?rest13
          case main13 =>
            go_region_law ((try rw [show (W2.alloc (.cells #[.slice x.nt.A x.nt.n x.nt.c] 25)).drew = W2.drew.alloc (.cells #[.slice x.nt.A x.nt.n x.nt.c] 25) from rfl]); refine Kd.R_append_step kS (w0 := wo) base (by rfl) (.tmp 78) (.tmp 83) 28 25 (.slice none 0 0) 24 rfl Tryz.underlying28 infoS rfl (by decide) (by decide) (.slice Ak7 nk7 qk7) (Lk7) ⟨x.nt.A, x.nt.n, x.nt.c⟩ [.slice x.nt.A x.nt.n x.nt.c] (fun k => Tg τ2 7 k ∨ W2.drew.heap.size ≤ k) (fun _ => False) (by rfl) (by rfl) rfl (fun _ hk => hk.elim) (fun _ hk => .inr hk) (Kd.R_mono HRdk7.out (fun _ hk => .inl hk)) HCdk7.out.bel HCdk7.out.inv.size (by have z := HLk7.out; omega) ?_; intro v13 w13 ho hb hg hat; (obtain ⟨A13, n13, c13, ev, HN13⟩ := R_sliceN ho); subst ev; (have HP13 := Aside0.mk (HCdk7.out.pushS (i := 7) (by decide) (by decide) (HT 1 (by decide)) (HT 7 (by decide)) HFk7.out ho hg hb)); (obtain ⟨e13, f13⟩ := HCdk7.out.inv.stS (i := 7) (by decide) (by decide) HFk7.out hg); clear ho hb hg hat)
            all_goals exact REST A13 n13 c13 w13 ⟨HP13.out.1⟩
          case rest13 =>
            intro A13 n13 c13 w13 HP13
            generalize (w13.setCell ⟨g, 7, none⟩ (Value.slice A13 n13 c13)) = W3 at HP13 ⊢
            have HC3 := HP13
            clear ck7 cak7 HRk7 HRdk7 HCdk7 hx7
            generalize (newT τ2 W2.drew w13 7) = τ3 at HC3
            obtain ⟨Ak9, qk9, vk9, ck9, lk9, hCk9, hRk9⟩ := HC3.out.inv.cI (i := 9) (by decide) (by decide)
            obtain ⟨Lk9, hLk9⟩ : ∃ L, I1 9 = L := ⟨_, rfl⟩
            change _ = Value.slice _ (List.length (I1 9)) _ at vk9
            change _ = some (Value.slice _ (List.length (I1 9)) _) at ck9
            change List.length (I1 9) ≤ _ at lk9
            change Kd.R _ _ _ _ _ (Value.slice _ (List.length (I1 9)) _) (I1 9) at hRk9
            rw [hLk9] at vk9 ck9 lk9 hRk9
            obtain ⟨nk9, hnk9⟩ : ∃ n, Lk9.length = n := ⟨_, rfl⟩
            rw [hnk9] at vk9 ck9 lk9 hRk9
            have HFk9 := Aside0.mk vk9
            have HRk9 := Aside0.mk hRk9
            have HEk9 := Aside0.mk hLk9
            have HLk9 : Aside0 (Lk9.length ≤ 1000000) := ⟨by rw [← hLk9]; rw [HMs1.out.i9]; have z1 := HK.out; omega⟩
            clear hCk9 hRk9 vk9 hnk9 hLk9
            go_wp2_with ((with_reducible refine gate_builtin (b := .append) (xs := #[.tmp 91, .tmp 93]) rfl ?_); at_builtin; go_must (refine Kd.R_append kI (w0 := wo) base rfl (.tmp 91) (.tmp 93) 29 3 (.int .i64 0) 8 rfl Tryz.underlying29 infoI rfl (by decide) (by decide) (.slice Ak9 nk9 qk9) (Lk9) m [.int .i64 m] (fun k => Tg τ3 9 k ∨ W3.heap.size ≤ k) (fun _ => False) rfl rfl rfl (fun _ hk => hk.elim) (fun _ hk => .inr hk) (Kd.R_mono HRk9.out (fun _ hk => .inl hk)) HC3.out.bel HC3.out.inv.size (by have z := HLk9.out; omega) ?_); intro v14 w14 ho hb hg hat; (obtain ⟨A14, n14, c14, ev, HN14⟩ := R_sliceN ho); subst ev; (have HP14 := Aside0.mk (HC3.out.pushI (i := 9) (by decide) (by decide) (HT 1 (by decide)) (HT 9 (by decide)) HFk9.out ho hg hb)); (obtain ⟨e14, f14⟩ := HC3.out.inv.stI (i := 9) (by decide) (by decide) HFk9.out hg); clear ho hb hg hat)
            generalize (w14.setCell ⟨g, 9, none⟩ (Value.slice A14 n14 c14)) = W4 at HP14 ⊢
            have HC4 := Aside0.mk HP14.out.1
            clear ck9 e14 f14 HRk9
            generalize (newT τ3 W3 w14 9) = τ4 at HC4
            obtain ⟨Ak10, qk10, vk10, ck10, lk10, hCk10, hRk10⟩ := HC4.out.inv.cI (i := 10) (by decide) (by decide)
            obtain ⟨Lk10, hLk10⟩ : ∃ L, I1 10 = L := ⟨_, rfl⟩
            change _ = Value.slice _ (List.length (I1 10)) _ at vk10
            change _ = some (Value.slice _ (List.length (I1 10)) _) at ck10
            change List.length (I1 10) ≤ _ at lk10
            change Kd.R _ _ _ _ _ (Value.slice _ (List.length (I1 10)) _) (I1 10) at hRk10
            rw [hLk10] at vk10 ck10 lk10 hRk10
            obtain ⟨nk10, hnk10⟩ : ∃ n, Lk10.length = n := ⟨_, rfl⟩
            rw [hnk10] at vk10 ck10 lk10 hRk10
            have HFk10 := Aside0.mk vk10
            have HRk10 := Aside0.mk hRk10
            have HEk10 := Aside0.mk hLk10
            have HLk10 : Aside0 (Lk10.length ≤ 1000000) := ⟨by rw [← hLk10]; rw [HMs1.out.i10]; have z1 := HK.out; omega⟩
            clear hCk10 hRk10 vk10 hnk10 hLk10
            have HRdk10 := Aside0.mk (Kd.R_below HRk10.out (below_drew (Below.refl _ _)))
            have HCdk10 := Aside0.mk (HC4.out.heap (W1 := W4.drew) (below_drew (Below.refl _ _)) rfl)
            have cak10 : (W4.alloc (.cells #[.int .i64 d] 3)).cell? ⟨g, 10, none⟩ = some (.slice Ak10 nk10 qk10) := pw_cell_below (below_alloc (Below.refl _ _) _) ck10
            have hx10 := V_int_on (HC4.out.stp.V (fun h => by have := h.2.2; omega) HMs1.out.o10) (k := k) (by rw [HLd.out]; exact hlt)
            rw [HD.out] at hx10
            refine (fun (REST : ∀ (A15 : Option Addr) (n15 c15 : Nat) (w15 : World), Aside0 (Cur wo (w15.setCell ⟨g, 10, none⟩ (Value.slice A15 n15 c15)) τ1 (newT τ4 W4.drew w15 10) TK M base g dp (upd (upd (upd (upd f1 6 (Value.slice A12 n12 c12)) 7 (Value.slice A13 n13 c13)) 9 (Value.slice A14 n14 c14)) 10 (Value.slice A15 n15 c15)) (upd (upd S1 6 (Lk6 ++ [⟨x.s.A, x.s.n, x.s.c⟩])) 7 (Lk7 ++ [⟨x.nt.A, x.nt.n, x.nt.c⟩])) (upd (upd I1 9 (Lk9 ++ [m])) 10 (Lk10 ++ [d]))) → (?G15 : Option Addr → Nat → Nat → World → Prop) A15 n15 c15 w15) => ?main15) ?rest15
            case main15 =>
              go_region_law ((try rw [show (W4.alloc (.cells #[.int .i64 d] 3)).drew = W4.drew.alloc (.cells #[.int .i64 d] 3) from rfl]); refine Kd.R_append_step kI (w0 := wo) base (by rfl) (.tmp 101) (.tmp 106) 29 3 (.int .i64 0) 8 rfl Tryz.underlying29 infoI rfl (by decide) (by decide) (.slice Ak10 nk10 qk10) (Lk10) d [.int .i64 d] (fun k => Tg τ4 10 k ∨ W4.drew.heap.size ≤ k) (fun _ => False) (by rfl) (by rfl) rfl (fun _ hk => hk.elim) (fun _ hk => .inr hk) (Kd.R_mono HRdk10.out (fun _ hk => .inl hk)) HCdk10.out.bel HCdk10.out.inv.size (by have z := HLk10.out; omega) ?_; intro v15 w15 ho hb hg hat; (obtain ⟨A15, n15, c15, ev, HN15⟩ := R_sliceN ho); subst ev; (have HP15 := Aside0.mk (HCdk10.out.pushI (i := 10) (by decide) (by decide) (HT 1 (by decide)) (HT 10 (by decide)) HFk10.out ho hg hb)); (obtain ⟨e15, f15⟩ := HCdk10.out.inv.stI (i := 10) (by decide) (by decide) HFk10.out hg); clear ho hb hg hat)
              all_goals exact REST A15 n15 c15 w15 ⟨HP15.out.1⟩
            case rest15 =>
              intro A15 n15 c15 w15 HC5
              generalize (w15.setCell ⟨g, 10, none⟩ (Value.slice A15 n15 c15)) = W5 at HC5 ⊢
              clear ck10 cak10 HRk10 HRdk10 HCdk10 hx10
              go_wp2_with fail
              obtain ⟨wr, rfl⟩ : ∃ w0, w0 = wo := ⟨_, rfl⟩
              go_roundw
              case rel =>
                  refine ⟨k + 1, _, _, _, _, kept ++ [x], os1, fr1, by go_num, by omega, ⟨?_, HK.out.2⟩, ⟨HMs1.out.keep HX.out HC5.out rfl rfl ?_ ?_ rfl ?_ ?_ rfl⟩, ⟨HFr1.out.trans (HC5.out.stp.frm (fun h => h.1 rfl))⟩, ⟨HBl1.out.trans HC5.out.bel⟩⟩
                  · rw [List.length_append]; have z1 := HK.out.1; show kept.length + 1 + fr1.length = k + 1; omega
                  · show Lk6 ++ [_] = _; rw [← HEk6.out]
                  · show Lk7 ++ [_] = _; rw [← HEk7.out]
                  · show (Lk9 ++ [_]).length = _; rw [← HEk9.out]; simp
                  · show (Lk10 ++ [_]).length = _; rw [← HEk10.out]; simp
              case measure => simp [intOf]; omega

        · have hgt' : decide (t < d) = false := decide_eq_false hgt
          have c0 := HMs1.out.inv.blk.cell 0 (by decide)
          rw [HMs1.out.inv.c0] at c0
          have c1 := HMs1.out.inv.blk.cell 1 (by decide)
          rw [HMs1.out.inv.c1] at c1
          have f1' := HMs1.out.inv.blk.fr 1
          have s1 := setCell_cell c1
          have hx7 := V_sl_on HMs1.out.o7 (k := k) (x := x.nt) (by rw [List.getElem?_map, HX.out]; rfl)
          have hs1 := R_sl HHot.out.2.2.2
          have hs2 := V_sl HNote.out
          have en : x.nt.n = x.s.n := by omega
          rw [en] at hx7
          have hl0 : l0.length = x.s.n := hs1.1.symm
          have HSB : Aside0 (Calls Tryz.prog 38 #[.slice x.s.A x.s.n x.s.c, .slice x.nt.A x.s.n x.nt.c] wo fun e w' => e = .returned (.bool true) ∧ w' = wo) := ⟨sameBytes_calls (hl0 ▸ hs1.2.2) (hl0 ▸ hs2.2.2)⟩
          have hnB : x.s.n ≤ 1099511627776 := by have z := HHot.out.2.2.1; unfold LB at z; omega
          have HMk : Aside0 (Mk wo wo τ1 base x l0) := ⟨⟨HHot.out.2.2.2, hl0, Stp.refl _ _ _, Below.refl _ _⟩⟩
          clear hs1 hs2 en hl0
          go_wp2_with (go_at_call 38; go_must (refine HSB.out.mono ?_); rintro en W' ⟨rfl, hw⟩; rw [hw]; clear hw W')
          clear c0 c1 f1' s1 HSB hx7
          go_loopw [9] (fun s wr => ∃ (i : Nat) (l : List Int), s = .int .i64 (i : Int) ∧ i ≤ x.s.n ∧ Aside0 (Mk wo wr τ1 base x l)) (fun s _ => x.s.n - (intOf s).toNat)
          case atStart => exact ⟨0, l0, rfl, Nat.zero_le _, HMk⟩
          case round =>
            clear HMk
            obtain ⟨i, l, rfl, hi, HMk⟩ := hrel
            by_cases hlt2 : i < x.s.n
            · obtain ⟨ad, ea, hc, hf, hst⟩ := HMk.out.at_ hlt2
              have HST := Aside0.mk hst
              clear hst
              go_wp2_with fail
              go_roundw
              case rel => exact ⟨i + 1, _, by go_num, by omega, ⟨HST.out _⟩⟩
              case measure => simp [intOf]; omega
            · obtain rfl : i = x.s.n := by omega
              have HT : ∀ t, (t ≠ 0 ∧ t ≠ 2 ∧ t < 12) → TY x.id t := fun t h => .inr h
              have HC0 := Aside0.mk (HMk.out.cur H20.out HMs1.out.inv)
              obtain ⟨Ak4, qk4, vk4, ck4, lk4, hCk4, hRk4⟩ := HC0.out.inv.cS (i := 4) (by decide) (by decide)
              obtain ⟨Lk4, hLk4⟩ : ∃ L, S1 4 = L := ⟨_, rfl⟩
              change _ = Value.slice _ (List.length (S1 4)) _ at vk4
              change _ = some (Value.slice _ (List.length (S1 4)) _) at ck4
              change List.length (S1 4) ≤ _ at lk4
              change Kd.R _ _ _ _ _ (Value.slice _ (List.length (S1 4)) _) (S1 4) at hRk4
              rw [hLk4] at vk4 ck4 lk4 hRk4
              obtain ⟨nk4, hnk4⟩ : ∃ n, Lk4.length = n := ⟨_, rfl⟩
              rw [hnk4] at vk4 ck4 lk4 hRk4
              have HFk4 := Aside0.mk vk4
              have HRk4 := Aside0.mk hRk4
              have HEk4 := Aside0.mk hLk4
              have HLk4 : Aside0 (Lk4.length ≤ 1000000) := ⟨by rw [← hLk4]; rw [HMs1.out.e4, List.length_map]; have z1 := HK.out; omega⟩
              clear hCk4 hRk4 vk4 hnk4 hLk4
              go_wp2_with ((with_reducible refine gate_builtin (b := .append) (xs := #[.tmp 151, .tmp 153]) rfl ?_); at_builtin; go_must (refine Kd.R_append kS (w0 := wo) base rfl (.tmp 151) (.tmp 153) 28 25 (.slice none 0 0) 24 rfl Tryz.underlying28 infoS rfl (by decide) (by decide) (.slice Ak4 nk4 qk4) (Lk4) ⟨x.s.A, x.s.n, x.s.c⟩ [.slice x.s.A x.s.n x.s.c] (fun k => Tg τ1 4 k ∨ wr.heap.size ≤ k) (fun _ => False) rfl rfl rfl (fun _ hk => hk.elim) (fun _ hk => .inr hk) (Kd.R_mono HRk4.out (fun _ hk => .inl hk)) HC0.out.bel HC0.out.inv.size (by have z := HLk4.out; omega) ?_); intro v21 w21 ho hb hg hat; (obtain ⟨A21, n21, c21, ev, HN21⟩ := R_sliceN ho); subst ev; (have HP21 := Aside0.mk (HC0.out.pushS (i := 4) (by decide) (by decide) (HT 1 (by decide)) (HT 4 (by decide)) HFk4.out ho hg hb)); (obtain ⟨e21, f21⟩ := HC0.out.inv.stS (i := 4) (by decide) (by decide) HFk4.out hg); clear ho hb hg hat)
              generalize (w21.setCell ⟨g, 4, none⟩ (Value.slice A21 n21 c21)) = W2 at HP21 ⊢
              have HC2 := Aside0.mk HP21.out.1
              have HS2 := Aside0.mk HP21.out.2
              clear ck4 e21 f21 HRk4 HP21
              generalize (newT τ1 wr w21 4) = τ2 at HC2 HS2
              obtain ⟨Ak5, qk5, vk5, ck5, lk5, hCk5, hRk5⟩ := HC2.out.inv.cS (i := 5) (by decide) (by decide)
              obtain ⟨Lk5, hLk5⟩ : ∃ L, S1 5 = L := ⟨_, rfl⟩
              change _ = Value.slice _ (List.length (S1 5)) _ at vk5
              change _ = some (Value.slice _ (List.length (S1 5)) _) at ck5
              change List.length (S1 5) ≤ _ at lk5
              change Kd.R _ _ _ _ _ (Value.slice _ (List.length (S1 5)) _) (S1 5) at hRk5
              rw [hLk5] at vk5 ck5 lk5 hRk5
              obtain ⟨nk5, hnk5⟩ : ∃ n, Lk5.length = n := ⟨_, rfl⟩
              rw [hnk5] at vk5 ck5 lk5 hRk5
              have HFk5 := Aside0.mk vk5
              have HRk5 := Aside0.mk hRk5
              have HEk5 := Aside0.mk hLk5
              have HLk5 : Aside0 (Lk5.length ≤ 1000000) := ⟨by rw [← hLk5]; rw [HMs1.out.e5, List.length_map]; have z1 := HK.out; omega⟩
              clear hCk5 hRk5 vk5 hnk5 hLk5
              have HCl : Aside0 (Kd.C kB (W2.drew.alloc (.cells #[] 5)) x.s.A x.s.n l) := ⟨by
                have z := (V_sl (HS2.out.V (t := x.id) (by have := H20.out; omega) (rv HMk.out.R))).2.2
                rw [HMk.out.len] at z
                exact Kd.C_below z (lit_below W2)⟩
              have HLn : Aside0 (x.s.n + 1 ≤ 140737488355328) := ⟨by omega⟩
              have ca5 : (W2.alloc (.cells #[] 5)).cell? ⟨g, 5, none⟩ = some (.slice Ak5 nk5 qk5) := pw_cell_below (below_alloc (Below.refl _ _) _) ck5
              refine (fun (REST : ∀ (A22 : Option Addr) (n22 c22 : Nat) (w22 : World) (A23 : Option Addr) (n23 c23 : Nat) (w23 : World), Aside0 (Stp (fun _ => False) W2 w22 τ2 (newT τ2 W2 w22 2)) → Aside0 (Kd.V kB 0 w22 0 (Tg (newT τ2 W2 w22 2) 2) (.slice A22 n22 c22) ([] ++ l)) → Aside0 (Cur wo (w23.setCell ⟨g, 5, none⟩ (Value.slice A23 n23 c23)) τ1 (newT (newT τ2 W2 w22 2) w22 w23 5) (TY x.id) M base g dp (upd (upd f1 4 (Value.slice A21 n21 c21)) 5 (Value.slice A23 n23 c23)) (upd (upd S1 4 (Lk4 ++ [⟨x.s.A, x.s.n, x.s.c⟩])) 5 (Lk5 ++ [⟨A22, n22, c22⟩])) I1 ∧ Stp (fun t => t = 1 ∨ t = 5) w22 (w23.setCell ⟨g, 5, none⟩ (Value.slice A23 n23 c23)) (newT τ2 W2 w22 2) (newT (newT τ2 W2 w22 2) w22 w23 5)) → (?G22 : Option Addr → Nat → Nat → World → Option Addr → Nat → Nat → World → Prop) A22 n22 c22 w22 A23 n23 c23 w23) => ?main22) ?rest22
              case main22 =>
                go_region_law (first | ((try rw [show (W2.alloc (.cells #[] 5)).drew = W2.drew.alloc (.cells #[] 5) from rfl]); refine Kd.R_append_rows_step kB (w0 := W2) W2.heap.size (by rfl) (.tmp 162) (.tmp 163) 25 5 (.int .u8 0) 1 rfl Tryz.underlying25 infoB rfl (by decide) (by decide) (.slice (some ⟨W2.heap.size, 0, none⟩) 0 0) ([] : List Int) l x.s.A x.s.n x.s.c (fun _ => True) (fun _ => False) (by rfl) (by rfl) (lit_row W2.drew W2.heap.size (Nat.le_refl _)) HCl.out (fun _ _ h => h) (fun _ h => h.elim) (fun _ _ => trivial) (lit_below W2) (lit_size W2) (by have z := HLn.out; simp only [List.length_nil, Nat.zero_add, Nat.mul_one]; omega) ?_; intro v22 w22 ho hb hg hat; (obtain ⟨A22, n22, c22, ev, HN22⟩ := R_sliceN ho); subst ev; (have HQ22 := Aside0.mk (HC2.out.fresh hb (t := 2) (Nat.lt_of_lt_of_le (by decide) HC2.out.inv.mx))); (have HV22 := Aside0.mk (rv (R_new (τ := τ2) (t := 2) ho))); (have HZ22 : Aside0 (Kd.R kS 25 w22 base (Tg (newT τ2 W2 w22 2) 5) (.slice Ak5 nk5 qk5) (Lk5)) := ⟨by have z := HQ22.out.1.inv.rs 5 (by decide) (by decide); rw [HFk5.out] at z; rw [← HEk5.out]; exact z⟩); (have b22 := HQ22.out.1.inv.blk.cell 5 (by decide)); rw [HFk5.out] at b22; (have d22 : (w22.alloc (.cells #[.slice A22 n22 c22] 25)).cell? ⟨g, 5, none⟩ = some (.slice Ak5 nk5 qk5) := pw_cell_below (below_alloc (Below.refl _ _) _) b22); clear ho hb hg hat) | (refine Kd.R_append_step kS (w0 := wo) base (by rfl) (.tmp 161) (.tmp 165) 28 25 (.slice none 0 0) 24 rfl Tryz.underlying28 infoS rfl (by decide) (by decide) (.slice Ak5 nk5 qk5) (Lk5) ⟨A22, n22, c22⟩ [.slice A22 n22 c22] (fun k => Tg (newT τ2 W2 w22 2) 5 k ∨ w22.heap.size ≤ k) (fun _ => False) (by rfl) (by rfl) rfl (fun _ h => h.elim) (fun _ h => .inr h) (Kd.R_mono HZ22.out (fun _ h => .inl h)) HQ22.out.1.bel HQ22.out.1.inv.size (by have z := HLk5.out; omega) ?_; intro v23 w23 ho hb hg hat; (obtain ⟨A23, n23, c23, ev, HN23⟩ := R_sliceN ho); subst ev; (have HP23 := Aside0.mk (HQ22.out.1.pushS (i := 5) (by decide) (by decide) (HT 1 (by decide)) (HT 5 (by decide)) HFk5.out ho hg hb)); (obtain ⟨e23, f23⟩ := HQ22.out.1.inv.stS (i := 5) (by decide) (by decide) HFk5.out hg); clear ho hb hg hat))
                all_goals exact REST A22 n22 c22 w22 A23 n23 c23 w23 ⟨HQ22.out.2⟩ HV22 HP23
              case rest22 =>
                intro A22 n22 c22 w22 A23 n23 c23 w23 HS22 HV22 HP23
                generalize (w23.setCell ⟨g, 5, none⟩ (Value.slice A23 n23 c23)) = W3 at HP23 ⊢
                have HC3 := Aside0.mk HP23.out.1
                have HS3 := Aside0.mk HP23.out.2
                clear ck5 ca5 HRk5 HCl HLn HP23
                generalize (newT (newT τ2 W2 w22 2) w22 w23 5) = τ3 at HC3 HS3
                obtain ⟨Ak8, qk8, vk8, ck8, lk8, hCk8, hRk8⟩ := HC3.out.inv.cS (i := 8) (by decide) (by decide)
                obtain ⟨Lk8, hLk8⟩ : ∃ L, S1 8 = L := ⟨_, rfl⟩
                change _ = Value.slice _ (List.length (S1 8)) _ at vk8
                change _ = some (Value.slice _ (List.length (S1 8)) _) at ck8
                change List.length (S1 8) ≤ _ at lk8
                change Kd.R _ _ _ _ _ (Value.slice _ (List.length (S1 8)) _) (S1 8) at hRk8
                rw [hLk8] at vk8 ck8 lk8 hRk8
                obtain ⟨nk8, hnk8⟩ : ∃ n, Lk8.length = n := ⟨_, rfl⟩
                rw [hnk8] at vk8 ck8 lk8 hRk8
                have HFk8 := Aside0.mk vk8
                have HRk8 := Aside0.mk hRk8
                have HEk8 := Aside0.mk hLk8
                have HLk8 : Aside0 (Lk8.length ≤ 1000000) := ⟨by rw [← hLk8]; rw [HMs1.out.e8, List.length_map]; have z1 := HK.out; omega⟩
                clear hCk8 hRk8 vk8 hnk8 hLk8
                go_wp2_with (first | ((with_reducible refine gate_builtin (b := .append) (xs := #[.tmp 173, .tmp 175]) rfl ?_); at_builtin; go_must (refine Kd.R_append kS (w0 := wo) base rfl (.tmp 173) (.tmp 175) 28 25 (.slice none 0 0) 24 rfl Tryz.underlying28 infoS rfl (by decide) (by decide) (.slice Ak8 nk8 qk8) (Lk8) ⟨x.s.A, x.s.n, x.s.c⟩ [.slice x.s.A x.s.n x.s.c] (fun k => Tg τ3 8 k ∨ W3.heap.size ≤ k) (fun _ => False) rfl rfl rfl (fun _ hk => hk.elim) (fun _ hk => .inr hk) (Kd.R_mono HRk8.out (fun _ hk => .inl hk)) HC3.out.bel HC3.out.inv.size (by have z := HLk8.out; omega) ?_); intro v24 w24 ho hb hg hat; (obtain ⟨A24, n24, c24, ev, HN24⟩ := R_sliceN ho); subst ev; (have HP24 := Aside0.mk (HC3.out.pushS (i := 8) (by decide) (by decide) (HT 1 (by decide)) (HT 8 (by decide)) HFk8.out ho hg hb)); (obtain ⟨e24, f24⟩ := HC3.out.inv.stS (i := 8) (by decide) (by decide) HFk8.out hg); clear ho hb hg hat; have HC4 := Aside0.mk HP24.out.1; have HS4 := Aside0.mk HP24.out.2; clear HP24; obtain ⟨Ak11, qk11, vk11, ck11, lk11, hCk11, hRk11⟩ := HC4.out.inv.cI (i := 11) (by decide) (by decide); obtain ⟨Lk11, hLk11⟩ : ∃ L, I1 11 = L := ⟨_, rfl⟩; change _ = Value.slice _ (List.length (I1 11)) _ at vk11; change _ = some (Value.slice _ (List.length (I1 11)) _) at ck11; change List.length (I1 11) ≤ _ at lk11; change Kd.R _ _ _ _ _ (Value.slice _ (List.length (I1 11)) _) (I1 11) at hRk11; rw [hLk11] at vk11 ck11 lk11 hRk11; obtain ⟨nk11, hnk11⟩ : ∃ n, Lk11.length = n := ⟨_, rfl⟩; rw [hnk11] at vk11 ck11 lk11 hRk11; have HFk11 := Aside0.mk vk11; have HRk11 := Aside0.mk hRk11; have HEk11 := Aside0.mk hLk11; have HLk11 : Aside0 (Lk11.length ≤ 1000000) := ⟨by rw [← hLk11]; rw [HMs1.out.i11]; have z1 := HK.out; omega⟩; clear hCk11 hRk11 vk11 hnk11 hLk11) | ((with_reducible refine gate_builtin (b := .append) (xs := #[.tmp 183, .tmp 185]) rfl ?_); at_builtin; go_must (refine Kd.R_append kI (w0 := wo) base rfl (.tmp 183) (.tmp 185) 29 3 (.int .i64 0) 8 rfl Tryz.underlying29 infoI rfl (by decide) (by decide) (.slice Ak11 nk11 qk11) (Lk11) m [.int .i64 m] (fun k => Tg (newT τ3 W3 w24 8) 11 k ∨ (w24.setCell ⟨g, 8, none⟩ (Value.slice A24 n24 c24)).heap.size ≤ k) (fun _ => False) rfl (by simp [Act.eval, World.setCell]) rfl (fun _ hk => hk.elim) (fun _ hk => .inr hk) (Kd.R_mono HRk11.out (fun _ hk => .inl hk)) HC4.out.bel HC4.out.inv.size (by have z := HLk11.out; omega) ?_); intro v25 w25 ho hb hg hat; (obtain ⟨A25, n25, c25, ev, HN25⟩ := R_sliceN ho); subst ev; (have HP25 := Aside0.mk (HC4.out.pushI (i := 11) (by decide) (by decide) (HT 1 (by decide)) (HT 11 (by decide)) HFk11.out ho hg hb)); (obtain ⟨e25, f25⟩ := HC4.out.inv.stI (i := 11) (by decide) (by decide) HFk11.out hg); clear ho hb hg hat))
                generalize (w25.setCell ⟨g, 11, none⟩ (Value.slice A25 n25 c25)) = W5 at HP25 ⊢
                have HC5 := Aside0.mk HP25.out.1
                have HS5 := Aside0.mk HP25.out.2
                clear ck8 ck11 e24 f24 e25 f25 HRk8 HRk11 HP25
                generalize (newT (newT τ3 W3 w24 8) (w24.setCell ⟨g, 8, none⟩ (Value.slice A24 n24 c24)) w25 11) = τ5 at HC5 HS5
                have HRl : Aside0 (Kd.R kB 5 W5 base (Tg τ5 x.id) x.s.v l) := ⟨HS5.out.R (by have := H20.out; omega) (HS4.out.R (by have := H20.out; omega) (HS3.out.R (by have := H20.out; omega) (HS22.out.R (fun e => e) (HS2.out.R (by have := H20.out; omega) HMk.out.R))))⟩
                have HVl : Aside0 (Kd.V kB 0 W5 0 (Tg τ5 2) (Sl.v ⟨A22, n22, c22⟩) l) := ⟨HS5.out.V (by omega) (HS4.out.V (by omega) (HS3.out.V (by omega) HV22.out))⟩
                have HLl : Aside0 (l.length ≤ LB) := ⟨by rw [HMk.out.len]; exact hnB⟩
                obtain ⟨wr, rfl⟩ : ∃ w0, w0 = wo := ⟨_, rfl⟩
                go_roundw
                case rel =>
                  refine ⟨k + 1, _, _, _, _, kept, os1 ++ [⟨x.id, x.s, ⟨A22, n22, c22⟩⟩], fr1 ++ [x], by go_num, by omega, ⟨?_, ?_⟩, ⟨HMs1.out.mark HX.out H20.out HC5.out HRl.out HLl.out HVl.out ?_ ?_ rfl rfl ?_ rfl rfl ?_⟩, ⟨HFr1.out.trans (HC5.out.stp.frm (fun h => h.elim (fun e => by have := H20.out; omega) (fun h => h.1 rfl)))⟩, ⟨HBl1.out.trans HC5.out.bel⟩⟩
                  · rw [List.length_append]; have z1 := HK.out.1; show kept.length + (fr1.length + 1) = k + 1; omega
                  · rw [List.length_append, List.length_append]; have z1 := HK.out.2; show os1.length + 1 = os.length + (fr1.length + 1); omega
                  · show Lk4 ++ [_] = _; rw [← HEk4.out]
                  · show Lk5 ++ [_] = _; rw [← HEk5.out]
                  · show Lk8 ++ [_] = _; rw [← HEk8.out]
                  · show (Lk11 ++ [_]).length = _; rw [← HEk11.out]; simp
                case measure => simp [intOf]; omega

      · obtain rfl : k = ws0.length := by omega
        have HE := Aside0.mk HMs.out.done
        clear hk hlt
        go_wp2_with fail
        first | go_end0 | refine bodyPost_ret (results_none rfl _ _ _) rfl ?_
        refine ⟨rfl, _, _, _, _, kept, os1, fr1, HE.out, ?_, HFr.out, HBl.out⟩
        have z1 := HK.out
        omega
end Go.Proofs.YtlcohooognjmaaaGreatDoor.Kb
namespace Go.Proofs.YtlcohooognjmaaaGreatDoor.Kb
open Go.RowKit Go.Proofs.YtlcohooognjmaaaGreatDoorW.PrintWords Go.Proofs.YtlcohooognjmaaaGreatDoor.Own Go.Proofs.YtlcohooognjmaaaGreatDoor.Wk
set_option linter.unusedVariables false
theorem Inv.emp {W : World} {τ : Nat → Nat} {M base g : Nat} {dp : Int} {f : Nat → Value} {S : Nat → List Sl} {I : Nat → List Int} (h : Inv W τ M base g dp f S I) : Emp W g := ⟨fun i h1 h2 => (h.blk.cell i h2).trans (congrArg some (h.ct i h1 h2)), fun i => h.blk.fr i⟩
set_option maxHeartbeats 8000000 in
set_option maxRecDepth 100000 in
theorem marks_calls {w : World} {τ : Nat → Nat} {M base g : Nat} {dp : Int} {f : Nat → Value} {S : Nat → List Sl} {I : Nat → List Int} {ws0 : List It} {os : List Ou} (hb : Bs w τ M base g dp f S I ws0 os [] []) (hn : 2 * ws0.length + os.length ≤ 1000000) :
    Calls Tryz.prog 36 #[.pointer (some ⟨g, 0, none⟩)] w (MkPost w τ M base g dp (2 * ws0.length + os.length)) := by
  have HM := Aside0.mk (markBytes_calls hb hn)
  clear hb
  go_enter Tryz.func36, Tryz.ntmps36
  go_wp2_with (first | (go_at_call 57; go_must (refine HM.out.mono ?_); rintro en W1 ⟨rfl, τ1, f1, S1, I1, ws1, os1, fr1, hB1, hc1, hF1, hBl1⟩; (have HE := Aside0.mk hB1.inv.emp); (have HR := Aside0.mk (And.intro hB1 (And.intro hc1 (And.intro hF1 hBl1)))); clear hB1 hc1 hF1 hBl1) | (go_at_call 58; go_must (refine (markInts_calls HE.out).mono ?_); rintro en W' ⟨rfl, hw⟩; rw [hw]; clear hw W') | (go_at_call 59; go_must (refine (markNums_calls HE.out).mono ?_); rintro en W' ⟨rfl, hw⟩; rw [hw]; clear hw W') | (go_at_call 60; go_must (refine (markTexts_calls HE.out).mono ?_); rintro en W' ⟨rfl, hw⟩; rw [hw]; clear hw W') | (go_at_call 61; go_must (refine (markEntries_calls HE.out).mono ?_); rintro en W' ⟨rfl, hw⟩; rw [hw]; clear hw W') | (go_at_call 62; go_must (refine (markPairs_calls HE.out).mono ?_); rintro en W' ⟨rfl, hw⟩; rw [hw]; clear hw W') | (go_at_call 63; go_must (refine (markWrites_calls HE.out).mono ?_); rintro en W' ⟨rfl, hw⟩; rw [hw]; clear hw W') | (go_at_call 64; go_must (refine (markTables_calls HE.out).mono ?_); rintro en W' ⟨rfl, hw⟩; rw [hw]; clear hw W') | (go_at_call 65; go_must (refine (markPlaces_calls HE.out).mono ?_); rintro en W' ⟨rfl, hw⟩; rw [hw]; clear hw W') | (go_at_call 66; go_must (refine (markPlaceds_calls HE.out).mono ?_); rintro en W' ⟨rfl, hw⟩; rw [hw]; clear hw W') | (go_at_call 67; go_must (refine (markFaults_calls HE.out).mono ?_); rintro en W' ⟨rfl, hw⟩; rw [hw]; clear hw W') | (go_at_call 68; go_must (refine (markChunks_calls HE.out).mono ?_); rintro en W' ⟨rfl, hw⟩; rw [hw]; clear hw W') | (go_at_call 69; go_must (refine (markGroups_calls HE.out).mono ?_); rintro en W' ⟨rfl, hw⟩; rw [hw]; clear hw W') | (go_at_call 70; go_must (refine (markRuns_calls HE.out).mono ?_); rintro en W' ⟨rfl, hw⟩; rw [hw]; clear hw W') | (go_at_call 71; go_must (refine (markLevels_calls HE.out).mono ?_); rintro en W' ⟨rfl, hw⟩; rw [hw]; clear hw W') | (go_at_call 72; go_must (refine (markFiles_calls HE.out).mono ?_); rintro en W' ⟨rfl, hw⟩; rw [hw]; clear hw W') | (go_at_call 73; go_must (refine (markJobs_calls HE.out).mono ?_); rintro en W' ⟨rfl, hw⟩; rw [hw]; clear hw W') | (go_at_call 74; go_must (refine (markEdits_calls HE.out).mono ?_); rintro en W' ⟨rfl, hw⟩; rw [hw]; clear hw W') | (go_at_call 75; go_must (refine (markSteps_calls HE.out).mono ?_); rintro en W' ⟨rfl, hw⟩; rw [hw]; clear hw W'))
  first | go_end0 | refine bodyPost_ret (results_none rfl _ _ _) rfl ?_
  obtain ⟨h1, h2, h3, h4⟩ := HR.out
  exact ⟨rfl, τ1, f1, S1, I1, ws1, os1, fr1, h1, h2, h3, h4⟩
set_option maxHeartbeats 8000000 in
set_option maxRecDepth 100000 in
theorem grows_calls {w : World} {τ : Nat → Nat} {M base g : Nat} {dp : Int} {f : Nat → Value} {S : Nat → List Sl} {I : Nat → List Int} {ws : List It} {os : List Ou} {fr0 : List It} (hb : Bs w τ M base g dp f S I ws os fr0 fr0) (hn : os.length + fr0.length ≤ 1000000) :
    Calls Tryz.prog 37 #[.pointer (some ⟨g, 0, none⟩)] w (GrPost w τ M base g dp ws (os.length + fr0.length)) := by
  have HM := Aside0.mk (growBytes_calls hb hn)
  clear hb
  go_enter Tryz.func37, Tryz.ntmps37
  go_wp2_with (first | (go_at_call 76; go_must (refine HM.out.mono ?_); rintro en W1 ⟨rfl, τ1, f1, S1, I1, os1, hB1, hc1, hF1, hBl1⟩; (have HE := Aside0.mk hB1.inv.emp); (have HR := Aside0.mk (And.intro hB1 (And.intro hc1 (And.intro hF1 hBl1)))); clear hB1 hc1 hF1 hBl1) | (go_at_call 77; go_must (refine (growInts_calls HE.out).mono ?_); rintro en W' ⟨rfl, hw⟩; rw [hw]; clear hw W') | (go_at_call 78; go_must (refine (growNums_calls HE.out).mono ?_); rintro en W' ⟨rfl, hw⟩; rw [hw]; clear hw W') | (go_at_call 79; go_must (refine (growTexts_calls HE.out).mono ?_); rintro en W' ⟨rfl, hw⟩; rw [hw]; clear hw W') | (go_at_call 80; go_must (refine (growEntries_calls HE.out).mono ?_); rintro en W' ⟨rfl, hw⟩; rw [hw]; clear hw W') | (go_at_call 81; go_must (refine (growPairs_calls HE.out).mono ?_); rintro en W' ⟨rfl, hw⟩; rw [hw]; clear hw W') | (go_at_call 82; go_must (refine (growWrites_calls HE.out).mono ?_); rintro en W' ⟨rfl, hw⟩; rw [hw]; clear hw W') | (go_at_call 83; go_must (refine (growTables_calls HE.out).mono ?_); rintro en W' ⟨rfl, hw⟩; rw [hw]; clear hw W') | (go_at_call 84; go_must (refine (growPlaces_calls HE.out).mono ?_); rintro en W' ⟨rfl, hw⟩; rw [hw]; clear hw W') | (go_at_call 85; go_must (refine (growPlaceds_calls HE.out).mono ?_); rintro en W' ⟨rfl, hw⟩; rw [hw]; clear hw W') | (go_at_call 86; go_must (refine (growFaults_calls HE.out).mono ?_); rintro en W' ⟨rfl, hw⟩; rw [hw]; clear hw W') | (go_at_call 87; go_must (refine (growChunks_calls HE.out).mono ?_); rintro en W' ⟨rfl, hw⟩; rw [hw]; clear hw W') | (go_at_call 88; go_must (refine (growGroups_calls HE.out).mono ?_); rintro en W' ⟨rfl, hw⟩; rw [hw]; clear hw W') | (go_at_call 89; go_must (refine (growRuns_calls HE.out).mono ?_); rintro en W' ⟨rfl, hw⟩; rw [hw]; clear hw W') | (go_at_call 90; go_must (refine (growLevels_calls HE.out).mono ?_); rintro en W' ⟨rfl, hw⟩; rw [hw]; clear hw W') | (go_at_call 91; go_must (refine (growFiles_calls HE.out).mono ?_); rintro en W' ⟨rfl, hw⟩; rw [hw]; clear hw W') | (go_at_call 92; go_must (refine (growJobs_calls HE.out).mono ?_); rintro en W' ⟨rfl, hw⟩; rw [hw]; clear hw W') | (go_at_call 93; go_must (refine (growEdits_calls HE.out).mono ?_); rintro en W' ⟨rfl, hw⟩; rw [hw]; clear hw W') | (go_at_call 94; go_must (refine (growSteps_calls HE.out).mono ?_); rintro en W' ⟨rfl, hw⟩; rw [hw]; clear hw W'))
  first | go_end0 | refine bodyPost_ret (results_none rfl _ _ _) rfl ?_
  obtain ⟨h1, h2, h3, h4⟩ := HR.out
  exact ⟨rfl, τ1, f1, S1, I1, os1, h1, h2, h3, h4⟩
set_option maxHeartbeats 8000000 in
set_option maxRecDepth 100000 in
theorem hold_calls {w : World} {τ : Nat → Nat} {M base g : Nat} {dp : Int} {f : Nat → Value} {S : Nat → List Sl} {I : Nat → List Int} {ws : List It} {os : List Ou} (hb : Bs w τ M base g dp f S I ws os [] []) (hn : 2 * ws.length + os.length ≤ 1000000) :
    Calls Tryz.prog 9 #[.pointer (some ⟨g, 0, none⟩)] w fun e w' => e = .returned (.bool true) ∧ ∃ m, w' = w.drewN m := by
  have HM := Aside0.mk (holdBytes_calls hb.inv hb.con hb.e4 hb.e5 hb.e6 hb.e7 (by omega) (by omega))
  have HI : Aside0 (∀ m, Emp (w.drewN m) g) := ⟨fun m => (hb.inv.heap (W' := w.drewN m) rfl).emp⟩
  have c1 := hb.inv.blk.cell 1 (by decide)
  rw [hb.inv.c1] at c1
  clear hb
  go_enter Tryz.func9, Tryz.ntmps9
  go_wp2_with (first | (go_at_call 16; go_must (refine HM.out.mono ?_); rintro en W1 ⟨rfl, m, hm⟩; (have HE : Aside0 (Emp W1 g) := ⟨by rw [hm]; exact HI.out m⟩); (have HD := Aside0.mk hm); clear hm) | (go_at_call 17; go_must (refine (holdInts_calls HE.out).mono ?_); rintro en W' ⟨rfl, hw⟩; rw [hw]; clear hw W') | (go_at_call 18; go_must (refine (holdNums_calls HE.out).mono ?_); rintro en W' ⟨rfl, hw⟩; rw [hw]; clear hw W') | (go_at_call 19; go_must (refine (holdTexts_calls HE.out).mono ?_); rintro en W' ⟨rfl, hw⟩; rw [hw]; clear hw W') | (go_at_call 20; go_must (refine (holdEntries_calls HE.out).mono ?_); rintro en W' ⟨rfl, hw⟩; rw [hw]; clear hw W') | (go_at_call 21; go_must (refine (holdPairs_calls HE.out).mono ?_); rintro en W' ⟨rfl, hw⟩; rw [hw]; clear hw W') | (go_at_call 22; go_must (refine (holdWrites_calls HE.out).mono ?_); rintro en W' ⟨rfl, hw⟩; rw [hw]; clear hw W') | (go_at_call 23; go_must (refine (holdTables_calls HE.out).mono ?_); rintro en W' ⟨rfl, hw⟩; rw [hw]; clear hw W') | (go_at_call 24; go_must (refine (holdPlaces_calls HE.out).mono ?_); rintro en W' ⟨rfl, hw⟩; rw [hw]; clear hw W') | (go_at_call 25; go_must (refine (holdPlaceds_calls HE.out).mono ?_); rintro en W' ⟨rfl, hw⟩; rw [hw]; clear hw W') | (go_at_call 26; go_must (refine (holdFaults_calls HE.out).mono ?_); rintro en W' ⟨rfl, hw⟩; rw [hw]; clear hw W') | (go_at_call 27; go_must (refine (holdChunks_calls HE.out).mono ?_); rintro en W' ⟨rfl, hw⟩; rw [hw]; clear hw W') | (go_at_call 28; go_must (refine (holdGroups_calls HE.out).mono ?_); rintro en W' ⟨rfl, hw⟩; rw [hw]; clear hw W') | (go_at_call 29; go_must (refine (holdRuns_calls HE.out).mono ?_); rintro en W' ⟨rfl, hw⟩; rw [hw]; clear hw W') | (go_at_call 30; go_must (refine (holdLevels_calls HE.out).mono ?_); rintro en W' ⟨rfl, hw⟩; rw [hw]; clear hw W') | (go_at_call 31; go_must (refine (holdFiles_calls HE.out).mono ?_); rintro en W' ⟨rfl, hw⟩; rw [hw]; clear hw W') | (go_at_call 32; go_must (refine (holdJobs_calls HE.out).mono ?_); rintro en W' ⟨rfl, hw⟩; rw [hw]; clear hw W') | (go_at_call 33; go_must (refine (holdEdits_calls HE.out).mono ?_); rintro en W' ⟨rfl, hw⟩; rw [hw]; clear hw W') | (go_at_call 34; go_must (refine (holdSteps_calls HE.out).mono ?_); rintro en W' ⟨rfl, hw⟩; rw [hw]; clear hw W'))
  go_ret
  exact ⟨rfl, m, HD.out⟩
def DonePost (w : World) (τ : Nat → Nat) (M base g : Nat) (n : Nat) (e : Ending) (w' : World) : Prop :=
  e = .returned (.tuple #[]) ∧ ∃ τ' f' S' I' ws' os', Bs w' τ' M base g 0 f' S' I' ws' os' [] [] ∧ 2 * ws'.length + os'.length = n ∧ Frm w w' τ τ' ∧ Below base w w'
theorem Bs.set {W W' : World} {τ : Nat → Nat} {M base g : Nat} {dp dp' : Int} {f f' : Nat → Value} {S : Nat → List Sl} {I : Nat → List Int} {ws : List It} {os : List Ou} {fr fr0 : List It} (h : Bs W τ M base g dp f S I ws os fr fr0) (hI : Inv W' τ M base g dp' f' S I) (hs : Stp (fun t => t = 1) W W' τ τ) : Bs W' τ M base g dp' f' S I ws os fr fr0 :=
  ⟨hI, h.con.step hs (fun t e => by omega), h.e4, h.e5, h.e6, h.e7, h.e8, h.i9, h.i10, h.i11⟩
set_option maxHeartbeats 8000000 in
set_option maxRecDepth 100000 in
theorem done_calls {w : World} {τ : Nat → Nat} {M base g : Nat} {f : Nat → Value} {S : Nat → List Sl} {I : Nat → List Int} {ws : List It} {os : List Ou} (hb : Bs w τ M base g 1 f S I ws os [] []) (hn : 2 * ws.length + os.length ≤ 1000000) :
    Calls Tryz.prog 15 #[.pointer (some ⟨g, 0, none⟩)] w (DonePost w τ M base g (2 * ws.length + os.length)) := by
  have c3 := hb.inv.blk.cell 3 (by decide)
  rw [hb.inv.c3] at c3
  have f3 := hb.inv.blk.fr 3
  have hB1 := hb.set (hb.inv.deep 0) (stp_set hb.inv 3 (.int .i64 0))
  have c3' := hB1.inv.blk.cell 3 (by decide)
  rw [hB1.inv.c3] at c3'
  have HF1 : Aside0 (Frm w (w.setCell ⟨g, 3, none⟩ (.int .i64 0)) τ τ) := ⟨(stp_set hb.inv 3 (.int .i64 0)).frm (by omega)⟩
  have HBl1 : Aside0 (Below base w (w.setCell ⟨g, 3, none⟩ (.int .i64 0))) := ⟨(Below.refl base w).setCell (p := ⟨g, 3, none⟩) hb.inv.bs _⟩
  have HM := Aside0.mk (marks_calls hB1 hn)
  clear hb hB1
  go_enter Tryz.func15, Tryz.ntmps15
  go_wp2_with (go_at_call 36; go_must (refine HM.out.mono ?_))
  rintro en W1 ⟨rfl, τ1, f1, S1, I1, ws1, os1, fr1, hB1, hc1, hF1, hBl1⟩
  have HG := Aside0.mk (grows_calls hB1 (by omega))
  have HF2 := Aside0.mk (HF1.out.trans hF1)
  have HBl2 := Aside0.mk (HBl1.out.trans hBl1)
  clear c3 f3 c3' HF1 HBl1 HM hB1 hF1 hBl1
  go_wp2_with (go_at_call 37; go_must (refine HG.out.mono ?_))
  rintro en W2 ⟨rfl, τ2, f2, S2, I2, os2, hB2, hc2, hS2, hBl2⟩
  have c2 := hB2.inv.blk.cell 2 (by decide)
  obtain ⟨t, ht⟩ := hB2.inv.c2
  rw [ht] at c2
  have f2' := hB2.inv.blk.fr 2
  have HB3 := Aside0.mk (hB2.set (hB2.inv.turn (wrap64 (t + 1))) (stp_set hB2.inv 2 (.int .i64 (wrap64 (t + 1)))))
  have HF3 := Aside0.mk ((HF2.out.trans (hS2.frm (by omega))).trans ((stp_set hB2.inv 2 (.int .i64 (wrap64 (t + 1)))).frm (by omega)))
  have HBl3 := Aside0.mk ((HBl2.out.trans hBl2).trans ((Below.refl base W2).setCell (p := ⟨g, 2, none⟩) hB2.inv.bs (.int .i64 (wrap64 (t + 1)))))
  clear ht HG HF2 HBl2 hB2 hS2 hBl2
  go_wp2_with fail
  first | go_end0 | refine bodyPost_ret (results_none rfl _ _ _) rfl ?_
  exact ⟨rfl, τ2, _, _, _, ws1, os2, HB3.out, by omega, HF3.out, HBl3.out⟩
end Go.Proofs.YtlcohooognjmaaaGreatDoor.Kb
namespace Go.Proofs.YtlcohooognjmaaaGreatDoor.Kb
open Go.RowKit Go.Proofs.YtlcohooognjmaaaGreatDoorW.PrintWords Go.Proofs.YtlcohooognjmaaaGreatDoor.Own Go.Proofs.YtlcohooognjmaaaGreatDoor.Wk
set_option linter.unusedVariables false
/-- The book between two calls; at most N / 2 lists were handed to it. -/
def Book (W : World) (τ : Nat → Nat) (base g N : Nat) : Prop := ∃ M f S I ws os, Bs W τ M base g 0 f S I ws os [] [] ∧ 2 * ws.length + os.length ≤ N
theorem Book.frm {W W' : World} {τ : Nat → Nat} {base g N : Nat} (h : Book W τ base g N) (hs : W.heap.size ≤ W'.heap.size) (hk : ∀ k, k < W.heap.size → τ k ≠ 0 → W'.heap[k]? = W.heap[k]?) : Book W' τ base g N := by
  obtain ⟨M, f, S, I, ws, os, hB, hn⟩ := h
  have st : Stp (fun t => t = 0) W W' τ τ := ⟨hs, fun k h1 h2 => hk k h1 h2, fun _ _ => rfl⟩
  exact ⟨M, f, S, I, ws, os, ⟨hB.inv.stp st (fun t e => by omega) (fun k h1 => hB.inv.new k (by omega)) hB.inv.tm, hB.con.step st (fun t e => by omega), hB.e4, hB.e5, hB.e6, hB.e7, hB.e8, hB.i9, hB.i10, hB.i11⟩, hn⟩
theorem Book.new {W : World} {τ : Nat → Nat} {base g N : Nat} (h : Book W τ base g N) : ∀ k, W.heap.size ≤ k → τ k = 0 := by
  obtain ⟨M, f, S, I, ws, os, hB, hn⟩ := h
  exact hB.inv.new
theorem Book.below {W W' : World} {τ : Nat → Nat} {base g N : Nat} (h : Book W τ base g N) (hb : Below W.heap.size W W') : Book W' τ base g N := h.frm hb.size (fun k hk _ => hb.block k hk)
theorem Book.hold {W : World} {τ : Nat → Nat} {base g N : Nat} (h : Book W τ base g N) (hN : N ≤ 1000000) : Calls Tryz.prog 9 #[.pointer (some ⟨g, 0, none⟩)] W fun e w' => e = .returned (.bool true) ∧ ∃ m, w' = W.drewN m := by
  obtain ⟨M, f, S, I, ws, os, hB, hn⟩ := h
  exact hold_calls hB (by omega)
/-- Some blocks of nobody's get a mark. -/
def setT (τ : Nat → Nat) (v : Value) (t k : Nat) : Nat := if some k = v.ownBlock then t else τ k
theorem Bs.retag {W : World} {τ τ' : Nat → Nat} {M M' base g : Nat} {dp : Int} {f : Nat → Value} {S : Nat → List Sl} {I : Nat → List Int} {ws : List It} {os : List Ou} (h : Bs W τ M base g dp f S I ws os [] []) (hτ : ∀ k, τ k ≠ 0 → τ' k = τ k) (hn : ∀ k, W.heap.size ≤ k → τ' k = 0) (hM : M ≤ M') (hm : ∀ k, τ' k < M') : Bs W τ' M' base g dp f S I ws os [] [] := by
  have hT : ∀ t, t ≠ 0 → ∀ k, Tg τ t k → Tg τ' t k := fun t ht k hk => by
    have hk' : τ k = t := hk
    show τ' k = t
    rw [hτ k (by omega)]; exact hk'
  have hmx := h.inv.mx
  refine ⟨{ h.inv with tg := hT 1 (by omega) g h.inv.tg, new := hn, mx := by omega, tm := hm, rs := fun i a b => Kd.R_mono (h.inv.rs i a b) (hT i (by omega)), ri := fun i a b => Kd.R_mono (h.inv.ri i a b) (hT i (by omega)) }, ?_, h.e4, h.e5, h.e6, h.e7, h.e8, h.i9, h.i10, h.i11⟩
  refine ⟨fun x hx => ?_, fun x hx => ?_, fun x hx => absurd hx List.not_mem_nil, h.con.ids, h.con.ow, h.con.of⟩
  · obtain ⟨l, h1, h2⟩ := h.con.w x hx
    have h20 := h1.1
    exact ⟨l, ⟨h1.1, Nat.lt_of_lt_of_le h1.2.1 hM, h1.2.2.1, Kd.R_mono h1.2.2.2 (hT _ (by omega))⟩, Kd.V_mono h2 (hT 2 (by omega))⟩
  · obtain ⟨h1, h2, l, h3, h4⟩ := h.con.o x hx
    exact ⟨h1, Nat.lt_of_lt_of_le h2 hM, l, Kd.V_mono h3 (hT _ (by omega)), Kd.V_mono h4 (hT 2 (by omega))⟩
/-- A list was handed out: it waits. -/
theorem Bs.hand {w W5 : World} {τ τ5 : Nat → Nat} {M M' base g : Nat} {dp dp' : Int} {f f5 : Nat → Value} {S S5 : Nat → List Sl} {I I5 : Nat → List Int} {ws : List It} {os : List Ou} (h : Bs w τ M' base g dp f S I ws os [] []) (hC0 : Con w τ M base ws os []) (hM : M < M') (h20 : 20 ≤ M) {s nt : Sl} {l : List Int} (hl : l.length ≤ LB) (hI : Inv W5 τ5 M' base g dp' f5 S5 I5) (hs : Stp TK w W5 τ τ5) (hR : Kd.R kB 5 W5 base (Tg τ5 M) s.v l) (hV : Kd.V kB 0 W5 0 (Tg τ5 2) nt.v l)
    (e4 : S5 4 = S 4) (e5 : S5 5 = S 5) (e6 : S5 6 = S 6 ++ [s]) (e7 : S5 7 = S 7 ++ [nt]) (e8 : S5 8 = S 8) (i9 : (I5 9).length = (I 9).length + 1) (i10 : (I5 10).length = (I 10).length + 1) (i11 : (I5 11).length = (I 11).length) :
    Bs W5 τ5 M' base g dp' f5 S5 I5 (ws ++ [⟨M, s, nt⟩]) os [] [] :=
  ⟨hI, (hC0.step hs (fun t ht => ⟨ht.2.1, by have := ht.2.2; omega⟩)).add hM h20 hl hR hV, by rw [e4, h.e4], by rw [e5, h.e5], by rw [e6, h.e6]; simp, by rw [e7, h.e7]; simp, by rw [e8, h.e8], by rw [i9, h.i9]; simp, by rw [i10, h.i10]; simp, by rw [i11, h.i11]⟩
def zf (i : Nat) : Value := if i = 0 ∨ i = 1 then .bool false else if i = 2 ∨ i = 3 ∨ i = 12 then .int .i64 0 else if i < 13 then .slice none 0 0 else tailv i
/-- A new book's cells. -/
def zeroBook : Array Value := ((List.range 175).map zf).toArray
def BytesPost (w : World) (τ : Nat → Nat) (base g N : Nat) (v : Value) (e : Ending) (w' : World) : Prop :=
  e = .returned (.tuple #[]) ∧ ∃ τ', Book w' τ' base g (N + 2) ∧ Below base w w' ∧ ∀ k, k < w.heap.size → τ k = 0 → some k ≠ v.ownBlock → w'.heap[k]? = w.heap[k]? ∧ τ' k = 0
set_option maxHeartbeats 16000000 in
set_option maxRecDepth 100000 in
theorem bytes_core {w : World} {τ : Nat → Nat} {M base g : Nat} {f : Nat → Value} {S : Nat → List Sl} {I : Nat → List Int} {ws : List It} {os : List Ou} {A : Option Addr} {n c : Nat} {l : List Int} {mark : Int} (hB : Bs w τ (M + 1) base g 0 f S I ws os [] []) (hC0 : Con w τ M base ws os []) (h20 : 20 ≤ M) (hn : 2 * ws.length + os.length + 2 ≤ 1000000) (hR : Kd.R kB 5 w base (Tg τ M) (.slice A n c) l) (hl : l.length ≤ LB) :
    Calls Tryz.prog 8 #[.pointer (some ⟨g, 0, none⟩), .slice A n c, .int .i64 mark] w (DonePost w τ (M + 1) base g (2 * ws.length + os.length + 2)) := by
  have c3 := hB.inv.blk.cell 3 (by decide)
  rw [hB.inv.c3] at c3
  have f3 := hB.inv.blk.fr 3
  have hI1 := hB.inv.deep 1
  have hs1 := stp_set hB.inv 3 (.int .i64 1)
  have HC1 : Aside0 (Cur w (w.setCell ⟨g, 3, none⟩ (.int .i64 1)) τ τ TK (M + 1) base g 1 (upd f 3 (.int .i64 1)) S I) := ⟨⟨hI1, hs1.mono (fun t e => by subst e; exact ⟨by decide, by decide, by decide⟩), (Below.refl base w).setCell (p := ⟨g, 3, none⟩) hB.inv.bs _⟩⟩
  have HRl := Aside0.mk hR
  have HB := Aside0.mk hB
  have HC0 := Aside0.mk hC0
  have hln : l.length = n := (R_sl (s := ⟨A, n, c⟩) hR).1.symm
  have HLn : Aside0 (n + 1 ≤ 140737488355328) := ⟨by unfold LB at hl; omega⟩
  have HLb := Aside0.mk hl
  have HT : ∀ t, (t ≠ 0 ∧ t ≠ 2 ∧ t < 12) → TK t := fun t h => h
  have HNl := Aside0.mk hln
  clear hR hB hC0 hI1 hs1 hln hl
  go_enter Tryz.func8, Tryz.ntmps8
  generalize hW1 : (w.setCell ⟨g, 3, none⟩ (.int .i64 1)) = W1 at HC1
  obtain ⟨Ak6, qk6, vk6, ck6, lk6, hCk6, hRk6⟩ := HC1.out.inv.cS (i := 6) (by decide) (by decide)
  obtain ⟨Lk6, hLk6⟩ : ∃ L, S 6 = L := ⟨_, rfl⟩
  change _ = Value.slice _ (List.length (S 6)) _ at vk6
  change _ = some (Value.slice _ (List.length (S 6)) _) at ck6
  change List.length (S 6) ≤ _ at lk6
  change Kd.R _ _ _ _ _ (Value.slice _ (List.length (S 6)) _) (S 6) at hRk6
  rw [hLk6] at vk6 ck6 lk6 hRk6
  obtain ⟨nk6, hnk6⟩ : ∃ n, Lk6.length = n := ⟨_, rfl⟩
  rw [hnk6] at vk6 ck6 lk6 hRk6
  have HFk6 := Aside0.mk vk6
  have HRk6 := Aside0.mk hRk6
  have HEk6 := Aside0.mk hLk6
  have HLk6 : Aside0 (Lk6.length ≤ 1000000) := ⟨by rw [← hLk6]; rw [HB.out.e6, List.length_map]; omega⟩
  clear hCk6 hRk6 vk6 hnk6 hLk6
  subst hW1
  go_wp2_with ((with_reducible refine gate_builtin (b := .append) (xs := #[.tmp 17, .tmp 19]) rfl ?_); at_builtin; go_must (refine Kd.R_append kS (w0 := w) base rfl (.tmp 17) (.tmp 19) 28 25 (.slice none 0 0) 24 rfl Tryz.underlying28 infoS rfl (by decide) (by decide) (.slice Ak6 nk6 qk6) (Lk6) ⟨A, n, c⟩ [.slice A n c] (fun k => Tg τ 6 k ∨ (w.setCell ⟨g, 3, none⟩ (.int .i64 1)).heap.size ≤ k) (fun _ => False) rfl (by simp [Act.eval, World.setCell]) rfl (fun _ hk => hk.elim) (fun _ hk => .inr hk) (Kd.R_mono HRk6.out (fun _ hk => .inl hk)) HC1.out.bel HC1.out.inv.size (by have z := HLk6.out; omega) ?_); intro v1 w1 ho hb hg hat; (obtain ⟨A1, n1, c1, ev, HN1⟩ := R_sliceN ho); subst ev; (have HP1 := Aside0.mk (HC1.out.pushS (i := 6) (by decide) (by decide) (HT 1 (by decide)) (HT 6 (by decide)) HFk6.out ho hg hb)); (obtain ⟨e1, f1⟩ := HC1.out.inv.stS (i := 6) (by decide) (by decide) HFk6.out hg); clear ho hb hg hat)
  generalize (w1.setCell ⟨g, 6, none⟩ (Value.slice A1 n1 c1)) = W2 at HP1 ⊢
  have HC2 := Aside0.mk HP1.out.1
  clear ck6 e1 f1 HRk6 HP1 c3 f3 HC1
  generalize (newT τ (w.setCell ⟨g, 3, none⟩ (.int .i64 1)) w1 6) = τ2 at HC2
  obtain ⟨Ak7, qk7, vk7, ck7, lk7, hCk7, hRk7⟩ := HC2.out.inv.cS (i := 7) (by decide) (by decide)
  obtain ⟨Lk7, hLk7⟩ : ∃ L, S 7 = L := ⟨_, rfl⟩
  change _ = Value.slice _ (List.length (S 7)) _ at vk7
  change _ = some (Value.slice _ (List.length (S 7)) _) at ck7
  change List.length (S 7) ≤ _ at lk7
  change Kd.R _ _ _ _ _ (Value.slice _ (List.length (S 7)) _) (S 7) at hRk7
  rw [hLk7] at vk7 ck7 lk7 hRk7
  obtain ⟨nk7, hnk7⟩ : ∃ n, Lk7.length = n := ⟨_, rfl⟩
  rw [hnk7] at vk7 ck7 lk7 hRk7
  have HFk7 := Aside0.mk vk7
  have HRk7 := Aside0.mk hRk7
  have HEk7 := Aside0.mk hLk7
  have HLk7 : Aside0 (Lk7.length ≤ 1000000) := ⟨by rw [← hLk7]; rw [HB.out.e7, List.length_map]; omega⟩
  clear hCk7 hRk7 vk7 hnk7 hLk7
  have HCl : Aside0 (Kd.C kB (W2.drew.alloc (.cells #[] 5)) A n l) := ⟨by
    have z := (V_sl (s := ⟨A, n, c⟩) (HC2.out.stp.V (t := M) (fun h => by have := h.2.2; omega) (rv HRl.out))).2.2
    rw [HNl.out] at z
    exact Kd.C_below z (lit_below W2)⟩
  have ca7 : (W2.alloc (.cells #[] 5)).cell? ⟨g, 7, none⟩ = some (.slice Ak7 nk7 qk7) := pw_cell_below (below_alloc (Below.refl _ _) _) ck7
  refine (fun (REST : ∀ (A22 : Option Addr) (n22 c22 : Nat) (w22 : World) (A23 : Option Addr) (n23 c23 : Nat) (w23 : World), Aside0 (Kd.V kB 0 w22 0 (Tg (newT τ2 W2 w22 2) 2) (.slice A22 n22 c22) ([] ++ l)) → Aside0 (Cur w (w23.setCell ⟨g, 7, none⟩ (Value.slice A23 n23 c23)) τ (newT (newT τ2 W2 w22 2) w22 w23 7) TK (M + 1) base g 1 (upd (upd (upd f 3 (.int .i64 1)) 6 (Value.slice A1 n1 c1)) 7 (Value.slice A23 n23 c23)) (upd (upd S 6 (Lk6 ++ [⟨A, n, c⟩])) 7 (Lk7 ++ [⟨A22, n22, c22⟩])) I ∧ Stp (fun t => t = 1 ∨ t = 7) w22 (w23.setCell ⟨g, 7, none⟩ (Value.slice A23 n23 c23)) (newT τ2 W2 w22 2) (newT (newT τ2 W2 w22 2) w22 w23 7)) → (?G22 : Option Addr → Nat → Nat → World → Option Addr → Nat → Nat → World → Prop) A22 n22 c22 w22 A23 n23 c23 w23) => ?main22) ?rest22
  case main22 =>
    go_region_law (first | ((try rw [show (W2.alloc (.cells #[] 5)).drew = W2.drew.alloc (.cells #[] 5) from rfl]); refine Kd.R_append_rows_step kB (w0 := W2) W2.heap.size (by rfl) (.tmp 28) (.tmp 29) 25 5 (.int .u8 0) 1 rfl Tryz.underlying25 infoB rfl (by decide) (by decide) (.slice (some ⟨W2.heap.size, 0, none⟩) 0 0) ([] : List Int) l A n c (fun _ => True) (fun _ => False) (by rfl) (by rfl) (lit_row W2.drew W2.heap.size (Nat.le_refl _)) HCl.out (fun _ _ h => h) (fun _ h => h.elim) (fun _ _ => trivial) (lit_below W2) (lit_size W2) (by have z := HLn.out; simp only [List.length_nil, Nat.zero_add, Nat.mul_one]; omega) ?_; intro v22 w22 ho hb hg hat; (obtain ⟨A22, n22, c22, ev, HN22⟩ := R_sliceN ho); subst ev; (have HQ22 := Aside0.mk (HC2.out.fresh hb (t := 2) (Nat.lt_of_lt_of_le (by decide) HC2.out.inv.mx))); (have HV22 := Aside0.mk (rv (R_new (τ := τ2) (t := 2) ho))); (have HZ22 : Aside0 (Kd.R kS 25 w22 base (Tg (newT τ2 W2 w22 2) 7) (.slice Ak7 nk7 qk7) (Lk7)) := ⟨by have z := HQ22.out.1.inv.rs 7 (by decide) (by decide); rw [HFk7.out] at z; rw [← HEk7.out]; exact z⟩); (have b22 := HQ22.out.1.inv.blk.cell 7 (by decide)); rw [HFk7.out] at b22; (have d22 : (w22.alloc (.cells #[.slice A22 n22 c22] 25)).cell? ⟨g, 7, none⟩ = some (.slice Ak7 nk7 qk7) := pw_cell_below (below_alloc (Below.refl _ _) _) b22); clear ho hb hg hat) | (refine Kd.R_append_step kS (w0 := w) base (by rfl) (.tmp 27) (.tmp 31) 28 25 (.slice none 0 0) 24 rfl Tryz.underlying28 infoS rfl (by decide) (by decide) (.slice Ak7 nk7 qk7) (Lk7) ⟨A22, n22, c22⟩ [.slice A22 n22 c22] (fun k => Tg (newT τ2 W2 w22 2) 7 k ∨ w22.heap.size ≤ k) (fun _ => False) (by rfl) (by rfl) rfl (fun _ h => h.elim) (fun _ h => .inr h) (Kd.R_mono HZ22.out (fun _ h => .inl h)) HQ22.out.1.bel HQ22.out.1.inv.size (by have z := HLk7.out; omega) ?_; intro v23 w23 ho hb hg hat; (obtain ⟨A23, n23, c23, ev, HN23⟩ := R_sliceN ho); subst ev; (have HP23 := Aside0.mk (HQ22.out.1.pushS (i := 7) (by decide) (by decide) (HT 1 (by decide)) (HT 7 (by decide)) HFk7.out ho hg hb)); (obtain ⟨e23, f23⟩ := HQ22.out.1.inv.stS (i := 7) (by decide) (by decide) HFk7.out hg); clear ho hb hg hat))
    all_goals exact REST A22 n22 c22 w22 A23 n23 c23 w23 HV22 HP23
  case rest22 =>
    intro A22 n22 c22 w22 A23 n23 c23 w23 HV22 HP23
    generalize (w23.setCell ⟨g, 7, none⟩ (Value.slice A23 n23 c23)) = W3 at HP23 ⊢
    have HC3 := Aside0.mk HP23.out.1
    have HV3 := Aside0.mk (HP23.out.2.V (by omega) HV22.out)
    clear ck7 ca7 HRk7 HCl HP23 HV22
    generalize (newT (newT τ2 W2 w22 2) w22 w23 7) = τ3 at HC3 HV3
    obtain ⟨Ak9, qk9, vk9, ck9, lk9, hCk9, hRk9⟩ := HC3.out.inv.cI (i := 9) (by decide) (by decide)
    obtain ⟨Lk9, hLk9⟩ : ∃ L, I 9 = L := ⟨_, rfl⟩
    change _ = Value.slice _ (List.length (I 9)) _ at vk9
    change _ = some (Value.slice _ (List.length (I 9)) _) at ck9
    change List.length (I 9) ≤ _ at lk9
    change Kd.R _ _ _ _ _ (Value.slice _ (List.length (I 9)) _) (I 9) at hRk9
    rw [hLk9] at vk9 ck9 lk9 hRk9
    obtain ⟨nk9, hnk9⟩ : ∃ n, Lk9.length = n := ⟨_, rfl⟩
    rw [hnk9] at vk9 ck9 lk9 hRk9
    have HFk9 := Aside0.mk vk9
    have HRk9 := Aside0.mk hRk9
    have HEk9 := Aside0.mk hLk9
    have HLk9 : Aside0 (Lk9.length ≤ 1000000) := ⟨by rw [← hLk9]; rw [HB.out.i9]; omega⟩
    clear hCk9 hRk9 vk9 hnk9 hLk9
    go_wp2_with ((with_reducible refine gate_builtin (b := .append) (xs := #[.tmp 39, .tmp 41]) rfl ?_); at_builtin; go_must (refine Kd.R_append kI (w0 := w) base rfl (.tmp 39) (.tmp 41) 29 3 (.int .i64 0) 8 rfl Tryz.underlying29 infoI rfl (by decide) (by decide) (.slice Ak9 nk9 qk9) (Lk9) mark [.int .i64 mark] (fun k => Tg τ3 9 k ∨ W3.heap.size ≤ k) (fun _ => False) rfl rfl rfl (fun _ hk => hk.elim) (fun _ hk => .inr hk) (Kd.R_mono HRk9.out (fun _ hk => .inl hk)) HC3.out.bel HC3.out.inv.size (by have z := HLk9.out; omega) ?_); intro v3 w3 ho hb hg hat; (obtain ⟨A3, n3, c3, ev, HN3⟩ := R_sliceN ho); subst ev; (have HP3 := Aside0.mk (HC3.out.pushI (i := 9) (by decide) (by decide) (HT 1 (by decide)) (HT 9 (by decide)) HFk9.out ho hg hb)); (obtain ⟨e3, f3⟩ := HC3.out.inv.stI (i := 9) (by decide) (by decide) HFk9.out hg); clear ho hb hg hat)
    generalize (w3.setCell ⟨g, 9, none⟩ (Value.slice A3 n3 c3)) = W4 at HP3 ⊢
    have HC4 := Aside0.mk HP3.out.1
    have HV4 := Aside0.mk (HP3.out.2.V (by omega) HV3.out)
    clear ck9 e3 f3 HRk9 HP3 HV3
    generalize (newT τ3 W3 w3 9) = τ4 at HC4 HV4
    obtain ⟨Ak10, qk10, vk10, ck10, lk10, hCk10, hRk10⟩ := HC4.out.inv.cI (i := 10) (by decide) (by decide)
    obtain ⟨Lk10, hLk10⟩ : ∃ L, I 10 = L := ⟨_, rfl⟩
    change _ = Value.slice _ (List.length (I 10)) _ at vk10
    change _ = some (Value.slice _ (List.length (I 10)) _) at ck10
    change List.length (I 10) ≤ _ at lk10
    change Kd.R _ _ _ _ _ (Value.slice _ (List.length (I 10)) _) (I 10) at hRk10
    rw [hLk10] at vk10 ck10 lk10 hRk10
    obtain ⟨nk10, hnk10⟩ : ∃ n, Lk10.length = n := ⟨_, rfl⟩
    rw [hnk10] at vk10 ck10 lk10 hRk10
    have HFk10 := Aside0.mk vk10
    have HRk10 := Aside0.mk hRk10
    have HEk10 := Aside0.mk hLk10
    have HLk10 : Aside0 (Lk10.length ≤ 1000000) := ⟨by rw [← hLk10]; rw [HB.out.i10]; omega⟩
    clear hCk10 hRk10 vk10 hnk10 hLk10
    have HRdk10 := Aside0.mk (Kd.R_below HRk10.out (below_drew (Below.refl _ _)))
    have HCd := Aside0.mk (HC4.out.heap (W1 := W4.drew) (below_drew (Below.refl _ _)) rfl)
    obtain ⟨sn, hsn⟩ := HC4.out.inv.c12
    obtain ⟨tn, htn⟩ := HC4.out.inv.c2
    have c12 := HC4.out.inv.blk.cell 12 (by decide)
    rw [hsn] at c12
    have HDu := Aside0.mk (due_calls HCd.out.inv.blk HCd.out.inv.c0 htn sn)
    clear hsn htn
    refine (fun (REST : ∀ (y : Int) (A5 : Option Addr) (n5 c5 : Nat) (w5 : World), Aside0 (Cur w (w5.setCell ⟨g, 10, none⟩ (Value.slice A5 n5 c5)) τ (newT τ4 W4.drew w5 10) TK (M + 1) base g 1 (upd (upd (upd (upd (upd f 3 (.int .i64 1)) 6 (Value.slice A1 n1 c1)) 7 (Value.slice A23 n23 c23)) 9 (Value.slice A3 n3 c3)) 10 (Value.slice A5 n5 c5)) (upd (upd S 6 (Lk6 ++ [⟨A, n, c⟩])) 7 (Lk7 ++ [⟨A22, n22, c22⟩])) (upd (upd I 9 (Lk9 ++ [mark])) 10 (Lk10 ++ [y])) ∧ Stp (fun t => t = 1 ∨ t = 10) W4.drew (w5.setCell ⟨g, 10, none⟩ (Value.slice A5 n5 c5)) τ4 (newT τ4 W4.drew w5 10)) → (?G5 : Int → Option Addr → Nat → Nat → World → Prop) y A5 n5 c5 w5) => ?main5) ?rest5
    case main5 =>
      go_region_law (first | ((try rw [show (W4.alloc (.cells #[.int .i64 y] 3)).drew = W4.drew.alloc (.cells #[.int .i64 y] 3) from rfl]); refine Kd.R_append_step kI (w0 := w) base (by rfl) (.tmp 49) (.tmp 56) 29 3 (.int .i64 0) 8 rfl Tryz.underlying29 infoI rfl (by decide) (by decide) (.slice Ak10 nk10 qk10) (Lk10) y [.int .i64 y] (fun k => Tg τ4 10 k ∨ W4.drew.heap.size ≤ k) (fun _ => False) (by rfl) (by rfl) rfl (fun _ hk => hk.elim) (fun _ hk => .inr hk) (Kd.R_mono HRdk10.out (fun _ hk => .inl hk)) HCd.out.bel HCd.out.inv.size (by have z := HLk10.out; omega) ?_; intro v5 w5 ho hb hg hat; (obtain ⟨A5, n5, c5, ev, HN5⟩ := R_sliceN ho); subst ev; (have HP5 := Aside0.mk (HCd.out.pushI (i := 10) (by decide) (by decide) (HT 1 (by decide)) (HT 10 (by decide)) HFk10.out ho hg hb)); (obtain ⟨e5, f5⟩ := HCd.out.inv.stI (i := 10) (by decide) (by decide) HFk10.out hg); clear ho hb hg hat) | (go_simp; go_at_call 14; go_must (refine HDu.out.mono ?_); rintro en W' ⟨⟨y, rfl⟩, hw⟩; rw [hw]; clear hw W'; (have cay : (W4.alloc (.cells #[.int .i64 y] 3)).cell? ⟨g, 10, none⟩ = some (.slice Ak10 nk10 qk10) := pw_cell_below (below_alloc (Below.refl _ _) _) ck10)))
      all_goals exact REST y A5 n5 c5 w5 HP5
    case rest5 =>
      intro y A5 n5 c5 w5 HP5
      generalize (w5.setCell ⟨g, 10, none⟩ (Value.slice A5 n5 c5)) = W5 at HP5 ⊢
      have HC5 := Aside0.mk HP5.out.1
      have HV5 : Aside0 (Kd.V kB 0 W5 0 (Tg (newT τ4 W4.drew w5 10) 2) (.slice A22 n22 c22) ([] ++ l)) := ⟨HP5.out.2.V (by omega) (Kd.V_step HV4.out (fun _ _ _ => rfl))⟩
      clear ck10 c12 HRk10 HRdk10 HCd HDu HP5 HV4
      generalize (newT τ4 W4.drew w5 10) = τ5 at HC5 HV5
      obtain ⟨sn2, hsn2⟩ := HC5.out.inv.c12
      have c12 := HC5.out.inv.blk.cell 12 (by decide)
      rw [hsn2] at c12
      have f12 := HC5.out.inv.blk.fr 12
      have HI6 := Aside0.mk (HC5.out.inv.seen (wrap64 (sn2 + 1)))
      have HS6 := Aside0.mk (stp_set HC5.out.inv 12 (.int .i64 (wrap64 (sn2 + 1))))
      have HB6 : Aside0 (Below base w (W5.setCell ⟨g, 12, none⟩ (.int .i64 (wrap64 (sn2 + 1))))) := ⟨HC5.out.bel.setCell (p := ⟨g, 12, none⟩) HC5.out.inv.bs _⟩
      have HST : Aside0 (Stp TK w (W5.setCell ⟨g, 12, none⟩ (.int .i64 (wrap64 (sn2 + 1)))) τ τ5) := ⟨(HC5.out.stp.trans HS6.out).mono (fun t e => e.elim id (fun e => by subst e; exact ⟨by decide, by decide, by decide⟩))⟩
      have HBs : Aside0 (Bs (W5.setCell ⟨g, 12, none⟩ (.int .i64 (wrap64 (sn2 + 1)))) τ5 (M + 1) base g 1 _ _ _ (ws ++ [⟨M, ⟨A, n, c⟩, ⟨A22, n22, c22⟩⟩]) os [] []) := ⟨HB.out.hand HC0.out (Nat.lt_succ_self M) h20 (s := ⟨A, n, c⟩) (nt := ⟨A22, n22, c22⟩) HLb.out HI6.out HST.out (HST.out.R (fun h => by have := h.2.2; omega) HRl.out) (HS6.out.V (by omega) HV5.out) rfl rfl (by show Lk6 ++ [_] = _; rw [← HEk6.out]) (by show Lk7 ++ [_] = _; rw [← HEk7.out]) rfl (by show (Lk9 ++ [_]).length = _; rw [← HEk9.out]; simp) (by show (Lk10 ++ [_]).length = _; rw [← HEk10.out]; simp) rfl⟩
      have HDn := Aside0.mk (done_calls HBs.out (by rw [List.length_append]; show 2 * (ws.length + 1) + os.length ≤ _; omega))
      clear hsn2 HI6 HC5 HV5
      go_wp2_with (go_at_call 15; go_must (refine HDn.out.mono ?_))
      rintro en W6 ⟨rfl, τ6, f6, S6, I6, ws6, os6, h1, h2, h3, h4⟩
      have HQ := Aside0.mk (And.intro h1 (And.intro h2 (And.intro h3 h4)))
      clear h1 h2 h3 h4 HDn HBs c12 f12
      go_wp2_with fail
      first | go_end0 | refine bodyPost_ret (results_none rfl _ _ _) rfl ?_
      obtain ⟨h1, h2, h3, h4⟩ := HQ.out
      refine ⟨rfl, τ6, f6, S6, I6, ws6, os6, h1, ?_, (HST.out.frm (fun h => h.1 rfl)).trans h3, HB6.out.trans h4⟩
      rw [List.length_append] at h2
      have h2' : 2 * ws6.length + os6.length = 2 * (ws.length + 1) + os.length := h2
      omega
theorem bytes_calls {w : World} {τ : Nat → Nat} {base g N : Nat} {A : Option Addr} {n c : Nat} {l : List Int} {mark : Int} (hB : Book w τ base g N) (hN : N + 2 ≤ 1000000) (hR : Kd.R kB 5 w base (Tg τ 0) (.slice A n c) l) (hl : l.length ≤ LB) :
    Calls Tryz.prog 8 #[.pointer (some ⟨g, 0, none⟩), .slice A n c, .int .i64 mark] w (BytesPost w τ base g N (.slice A n c)) := by
  obtain ⟨M, f, S, I, ws, os, hb, hn⟩ := hB
  have hmx := hb.inv.mx
  have hlt : ∀ k, (Value.slice A n c).ownBlock = some k → k < w.heap.size := fun k hk => by
    obtain ⟨inner, ho⟩ := Kd.R_own hR
    exact own_lt ho k hk
  have hτ : ∀ k, τ k ≠ 0 → setT τ (.slice A n c) M k = τ k := fun k hk => if_neg (fun e => hk (hR.1 k e.symm))
  have hnew : ∀ k, w.heap.size ≤ k → setT τ (.slice A n c) M k = 0 := fun k hk => by
    unfold setT
    rw [if_neg (fun e => by have := hlt k e.symm; omega)]
    exact hb.inv.new k hk
  have hm : ∀ k, setT τ (.slice A n c) M k < M + 1 := fun k => by
    unfold setT
    split
    · omega
    · have := hb.inv.tm k; omega
  have hm0 : ∀ k, τ k ≠ 0 → setT τ (.slice A n c) M k = τ k := hτ
  have hb1 := hb.retag hτ hnew (Nat.le_succ M) hm
  have hC0 : Con w (setT τ (.slice A n c) M) M base ws os [] := by
    have hT : ∀ t, t ≠ 0 → ∀ k, Tg τ t k → Tg (setT τ (.slice A n c) M) t k := fun t ht k hk => by
      have hk' : τ k = t := hk
      show setT τ _ M k = t
      rw [hτ k (by omega)]; exact hk'
    refine ⟨fun x hx => ?_, fun x hx => ?_, fun x hx => absurd hx List.not_mem_nil, hb.con.ids, hb.con.ow, hb.con.of⟩
    · obtain ⟨l, h1, h2⟩ := hb.con.w x hx
      have h20 := h1.1
      exact ⟨l, ⟨h1.1, h1.2.1, h1.2.2.1, Kd.R_mono h1.2.2.2 (hT _ (by omega))⟩, Kd.V_mono h2 (hT 2 (by omega))⟩
    · obtain ⟨h1, h2, l, h3, h4⟩ := hb.con.o x hx
      exact ⟨h1, h2, l, Kd.V_mono h3 (hT _ (by omega)), Kd.V_mono h4 (hT 2 (by omega))⟩
  have hR' : Kd.R kB 5 w base (Tg (setT τ (.slice A n c) M) M) (.slice A n c) l := Kd.R_mono (Kd.R_tight2 rfl hR) (fun k hk => if_pos hk.1)
  refine (bytes_core hb1 hC0 hmx (by omega) hR' hl).mono ?_
  rintro e w' ⟨rfl, τ', f', S', I', ws', os', h1, h2, h3, h4⟩
  refine ⟨rfl, τ', ⟨M + 1, f', S', I', ws', os', h1, by omega⟩, h4, fun k hk ht hv => h3.keep k hk ?_⟩
  unfold setT
  rw [if_neg hv]
  exact ht
end Go.Proofs.YtlcohooognjmaaaGreatDoor.Kb
namespace Go.Proofs.YtlcohooognjmaaaGreatDoor.Kb
open Go.RowKit Go.Proofs.YtlcohooognjmaaaGreatDoorW.PrintWords Go.Proofs.YtlcohooognjmaaaGreatDoor.Own Go.Proofs.YtlcohooognjmaaaGreatDoor.Wk
set_option linter.unusedVariables false
set_option maxRecDepth 100000
def zeroLit : Array Value := #[.bool false, .bool false, .int .i64 0, .int .i64 0, .slice none 0 0, .slice none 0 0, .slice none 0 0, .slice none 0 0, .slice none 0 0, .slice none 0 0, .slice none 0 0, .slice none 0 0, .int .i64 0, .slice none 0 0, .slice none 0 0, .slice none 0 0, .slice none 0 0, .slice none 0 0, .slice none 0 0, .slice none 0 0, .slice none 0 0, .int .i64 0, .slice none 0 0, .slice none 0 0, .slice none 0 0, .slice none 0 0, .slice none 0 0, .slice none 0 0, .slice none 0 0, .slice none 0 0, .int .i64 0, .slice none 0 0, .slice none 0 0, .slice none 0 0, .slice none 0 0, .slice none 0 0, .slice none 0 0, .slice none 0 0, .slice none 0 0, .int .i64 0, .slice none 0 0, .slice none 0 0, .slice none 0 0, .slice none 0 0, .slice none 0 0, .slice none 0 0, .slice none 0 0, .slice none 0 0, .int .i64 0, .slice none 0 0, .slice none 0 0, .slice none 0 0, .slice none 0 0, .slice none 0 0, .slice none 0 0, .slice none 0 0, .slice none 0 0, .int .i64 0, .slice none 0 0, .slice none 0 0, .slice none 0 0, .slice none 0 0, .slice none 0 0, .slice none 0 0, .slice none 0 0, .slice none 0 0, .int .i64 0, .slice none 0 0, .slice none 0 0, .slice none 0 0, .slice none 0 0, .slice none 0 0, .slice none 0 0, .slice none 0 0, .slice none 0 0, .int .i64 0, .slice none 0 0, .slice none 0 0, .slice none 0 0, .slice none 0 0, .slice none 0 0, .slice none 0 0, .slice none 0 0, .slice none 0 0, .int .i64 0, .slice none 0 0, .slice none 0 0, .slice none 0 0, .slice none 0 0, .slice none 0 0, .slice none 0 0, .slice none 0 0, .slice none 0 0, .int .i64 0, .slice none 0 0, .slice none 0 0, .slice none 0 0, .slice none 0 0, .slice none 0 0, .slice none 0 0, .slice none 0 0, .slice none 0 0, .int .i64 0, .slice none 0 0, .slice none 0 0, .slice none 0 0, .slice none 0 0, .slice none 0 0, .slice none 0 0, .slice none 0 0, .slice none 0 0, .int .i64 0, .slice none 0 0, .slice none 0 0, .slice none 0 0, .slice none 0 0, .slice none 0 0, .slice none 0 0, .slice none 0 0, .slice none 0 0, .int .i64 0, .slice none 0 0, .slice none 0 0, .slice none 0 0, .slice none 0 0, .slice none 0 0, .slice none 0 0, .slice none 0 0, .slice none 0 0, .int .i64 0, .slice none 0 0, .slice none 0 0, .slice none 0 0, .slice none 0 0, .slice none 0 0, .slice none 0 0, .slice none 0 0, .slice none 0 0, .int .i64 0, .slice none 0 0, .slice none 0 0, .slice none 0 0, .slice none 0 0, .slice none 0 0, .slice none 0 0, .slice none 0 0, .slice none 0 0, .int .i64 0, .slice none 0 0, .slice none 0 0, .slice none 0 0, .slice none 0 0, .slice none 0 0, .slice none 0 0, .slice none 0 0, .slice none 0 0, .int .i64 0, .slice none 0 0, .slice none 0 0, .slice none 0 0, .slice none 0 0, .slice none 0 0, .slice none 0 0, .slice none 0 0, .slice none 0 0, .int .i64 0, .slice none 0 0, .slice none 0 0, .slice none 0 0, .slice none 0 0, .slice none 0 0, .slice none 0 0, .slice none 0 0, .slice none 0 0, .int .i64 0]
theorem zero_lit : zeroLit = zeroBook := by kernel_rfl
def newB (g k : Nat) : Nat := if k = g then 1 else 0
theorem Book.begin {W : World} {base g : Nat} (hg : W.heap[g]? = some (.cells zeroLit 49 (0, 0))) (hb : base ≤ g) : Book W (newB g) base g 0 := by
  rw [zero_lit] at hg
  refine ⟨20, zf, fun _ => [], fun _ => [], [], [], ⟨{ blk := ⟨zeroBook, hg, by simp [zeroBook], fun i hi => ?_⟩, bs := hb, tg := if_pos rfl, new := fun k hk => if_neg (by have := blk_lt hg; omega), mx := Nat.le_refl _, tm := fun k => ?_, c0 := rfl, c1 := rfl, c2 := ⟨0, rfl⟩, c3 := rfl, c12 := ⟨0, rfl⟩, ct := fun i h1 h2 => ?_, rs := fun i h1 h2 => ?_, ri := fun i h1 h2 => ?_ }, ⟨fun x hx => absurd hx List.not_mem_nil, fun x hx => absurd hx List.not_mem_nil, fun x hx => absurd hx List.not_mem_nil, List.Pairwise.nil, fun x hx => absurd hx List.not_mem_nil, fun x hx => absurd hx List.not_mem_nil⟩, rfl, rfl, rfl, rfl, rfl, rfl, rfl, rfl⟩, Nat.le_refl _⟩
  · simp [zeroBook, hi]
  · unfold newB; split <;> omega
  · unfold zf
    rw [if_neg (by omega), if_neg (by omega), if_neg (by omega)]
  · have e : zf i = .slice none 0 0 := by
      unfold zf
      rw [if_neg (by omega), if_neg (by omega), if_pos (by omega)]
    rw [e]; exact Kd.R_nil _ _ _ _ _
  · have e : zf i = .slice none 0 0 := by
      unfold zf
      rw [if_neg (by omega), if_neg (by omega), if_pos (by omega)]
    rw [e]; exact Kd.R_nil _ _ _ _ _
end Go.Proofs.YtlcohooognjmaaaGreatDoor.Kb
namespace Go.Proofs.YtlcohooognjmaaaGreatDoor.Kb
open Go.RowKit Go.Proofs.YtlcohooognjmaaaGreatDoorW.PrintWords Go.Proofs.YtlcohooognjmaaaGreatDoor.Own Go.Proofs.YtlcohooognjmaaaGreatDoor.Wk
set_option linter.unusedVariables false
set_option maxRecDepth 100000
theorem run_build_book (W : World) : (Instr.build 49 #[]).run Tryz.prog W = .ok (.agg zeroLit) W := by kernel_rfl
theorem cells_book : (Value.agg zeroLit).cells = zeroLit := by kernel_rfl
end Go.Proofs.YtlcohooognjmaaaGreatDoor.Kb
