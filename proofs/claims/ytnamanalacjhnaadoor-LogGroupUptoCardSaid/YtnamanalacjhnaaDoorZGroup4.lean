/- LogGroup returns true, and leaves its arguments as they were, where they hold together at most 1048576 values and letters; the table of four bits' sums reads as the program's text lays it (tied by the card). -/
import Derived.Test.YtnamanalacjhnaaDoorZGroup2
import Derived.Test.YtnamanalacjhnaaDoorZGroup3
import Derived.Test.YtnamanalacjhnaaDoorRows
import Derived.WalkKit
import Derived.ProofKit
import Derived.OpenShut
import Derived.Test.YtnamanalacjhnaaDoorWWords
import Derived.Deep.Slices
import Derived.Deep.Fields
import Derived.ChangeSame
import Derived.ChangeArms
import Derived.SizedLaws
import Derived.Test.YtnamanalacjhnaaDoorZGroup1
import Derived.Test.YtnamanalacjhnaaDoorCards
import Derived.Test.YtnamanalacjhnaaDoorTie
import Derived.ShutString
import Derived.ChangeOld
import Derived.Below
import Derived.Deep.DeepHandedRow
import Derived.Lib.LaidTab
import Derived.JoinedCond
import Derived.Deep.CondSized
import Derived.Test.YtnamanalacjhnaaDoorWSized
/- A record of a group goes into a log and comes out again: the law's own example (this claim's own lemmas). -/
namespace Go.Proofs.YtnamanalacjhnaaDoor.Pu
open Go.RowKit Go.Proofs.YtnamanalacjhnaaDoorW.PrintWords Go.Proofs.YtnamanalacjhnaaDoor.Own Go.Proofs.YtnamanalacjhnaaDoor.U Go.Proofs.YtnamanalacjhnaaDoor.QBk
open Go.Proofs.YtnamanalacjhnaaDoor.Sm (parts partsG)
open Go.Proofs.YtnamanalacjhnaaDoor.Lg Go.Proofs.YtnamanalacjhnaaDoor.Lr
set_option linter.unusedVariables false
def g0 : List (List Wr) := [[(⟨(⟨#[97]⟩ : ByteArray), false, (⟨#[49]⟩ : ByteArray)⟩ : Wr), (⟨(⟨#[98]⟩ : ByteArray), true, (⟨#[]⟩ : ByteArray)⟩ : Wr)], []]
def r0 : List Int := [172, 2, 2, 2, 0, 1, 97, 1, 49, 1, 1, 98, 0]
theorem numL_300 : numL 300 = [172, 2] := by
  rw [numL_big (by decide), show 300 / 128 = 2 from rfl, numL_small (by decide)]
  rfl
theorem put_g0 : putL 300 g0 = r0 := by
  have h2 : numL 2 = [2] := numL_small (by decide)
  have h1 : numL 1 = [1] := numL_small (by decide)
  have h0 : numL 0 = [0] := numL_small (by decide)
  have ha : txL (⟨#[97]⟩ : ByteArray) = [1, 97] := by
    unfold txL
    rw [show (⟨#[97]⟩ : ByteArray).size = 1 from rfl, h1]
    rfl
  have hb : txL (⟨#[98]⟩ : ByteArray) = [1, 98] := by
    unfold txL
    rw [show (⟨#[98]⟩ : ByteArray).size = 1 from rfl, h1]
    rfl
  have hv : txL (⟨#[49]⟩ : ByteArray) = [1, 49] := by
    unfold txL
    rw [show (⟨#[49]⟩ : ByteArray).size = 1 from rfl, h1]
    rfl
  unfold putL batL g0
  simp only [List.flatMap_cons, List.flatMap_nil, List.length_cons, List.length_nil, List.append_nil, wrL]
  rw [numL_300, show (0 + 1 + 1 : Nat) = 2 from rfl, h2, h0, ha, hb, hv]
  rfl
theorem r0_bytes : Bytes r0 := by rw [← put_g0]; exact put_bytes _ _
theorem append_bytes (a : Nat) (r : List Int) (h : Bytes r) : Bytes (appendL (a : Int) r) := by
  rw [append_nat]
  split
  · rename_i hh
    refine Go.Proofs.YtnamanalacjhnaaDoor.G.bytes_app (fun y hy => ?_) (pieces_bytes r.length _ _ _ (Nat.le_refl _) (by omega) h)
    rw [List.mem_replicate] at hy
    omega
  · exact pieces_bytes r.length _ _ _ (Nat.le_refl _) (by omega) h
theorem append_eq (a : Nat) (r : List Int) (h : Bytes r) (hl : r.length ≤ 1073741824) (ha : a ≤ 9223372036854775807) : log_Append.f (a : Int) r = some (appendL (a : Int) r) := by
  unfold log_Append.f
  rw [if_pos ⟨okB_iff.2 h, hl, by omega⟩]
theorem read_eq (l : List Int) (h : Bytes l) (hl : l.length ≤ 2147483647) : log_Read.f l = some ((readL l).1, ((readL l).2.1 : Int), (readL l).2.2) := by
  unfold log_Read.f
  rw [if_pos ⟨okB_iff.2 h, hl⟩]
theorem same_eq (l m : List Int) (h : l.length ≤ 9223372036854775807) : screelaw7_same.f l m = some (decide (l = m)) := by
  unfold screelaw7_same.f
  rw [if_pos h]
theorem known_ev : Ev (fun k => screelaw7_known.f k) true := by
  have hput := put_ev 300 g0 (by decide) (by decide)
  rw [put_g0] at hput
  have hA : log_Append.f 0 r0 = some (appendL ((0 : Nat) : Int) r0) := append_eq 0 r0 r0_bytes (by decide) (by decide)
  obtain ⟨b, hb⟩ : ∃ b, b = appendL ((0 : Nat) : Int) r0 := ⟨_, rfl⟩
  have hlen : b.length = 20 := by rw [hb, append_nat, if_neg (by decide), pieces_last (by decide), Go.Proofs.YtnamanalacjhnaaDoor.Lg.piece_len]; rfl
  have hbb : Bytes b := by rw [hb]; exact append_bytes 0 r0 r0_bytes
  have hrb := read_back [r0]
  rw [show layAll [] [r0] = b by rw [hb]; simp [layAll], hlen] at hrb
  have hR : log_Read.f b = some ([r0], ((20 : Nat) : Int), 0) := by rw [read_eq b hbb (by omega), hrb]
  have hS : screelaw7_same.f r0 r0 = some true := by rw [same_eq _ _ (by decide)]; simp
  have hG : log_Get.f r0 = some (300, g0, 0) := by
    have hg := get_put 300 g0 (by decide) (by decide) (by
      intro l hl
      simp only [g0, List.mem_cons, List.not_mem_nil, or_false] at hl
      rcases hl with rfl | rfl
      · refine ⟨by decide, fun x hx => ?_⟩
        simp only [List.mem_cons, List.not_mem_nil, or_false] at hx
        rcases hx with rfl | rfl
        · exact ⟨by decide, by decide, fun _ => by decide⟩
        · exact ⟨by decide, by decide, fun h => by cases h⟩
      · exact ⟨by decide, fun x hx => by cases hx⟩) (by decide)
    rw [put_g0] at hg
    unfold log_Get.f
    rw [if_pos ⟨okB_iff.2 r0_bytes, by decide⟩, hg]
    rfl
  have hSG := groups_ev g0 (by decide) (by decide)
  unfold screelaw7_known.f
  refine Ev.congr (g := _) (f := fun k => (log_Put.f k 300 g0).bind _) (fun k => rfl) (Ev.bind hput ?_)
  refine Ev.congr (f := fun k => screelaw7_known.j0 k g0 [r0] false) (fun k => ?_) (Ev.step (f := fun k => (screelaw7_sameGroups.f k g0 g0).bind fun t => (if t = true then ((screelaw7_num.f 0).bind fun t260 => (some (t260 == 0))) else (some false))) (fun k => ?_) (Ev.bind hSG ?_))
  · rw [show (([172, 2, 2, 2, 0, 1, 97, 1, 49, 1, 1, 98, 0] : List Int)) = r0 from rfl, hS, Option.bind_some, if_pos rfl, hA, Option.bind_some, ← hb, hR, Option.bind_some]
    dsimp only
    rw [if_pos (by omega), if_pos (by decide), if_pos (by decide), show rd_L1 [r0] 0 = r0 from rfl, hS, Option.bind_some, if_pos rfl, if_pos (by decide)]
    rfl
  · rw [screelaw7_known.j0, if_neg (by decide), if_pos (by decide), show rd_L1 [r0] 0 = r0 from rfl, hG, Option.bind_some]
    dsimp only
    rw [if_pos rfl]
  · exact Ev.congr (fun k => by rw [if_pos rfl]; rfl) (Ev.now true)
end Go.Proofs.YtnamanalacjhnaaDoor.Pu
-- Printed by a program of this claim's own out of the translation.
namespace Go.Proofs.YtnamanalacjhnaaDoor.QBk
open Go.Proofs.YtnamanalacjhnaaDoor.Own
open Go.RowKit Go.Proofs.YtnamanalacjhnaaDoorW.PrintWords Go.Proofs.YtnamanalacjhnaaDoorW.PrintLast Go.Proofs.YtnamanalacjhnaaDoorW.PrintMore
attribute [local go_sem] max2_int min2_int max_two min_two max_three min_three max_four min_four   -- for this text's walks alone
set_option linter.unusedVariables false
set_option linter.unusedSimpArgs false

/-! ### screeroom_Many: function 51 -/
/-! ### screeroom_Count_Ok: function 53 -/
/-! ### screeroom_Count_Add: function 67 -/
/-! ### screeroom_Count_Text: function 73 -/
/-! ### screeroom_Count_Writes: function 68 -/
-- NOT PRINTED: function 52 (screeroom_Count_Groups)

/-! ### screelaw7_small: function 22 -/
open Go.Proofs.YtnamanalacjhnaaDoor.Sm
def screelaw7_small.f (l0 : List (List (S67))) : Option Bool := if l0.length ≤ 140737488351232 ∧ (∀ l ∈ l0, l.length ≤ 140737488351232) ∧ (∀ l ∈ l0, ∀ x ∈ l, x.f0.size ≤ 140737488351232 ∧ x.f2.size ≤ 140737488351232) then some (decide (0 ≤ cntG 32768 l0)) else none
theorem screelaw7_small.calls (A0 : Option Addr) (c0 : Nat) (l0 : List (List (S67))) (r : Bool) (w : World) (hr0 : Kd.C (Kd.slice 67 k67) w A0 l0.length l0) (hc0 : l0.length ≤ c0) (h : screelaw7_small.f l0 = some r) :
    Calls Tryd.prog 22 #[.slice A0 l0.length c0] w fun e w' => e = .returned (.bool r) ∧ Below w.heap.size w w' := by
  unfold screelaw7_small.f at h
  split at h
  · rename_i hh
    rw [← Option.some.inj h]
    exact small_calls ⟨rfl, hc0, hr0⟩ hh.1 hh.2.1 hh.2.2
  · cases h

/-! ### ikey_Check: function 54 -/
/-! ### ikey_CheckBatch: function 23 -/
end Go.Proofs.YtnamanalacjhnaaDoor.QBk
-- Printed by a program of this claim's own out of the translation.
namespace Go.Proofs.YtnamanalacjhnaaDoor.QBk
open Go.Proofs.YtnamanalacjhnaaDoor.Own
open Go.RowKit Go.Proofs.YtnamanalacjhnaaDoorW.PrintWords Go.Proofs.YtnamanalacjhnaaDoorW.PrintLast Go.Proofs.YtnamanalacjhnaaDoorW.PrintMore
attribute [local go_sem] max2_int min2_int max_two min_two max_three min_three max_four min_four   -- for this text's walks alone
set_option linter.unusedVariables false
set_option linter.unusedSimpArgs false

/-! ### screelaw7_LogGroup: function 7 -/
mutual
def screelaw7_LogGroup.l0 : Nat → Int → List (List (S67)) → List (List (S67)) → Int → Int → Option (Bool)
  | 0, _, _, _, _, _ => none
  | k + 1, x0, x1, x5, x6, x7 => if x7 < (x1.length : Int) then (if 0 ≤ x7 then ((ikey_CheckBatch.f k (rd_L5 x1 x7)).bind fun t344 => ((screelaw7_num.f t344).bind fun t345 => (if t345 = 0 then (if ([] : List (S67)).length + (rd_L5 x1 x7).length < 3518437208883 then (screelaw7_LogGroup.l1 k x0 x1 x5 x6 x7 (([] : List (S67)) ++ (rd_L5 x1 x7)) 0) else (none)) else (some true)))) else (none)) else (if x6 > 0 then (if x0 > 72057594037927935 then (screelaw7_LogGroup.j2 k x0 x1 x5 true) else (screelaw7_LogGroup.j2 k x0 x1 x5 (decide ((IntKind.u64.wrap (x6 - 1)) > (IntKind.u64.wrap (72057594037927935 - x0)))))) else (screelaw7_LogGroup.j2 k x0 x1 x5 false))
def screelaw7_LogGroup.l1 : Nat → Int → List (List (S67)) → List (List (S67)) → Int → Int → List (S67) → Int → Option (Bool)
  | 0, _, _, _, _, _, _, _ => none
  | k + 1, x0, x1, x5, x6, x7, x8, x9 => if x9 < (x8.length : Int) then (if 0 ≤ x9 then (if (rd_T67 x8 x9).f1 = true then (screelaw7_LogGroup.l1 k x0 x1 x5 x6 x7 (x8.set (x9 : Int).toNat (⟨(rd_T67 x8 x9).f0, (rd_T67 x8 x9).f1, (⟨#[]⟩ : ByteArray)⟩ : S67)) (wrap64 (x9 + 1))) else (screelaw7_LogGroup.l1 k x0 x1 x5 x6 x7 x8 (wrap64 (x9 + 1)))) else (none)) else (if x5.length < 5864062014805 then (screelaw7_LogGroup.l0 k x0 x1 (x5 ++ [x8]) (IntKind.u64.wrap (x6 + (IntKind.u64.wrap ((x8.length : Int))))) (wrap64 (x7 + 1))) else (none))
def screelaw7_LogGroup.j2 : Nat → Int → List (List (S67)) → List (List (S67)) → Bool → Option (Bool)
  | 0, _, _, _, _ => none
  | k + 1, x0, x1, x5, x73 => if x73 = true then (some true) else ((log_Put.f k x0 x1).bind fun t355 => ((log_Get.f t355).bind fun bt358 => (if bt358.1 = x0 then ((screelaw7_sameGroups.f k bt358.2.1 x5).bind fun t363 => (if t363 = true then ((screelaw7_num.f bt358.2.2).bind fun t364 => (some (t364 == 0))) else (some false))) else (some false))))
end
def screelaw7_LogGroup.f (k : Nat) (a0 : Int) (l1 : List (List (S67))) : Option (Bool) := (screelaw7_small.f l1).bind fun t341 => (if t341 = true then ((screelaw7_known.f k).bind fun t342 => (if t342 = true then (screelaw7_LogGroup.l0 k a0 l1 ([] : List (List (S67))) 0 0) else (some false))) else (some true))
theorem screelaw7_LogGroup.mono_l : ∀ k, (∀ y0 y1 y2 y3 y4, LeO (screelaw7_LogGroup.l0 k y0 y1 y2 y3 y4) (screelaw7_LogGroup.l0 (k + 1) y0 y1 y2 y3 y4)) ∧ (∀ y0 y1 y2 y3 y4 y5 y6, LeO (screelaw7_LogGroup.l1 k y0 y1 y2 y3 y4 y5 y6) (screelaw7_LogGroup.l1 (k + 1) y0 y1 y2 y3 y4 y5 y6)) ∧ (∀ y0 y1 y2 y3, LeO (screelaw7_LogGroup.j2 k y0 y1 y2 y3) (screelaw7_LogGroup.j2 (k + 1) y0 y1 y2 y3))
  | 0 => ⟨fun _ _ _ _ _ r h => by simp [screelaw7_LogGroup.l0] at h, fun _ _ _ _ _ _ _ r h => by simp [screelaw7_LogGroup.l1] at h, fun _ _ _ _ r h => by simp [screelaw7_LogGroup.j2] at h⟩
  | k + 1 => by
    obtain ⟨ih0, ih1, ih2⟩ := screelaw7_LogGroup.mono_l k
    refine ⟨?_, ?_, ?_⟩
    · intro y0 y1 y2 y3 y4
      unfold screelaw7_LogGroup.l0
      repeat' first
      | (with_reducible exact ih0 _ _ _ _ _)
      | (with_reducible exact ih1 _ _ _ _ _ _ _)
      | (with_reducible exact ih2 _ _ _ _)
      | (with_reducible exact ikey_CheckBatch.mono _ _)
      | (with_reducible exact log_Put.mono _ _ _)
      | (with_reducible exact screelaw7_known.mono _)
      | (with_reducible exact screelaw7_sameGroups.mono _ _ _)
      | (with_reducible exact LeO.refl _)
      | (with_reducible exact LeO.none _)
      | (with_reducible refine LeO.ite ?_ ?_)
      | (with_reducible refine LeO.bind ?_ (fun _ => ?_))
      | exact ih0 _ _ _ _ _
      | exact ih1 _ _ _ _ _ _ _
      | exact ih2 _ _ _ _
      | exact ikey_CheckBatch.mono _ _
      | exact log_Put.mono _ _ _
      | exact screelaw7_known.mono _
      | exact screelaw7_sameGroups.mono _ _ _
      | exact LeO.none _
      | refine LeO.ite ?_ ?_
      | refine LeO.bind ?_ (fun _ => ?_)
    · intro y0 y1 y2 y3 y4 y5 y6
      unfold screelaw7_LogGroup.l1
      repeat' first
      | (with_reducible exact ih0 _ _ _ _ _)
      | (with_reducible exact ih1 _ _ _ _ _ _ _)
      | (with_reducible exact ih2 _ _ _ _)
      | (with_reducible exact ikey_CheckBatch.mono _ _)
      | (with_reducible exact log_Put.mono _ _ _)
      | (with_reducible exact screelaw7_known.mono _)
      | (with_reducible exact screelaw7_sameGroups.mono _ _ _)
      | (with_reducible exact LeO.refl _)
      | (with_reducible exact LeO.none _)
      | (with_reducible refine LeO.ite ?_ ?_)
      | (with_reducible refine LeO.bind ?_ (fun _ => ?_))
      | exact ih0 _ _ _ _ _
      | exact ih1 _ _ _ _ _ _ _
      | exact ih2 _ _ _ _
      | exact ikey_CheckBatch.mono _ _
      | exact log_Put.mono _ _ _
      | exact screelaw7_known.mono _
      | exact screelaw7_sameGroups.mono _ _ _
      | exact LeO.none _
      | refine LeO.ite ?_ ?_
      | refine LeO.bind ?_ (fun _ => ?_)
    · intro y0 y1 y2 y3
      unfold screelaw7_LogGroup.j2
      repeat' first
      | (with_reducible exact ih0 _ _ _ _ _)
      | (with_reducible exact ih1 _ _ _ _ _ _ _)
      | (with_reducible exact ih2 _ _ _ _)
      | (with_reducible exact ikey_CheckBatch.mono _ _)
      | (with_reducible exact log_Put.mono _ _ _)
      | (with_reducible exact screelaw7_known.mono _)
      | (with_reducible exact screelaw7_sameGroups.mono _ _ _)
      | (with_reducible exact LeO.refl _)
      | (with_reducible exact LeO.none _)
      | (with_reducible refine LeO.ite ?_ ?_)
      | (with_reducible refine LeO.bind ?_ (fun _ => ?_))
      | exact ih0 _ _ _ _ _
      | exact ih1 _ _ _ _ _ _ _
      | exact ih2 _ _ _ _
      | exact ikey_CheckBatch.mono _ _
      | exact log_Put.mono _ _ _
      | exact screelaw7_known.mono _
      | exact screelaw7_sameGroups.mono _ _ _
      | exact LeO.none _
      | refine LeO.ite ?_ ?_
      | refine LeO.bind ?_ (fun _ => ?_)
theorem screelaw7_LogGroup.mono : ∀ a0 a1 k, LeO (screelaw7_LogGroup.f k a0 a1) (screelaw7_LogGroup.f (k + 1) a0 a1) := by
  intro a0 a1 k
  obtain ⟨ih0, ih1, ih2⟩ := screelaw7_LogGroup.mono_l k
  unfold screelaw7_LogGroup.f
  repeat' first
      | (with_reducible exact ih0 _ _ _ _ _)
      | (with_reducible exact ih1 _ _ _ _ _ _ _)
      | (with_reducible exact ih2 _ _ _ _)
      | (with_reducible exact ikey_CheckBatch.mono _ _)
      | (with_reducible exact log_Put.mono _ _ _)
      | (with_reducible exact screelaw7_known.mono _)
      | (with_reducible exact screelaw7_sameGroups.mono _ _ _)
      | (with_reducible exact LeO.refl _)
      | (with_reducible exact LeO.none _)
      | (with_reducible refine LeO.ite ?_ ?_)
      | (with_reducible refine LeO.bind ?_ (fun _ => ?_))
      | exact ih0 _ _ _ _ _
      | exact ih1 _ _ _ _ _ _ _
      | exact ih2 _ _ _ _
      | exact ikey_CheckBatch.mono _ _
      | exact log_Put.mono _ _ _
      | exact screelaw7_known.mono _
      | exact screelaw7_sameGroups.mono _ _ _
      | exact LeO.none _
      | refine LeO.ite ?_ ?_
      | refine LeO.bind ?_ (fun _ => ?_)
set_option maxHeartbeats 8000000 in
set_option maxRecDepth 100000 in
theorem screelaw7_LogGroup.calls (k : Nat) (a0 : Int) (A1 : Option Addr) (c1 : Nat) (l1 : List (List (S67))) (r : Bool) (w : World) (hr1 : Kd.C (Kd.slice 67 k67) w A1 l1.length l1) (hc1 : l1.length ≤ c1) (h : screelaw7_LogGroup.f k a0 l1 = some r) (hT_ : GT w) :
    Calls Tryd.prog 7 #[.int .u64 a0, .slice A1 l1.length c1] w fun e w' => e = .returned (.bool r) ∧ Below w.heap.size w w' := by
  have HT_ := Aside0.mk hT_
  clear hT_
  have HR1 := Aside0.mk hr1
  have HC1 := Aside0.mk hc1
  clear hr1 hc1
  have HB := Aside0.mk (Below.refl w.heap.size w)
  have H : ((screelaw7_small.f l1).bind fun t341 => (if t341 = true then ((screelaw7_known.f k).bind fun t342 => (if t342 = true then (screelaw7_LogGroup.l0 k a0 l1 ([] : List (List (S67))) 0 0) else (some false))) else (some true))) = some r := h
  clear h
  replace H := Option.bind_eq_some_iff.mp H
  obtain ⟨t341, A30, H⟩ := H
  replace H : (if t341 = true then ((screelaw7_known.f k).bind fun t342 => (if t342 = true then (screelaw7_LogGroup.l0 k a0 l1 ([] : List (List (S67))) 0 0) else (some false))) else (some true)) = some r := H
  have A3 := Aside0.mk A30
  clear A30
  by_cases c4 : t341 = true
  · subst c4
    have H1 : ((screelaw7_known.f k).bind fun t342 => (if t342 = true then (screelaw7_LogGroup.l0 k a0 l1 ([] : List (List (S67))) 0 0) else (some false))) = some r := by rw [if_pos rfl] at H; exact H
    clear H
    have H := H1
    clear H1
    replace H := Option.bind_eq_some_iff.mp H
    obtain ⟨t342, A50, H⟩ := H
    replace H : (if t342 = true then (screelaw7_LogGroup.l0 k a0 l1 ([] : List (List (S67))) 0 0) else (some false)) = some r := H
    have A5 := Aside0.mk A50
    clear A50
    by_cases c6 : t342 = true
    · subst c6
      have H1 : (screelaw7_LogGroup.l0 k a0 l1 ([] : List (List (S67))) 0 0) = some r := by rw [if_pos rfl] at H; exact H
      clear H
      have H := H1
      clear H1
      have H' := Aside0.mk H
      clear H
      go_enter Tryd.func7, Tryd.ntmps7
      go_wp2_with (first | ((with_reducible refine gate_callee (f := 22) rfl ?_); refine goesL_ (some 14) rfl rfl Tryd.func22 (by kernel_rfl) rfl #[.slice A1 l1.length c1] rfl (by (try simp only [List.map_toArray, List.map_cons, List.map_nil]); first | done | rfl | (simp only [List.length_drop, List.length_take]; rfl)) ?_; (with_reducible refine (screelaw7_small.calls _ _ l1 true _ ?side1 ?side2 A3.out).mono ?_); (case side1 => repeat (first | exact HR1.out | (with_reducible refine Kd.C_alloc ?_ _) | (with_reducible refine Kd.C_drewN ?_ _) | (with_reducible refine Kd.C_drew ?_))); (case side2 => exact HC1.out); rintro e w7 ⟨rfl, hb⟩; refine ⟨_, rfl, ?_⟩; have n0_ := Aside0.mk (below_step (by repeat (first | (with_reducible first | exact HB.out | apply below_alloc | apply pw_below_drewN | apply below_drew1) | exact HB.out)) hb); clear HB; have HB := n0_; clear n0_; (try clear hb); (try clear hb2); (try clear hk); (try clear hi)) | ((with_reducible refine gate_callee (f := 20) rfl ?_); refine goesL_ (some 16) rfl rfl Tryd.func20 (by kernel_rfl) rfl #[] rfl (by (try simp only [List.map_toArray, List.map_cons, List.map_nil]); first | done | rfl | (simp only [List.length_drop, List.length_take]; rfl)) ?_; (with_reducible refine (screelaw7_known.calls k  true _ A5.out ?side1).mono ?_); (case side1 => first | (with_reducible exact HT_.out) | exact GT.below HT_.out (by repeat (first | (with_reducible first | exact HB.out | apply below_alloc | apply pw_below_drewN | apply below_drew1) | exact HB.out))); rintro e w8 ⟨rfl, hb⟩; refine ⟨_, rfl, ?_⟩; have n0_ := Aside0.mk (below_step (by repeat (first | (with_reducible first | exact HB.out | apply below_alloc | apply pw_below_drewN | apply below_drew1) | exact HB.out)) hb); clear HB; have HB := n0_; clear n0_; (try clear hb); (try clear hb2); (try clear hk); (try clear hi)))
      go_loopg [5, 6, 7] k (fun kq v5 v6 v7 w' => ∃ (x5_1 : List (List (S67))) (x6_1 : Int) (x7_1 : Int), v6 = .int .u64 x6_1 ∧ v7 = .int .i64 x7_1 ∧ Aside0 (screelaw7_LogGroup.l0 kq a0 l1 x5_1 x6_1 x7_1 = some r) ∧ Aside0 (kq ≤ k) ∧ Aside0 (Kd.S (Kd.slice 67 k67) 65 w' w.heap.size (fun _ => True) v5 x5_1) ∧ Aside0 (Below w.heap.size w w'))
      case atStart => exact ⟨(([] : List (List (S67)))), (0), (0), (by first | rfl | (simp; done) | (simp [*]; done)), (by first | rfl | (simp; done) | (simp [*]; done)), H', ⟨Nat.le_refl _⟩, ⟨by first | exact Kd.S_nil _ _ _ _ _ | exact Kd.N_nil _ _ _ _ _ | exact Kd.V_nil _ _ _ _ _ | exact Kd.Q_nil _ _ _ _ _ | exact Kd.R_nil _ _ _ _ _⟩, ⟨by repeat (first | (with_reducible first | exact HB.out | apply below_alloc | apply pw_below_drewN | apply below_drew1) | exact HB.out)⟩⟩
      case round =>
        clear H'
        try clear c1
        try clear c2
        try clear p2
        try clear c4
        try clear c6
        try clear c7
        obtain ⟨x5_1, x6_1, x7_1, rfl, rfl, HA, HK1, HO_5, HB⟩ := hrel
        cases gk with
        | zero => exact absurd HA.out (by simp [screelaw7_LogGroup.l0])
        | succ k1 =>
          have H := HA.out
          clear HA
          simp only [screelaw7_LogGroup.l0] at H
          by_cases c9 : x7_1 < (l1.length : Int)
          · rw [if_pos c9] at H
            have c9b0 : decide (x7_1 < (l1.length : Int)) = true := decide_eq_true c9
            clear c9
            by_cases c10 : 0 ≤ x7_1
            · rw [if_pos c10] at H
              have c10b0 : decide (0 ≤ x7_1) = true := decide_eq_true c10
              clear c10
              replace H := Option.bind_eq_some_iff.mp H
              obtain ⟨t344, A110, H⟩ := H
              replace H : ((screelaw7_num.f t344).bind fun t345 => (if t345 = 0 then (if ([] : List (S67)).length + (rd_L5 l1 x7_1).length < 3518437208883 then (screelaw7_LogGroup.l1 k1 a0 l1 x5_1 x6_1 x7_1 (([] : List (S67)) ++ (rd_L5 l1 x7_1)) 0) else (none)) else (some true))) = some r := H
              have A11 := Aside0.mk A110
              clear A110
              replace H := Option.bind_eq_some_iff.mp H
              obtain ⟨t345, A120, H⟩ := H
              replace H : (if t345 = 0 then (if ([] : List (S67)).length + (rd_L5 l1 x7_1).length < 3518437208883 then (screelaw7_LogGroup.l1 k1 a0 l1 x5_1 x6_1 x7_1 (([] : List (S67)) ++ (rd_L5 l1 x7_1)) 0) else (none)) else (some true)) = some r := H
              have A12 := Aside0.mk A120
              clear A120
              by_cases c13 : t345 = 0
              · rw [if_pos c13] at H
                have c13b0 : (t345 == 0) = true := beq_iff_eq.mpr c13
                have c13b1 : (t345 != 0) = false := bne_eq_false_iff_eq.mpr c13
                clear c13
                by_cases c14 : ([] : List (S67)).length + (rd_L5 l1 x7_1).length < 3518437208883
                · rw [if_pos c14] at H
                  have LMc14 := Aside0.mk c14
                  clear c14
                  obtain ⟨y347, hy347⟩ : ∃ y_ : List (S67), y_ = (([] : List (S67)) ++ (rd_L5 l1 x7_1)) := ⟨_, rfl⟩
                  replace H : (screelaw7_LogGroup.l1 k1 a0 l1 x5_1 x6_1 x7_1 y347 0) = some r := by first | (rw [hy347]; with_reducible exact H) | (have H2_ := (Option.bind_some _ _).symm.trans H; rw [hy347]; with_reducible exact H2_) | (have H2_ := (Option.bind_some _ _).symm.trans H; with_reducible exact H2_) | with_reducible exact H | (rw [hy347]; exact H) | exact H
                  have Ny347 := Aside0.mk hy347
                  clear hy347
                  have H' := Aside0.mk H
                  clear H
                  have p343 : 0 ≤ (x7_1 : Int) := of_decide_eq_true (by first | (with_reducible assumption) | assumption)
                  have q343 : x7_1 < (l1.length : Int) := of_decide_eq_true (by first | (with_reducible assumption) | assumption)
                  obtain ⟨ad343, A343_0, c343_0, e343, hx343_0, hl343_0, hi343_0⟩ := at_L5 HR1.out x7_1 p343 q343
                  cases e343
                  replace hx343_0 := (HB.out.cell (World.block_lt_of_cell? w _ hx343_0)).trans hx343_0
                  have HR343_0 := Aside0.mk hi343_0
                  have HC343_0 := Aside0.mk hl343_0
                  clear hi343_0 hl343_0
                  replace p343 := eq_true p343
                  replace q343 := eq_true q343
                  go_wp2_with (first | ((with_reducible refine gate_callee (f := 23) rfl ?_); refine goesL_ (some 28) rfl rfl Tryd.func23 (by kernel_rfl) rfl #[.slice A343_0 (rd_L5 l1 x7_1).length c343_0] rfl (by (try simp only [List.map_toArray, List.map_cons, List.map_nil]); first | done | rfl | (simp only [List.length_drop, List.length_take]; rfl)) ?_; (with_reducible refine (ikey_CheckBatch.calls k1 _ _ (rd_L5 l1 x7_1) t344 _ ?side1 ?side2 A11.out).mono ?_); (case side1 => repeat (first | exact (Kd.C_below HR343_0.out HB.out) | (with_reducible refine Kd.C_alloc ?_ _) | (with_reducible refine Kd.C_drewN ?_ _) | (with_reducible refine Kd.C_drew ?_))); (case side2 => exact HC343_0.out); rintro e w15 ⟨rfl, hb⟩; refine ⟨_, rfl, ?_⟩; have n0_ := Aside0.mk (Kd.S_below (by (with_reducible repeat (first | apply Kd.S_alloc | apply Kd.S_drewN | apply Kd.S_drew)); exact HO_5.out) hb); have n1_ := Aside0.mk (below_step (by repeat (first | (with_reducible first | exact HB.out | apply below_alloc | apply pw_below_drewN | apply below_drew1) | exact HB.out)) hb); clear HO_5; clear HB; have HO_5 := n0_; have HB := n1_; clear n0_ n1_; (try clear hb); (try clear hb2); (try clear hk); (try clear hi)) | ((with_reducible refine gate_callee (f := 18) rfl ?_); refine goesL_ (some 29) rfl rfl Tryd.func18 (by kernel_rfl) rfl #[.int .i64 t344] rfl (by (try simp only [List.map_toArray, List.map_cons, List.map_nil]); first | done | rfl | (simp only [List.length_drop, List.length_take]; rfl)) ?_; (with_reducible refine (screelaw7_num.calls t344 t345 _ A12.out).mono ?_); rintro e w' ⟨rfl, ⟨nd, rfl⟩⟩; refine ⟨_, rfl, ?_⟩; have p346 : 0 ≤ (x7_1 : Int) := of_decide_eq_true (by first | (with_reducible assumption) | assumption); have q346 : x7_1 < (l1.length : Int) := of_decide_eq_true (by first | (with_reducible assumption) | assumption); obtain ⟨ad346, A346_0, c346_0, e346, hx346_0, hl346_0, hi346_0⟩ := at_L5 HR1.out x7_1 p346 q346; obtain rfl : ad343 = ad346 := (by injection e346); replace hx346_0 := (HB.out.cell (World.block_lt_of_cell? w _ hx346_0)).trans hx346_0; have HR346_0 := Aside0.mk hi346_0; have HC346_0 := Aside0.mk hl346_0; clear hi346_0 hl346_0; replace p346 := eq_true p346; replace q346 := eq_true q346) | ((with_reducible refine gate_builtin (b := .append) (xs := #[.tmp 31, .tmp 35]) rfl ?_); at_builtin; refine Kd.R_append_rows k67 (w0 := w) w.heap.size rfl (.tmp 31) (.tmp 35) 65 67 (.agg #[(.string ⟨#[]⟩), (.bool false), (.string ⟨#[]⟩)]) 40 rfl Tryd.underlying65 info67 rfl (by decide) (by omega) (.slice none 0 0) ([] : List (S67)) (rd_L5 l1 x7_1) _ _ _ (fun _ => True) (fun _ => False) rfl rfl ?aO ?aR (fun _ _ h => h) (fun _ h => h.elim) ?aF ?aB ?aS ?aL ?_; (case aR => repeat (first | exact (Kd.C_below HR346_0.out (by repeat (first | (with_reducible first | exact HB.out | apply below_alloc | apply pw_below_drewN | apply below_drew1) | exact HB.out))) | (with_reducible refine Kd.C_alloc ?_ _) | (with_reducible refine Kd.C_drewN ?_ _) | (with_reducible refine Kd.C_drew ?_))); (case aB => exact (by repeat (first | (with_reducible first | exact HB.out | apply below_alloc | apply pw_below_drewN | apply below_drew1) | exact HB.out))); (case aF => exact (fun _ _ => trivial)); (case aO => exact ((Kd.R_nil _ _ _ _ (fun _ => True)))); (case aS => exact (below_size (by repeat (first | (with_reducible first | exact HB.out | apply below_alloc | apply pw_below_drewN | apply below_drew1) | exact HB.out)))); (case aL => have := LMc14.out; omega); intro v348 w16 ho hb hg hat; rw [← Ny347.out] at ho; have n0_ := Aside0.mk (Kd.S_after (Kd.S_apart_nil (by (with_reducible repeat (first | apply Kd.S_alloc | apply Kd.S_drewN | apply Kd.S_drew)); exact HO_5.out)) hg hat); have n1_ := Aside0.mk (hb); have n2_ := Aside0.mk (ho); clear HO_5; clear HB; have HO_5 := n0_; have HB := n1_; have HO349 := n2_; clear n0_ n1_ n2_; clear ho hb hg hat))
                  go_loopg [9] k1 (fun kq v9 w' => ∃ (x8_2 : List (S67)) (x9_2 : Int), v9 = .int .i64 x9_2 ∧ Aside0 (screelaw7_LogGroup.l1 kq a0 l1 x5_1 x6_1 x7_1 x8_2 x9_2 = some r) ∧ Aside0 (kq ≤ k1) ∧ Aside0 (Kd.S (Kd.slice 67 k67) 65 w' w.heap.size (fun k_ => some k_ ≠ (v348 : Value).ownBlock) u5 x5_1) ∧ Aside0 (Kd.R k67 67 w' w.heap.size (fun _ => True) v348 x8_2) ∧ Aside0 (Below w.heap.size w w'))
                  case atStart => exact ⟨(y347), (0), (by first | rfl | (simp; done) | (simp [*]; done)), H', ⟨Nat.le_refl _⟩, ⟨by (with_reducible repeat (first | apply Kd.S_alloc | apply Kd.S_drewN | apply Kd.S_drew)); exact Kd.S_mono HO_5.out (fun _ hk => hk.2)⟩, ⟨by (with_reducible repeat (first | apply Kd.R_alloc | apply Kd.R_drewN | apply Kd.R_drew)); exact HO349.out⟩, ⟨by repeat (first | (with_reducible first | exact HB.out | apply below_alloc | apply pw_below_drewN | apply below_drew1) | exact HB.out)⟩⟩
                  case round =>
                    clear H'
                    try clear c1
                    try clear c2
                    try clear p2
                    try clear c3
                    try clear p3
                    try clear q3
                    try clear hx3
                    try clear c4
                    try clear c6
                    try clear c7
                    try clear c9
                    try clear c9b0
                    try clear c10
                    try clear c10b0
                    try clear c13
                    try clear c13b0
                    try clear c13b1
                    try clear c14
                    try clear hx343_0
                    try clear hx346_0
                    try clear p2
                    try clear p343
                    try clear p346
                    try clear q343
                    try clear q346
                    obtain ⟨x8_2, x9_2, rfl, HA, HK2, HO_5, HO_8, HB⟩ := hrel
                    cases gk with
                    | zero => exact absurd HA.out (by simp [screelaw7_LogGroup.l1])
                    | succ k2 =>
                      have H := HA.out
                      clear HA
                      simp only [screelaw7_LogGroup.l1] at H
                      by_cases c17 : x9_2 < (x8_2.length : Int)
                      · rw [if_pos c17] at H
                        have c17b0 : decide (x9_2 < (x8_2.length : Int)) = true := decide_eq_true c17
                        clear c17
                        by_cases c18 : 0 ≤ x9_2
                        · rw [if_pos c18] at H
                          have c18b0 : decide (0 ≤ x9_2) = true := decide_eq_true c18
                          clear c18
                          obtain ⟨bq19, hbq19⟩ : ∃ b_ : Bool, b_ = ((rd_T67 x8_2 x9_2).f1) := ⟨_, rfl⟩
                          replace H : (if bq19 = true then (screelaw7_LogGroup.l1 k2 a0 l1 x5_1 x6_1 x7_1 (x8_2.set (x9_2 : Int).toNat (⟨(rd_T67 x8_2 x9_2).f0, bq19, (⟨#[]⟩ : ByteArray)⟩ : S67)) (wrap64 (x9_2 + 1))) else (screelaw7_LogGroup.l1 k2 a0 l1 x5_1 x6_1 x7_1 x8_2 (wrap64 (x9_2 + 1)))) = some r := by rw [← hbq19] at H; exact H
                          have Nbq19 := Aside0.mk hbq19
                          clear hbq19
                          by_cases c20 : bq19 = true
                          · subst c20
                            have H1 : (screelaw7_LogGroup.l1 k2 a0 l1 x5_1 x6_1 x7_1 (x8_2.set (x9_2 : Int).toNat (⟨(rd_T67 x8_2 x9_2).f0, true, (⟨#[]⟩ : ByteArray)⟩ : S67)) (wrap64 (x9_2 + 1))) = some r := by rw [if_pos rfl] at H; exact H
                            clear H
                            have H := H1
                            clear H1
                            obtain ⟨y351, hy351⟩ : ∃ y_ : List (S67), y_ = (x8_2.set (x9_2 : Int).toNat (⟨(rd_T67 x8_2 x9_2).f0, true, (⟨#[]⟩ : ByteArray)⟩ : S67)) := ⟨_, rfl⟩
                            replace H : (screelaw7_LogGroup.l1 k2 a0 l1 x5_1 x6_1 x7_1 y351 (wrap64 (x9_2 + 1))) = some r := by first | (rw [hy351]; with_reducible exact H) | (have H2_ := (Option.bind_some _ _).symm.trans H; rw [hy351]; with_reducible exact H2_) | (have H2_ := (Option.bind_some _ _).symm.trans H; with_reducible exact H2_) | with_reducible exact H | (rw [hy351]; exact H) | exact H
                            have Ny351 := Aside0.mk hy351
                            clear hy351
                            have H' := Aside0.mk H
                            clear H
                            obtain ⟨Ao22, co22, eo22⟩ := Kd.R_slice HO_8.out
                            subst eo22
                            have p350 : 0 ≤ (x9_2 : Int) := of_decide_eq_true (by first | (with_reducible assumption) | assumption)
                            have q350 : x9_2 < (x8_2.length : Int) := of_decide_eq_true (by first | (with_reducible assumption) | assumption)
                            obtain ⟨ad350, e350, hx350_0, hx350_1, hx350_2⟩ := at_T67 (Kd.R_reads' HO_8.out).2.2 x9_2 p350 q350
                            (try rw [← Nbq19.out] at hx350_1)
                            cases e350
                            replace p350 := eq_true p350
                            replace q350 := eq_true q350
                            have p21 : 0 ≤ (x9_2 : Int) := of_decide_eq_true (by first | (with_reducible assumption) | assumption)
                            have q21 : (x9_2 : Int) < ((x8_2.length : Int) : Int) := of_decide_eq_true (by first | (with_reducible assumption) | assumption)
                            obtain ⟨go21, co21, eo21, gb21, gl21, cl21, HG21⟩ := Kd.R_form HO_8.out (by omega)
                            (first | cases eo21 | (injection eo21 with ea_ en_ ec_; (first | subst ea_ | (injection ea_ with ea_; subst ea_)); subst ec_; clear en_))
                            have GB21 := Aside0.mk gb21
                            have GG21 := Aside0.mk HG21
                            clear gb21 gl21 HG21
                            (first | simp only [add_plain] at hx350_0 | skip)
                            (first | simp only [add_plain] at hx350_1 | skip)
                            (first | simp only [add_plain] at hx350_2 | skip)
                            obtain ⟨ce21, hcl21, hM21, hcc21, hfr21⟩ := Kd.R_elem HO_8.out z67 (x9_2 : Int) p21 q21
                            obtain rfl := k67_openM hM21
                            have hx21_0 : wr.cell? ⟨go21, (x9_2 : Int).toNat * 3, none⟩ = some (.string ((rd_T67 x8_2 x9_2).f0)) := hcc21 0 _ rfl
                            have hx21_1 : wr.cell? ⟨go21, (x9_2 : Int).toNat * 3 + 1, none⟩ = some (.bool ((rd_T67 x8_2 x9_2).f1)) := hcc21 1 _ rfl
                            have hx21_2 : wr.cell? ⟨go21, (x9_2 : Int).toNat * 3 + 2, none⟩ = some (.string ((rd_T67 x8_2 x9_2).f2)) := hcc21 2 _ rfl
                            have hf21_0 : wr.frozen? ⟨go21, (x9_2 : Int).toNat * 3, none⟩ = false := hfr21 0
                            have hf21_1 : wr.frozen? ⟨go21, (x9_2 : Int).toNat * 3 + 1, none⟩ = false := hfr21 1
                            have hf21_2 : wr.frozen? ⟨go21, (x9_2 : Int).toNat * 3 + 2, none⟩ = false := hfr21 2
                            clear hcl21 hcc21 hfr21 hM21
                            replace p21 := eq_true p21
                            replace q21 := eq_true q21
                            have HX23 := Aside0.mk (show Kd.R k67 67 wr w.heap.size (fun _ => True) (.slice (some ⟨go21, 0, none⟩) x8_2.length co22) x8_2 from (by (with_reducible repeat (first | apply Kd.R_alloc | apply Kd.R_drewN | apply Kd.R_drew)); exact HO_8.out))
                            obtain ⟨ce23, hcl23, hM23, hcc23, hfr23⟩ := Kd.R_elem HX23.out z67 (x9_2 : Int) (of_decide_eq_true (by first | (with_reducible assumption) | assumption)) (by have h_ : (x9_2 : Int) < ((x8_2.length : Int) : Int) := of_decide_eq_true (by first | (with_reducible assumption) | assumption); first | exact h_ | (have e_ := (Kd.R_reads' HO_8.out).1; omega) | simpa using h_)
                            obtain rfl := k67_openM hM23
                            have HP23 := Kd.R_seg HX23.out (x9_2 : Int) (of_decide_eq_true (by first | (with_reducible assumption) | assumption)) (by have h_ : (x9_2 : Int) < ((x8_2.length : Int) : Int) := of_decide_eq_true (by first | (with_reducible assumption) | assumption); first | exact h_ | (have e_ := (Kd.R_reads' HO_8.out).1; omega) | simpa using h_) (seg := [.string (⟨#[]⟩ : ByteArray)]) (j := 2) hcl23 hcc23 (show 3 ≤ 3 from by decide) (x' := (⟨(rd_T67 x8_2 x9_2).f0, (rd_T67 x8_2 x9_2).f1, (⟨#[]⟩ : ByteArray)⟩ : S67)) (k67_mkM _ _ _ (⟨(rd_T67 x8_2 x9_2).f0, (rd_T67 x8_2 x9_2).f1, (⟨#[]⟩ : ByteArray)⟩ : S67) ) (fun _ hk => hk)
                            rw [← Nbq19.out] at HP23
                            have hx23_2 := hcc23 2 _ rfl
                            (try simp only [show (k67).sz = 3 from rfl, Nat.mul_one, Nat.add_zero] at hx23_2)
                            have hf23_2 := hfr23 2
                            (try simp only [show (k67).sz = 3 from rfl, Nat.mul_one, Nat.add_zero] at hf23_2)
                            clear hcl23 hcc23 hfr23 hM23
                            go_wp2_with (first | ((with_reducible refine gate_store (t := 9) (p := 51) rfl ?_); refine store_event (t := 9) (p := 51) (v := ?vo_w24) (w1 := (wr.setCell ⟨go21, (x9_2 : Int).toNat * 3 + 2, none⟩ (.string (⟨#[]⟩ : ByteArray)))) ?hg ?ho ?hn ?hr ?_; (case ho => rfl); (case hg => rfl); (case hn => rfl); (case hr => first | (go_simp; done) | (go_simp; rfl)); intro w24 hw; have hg : wr.grownBy w24 (some go21) := (by rw [hw]; exact HP23.2); have hp_ : Kd.R k67 67 w24 w.heap.size (fun _ => True) (.slice (some ⟨go21, 0, none⟩) x8_2.length co22) y351 := (by rw [hw, Ny351.out]; exact HP23.1); clear HP23; have n0_ := Aside0.mk (Kd.S_after (v := (.slice (some ⟨go21, 0, none⟩) x8_2.length co22)) (v1 := (.slice (some ⟨go21, 0, none⟩) x8_2.length co22)) (ok := (fun _ => True)) (by (with_reducible repeat (first | apply Kd.S_alloc | apply Kd.S_drewN | apply Kd.S_drew)); exact Kd.S_mono HO_5.out (fun _ hk => ⟨trivial, hk⟩)) hg (.inl rfl)); have n1_ := Aside0.mk (hp_); have n2_ := Aside0.mk ((by rw [hw]; exact below_set (HB.out) GB21.out : Below w.heap.size w w24)); clear HO_5; clear HO_8; clear HB; have HO_5 := n0_; have HO_8 := n1_; have HB := n2_; clear n0_ n1_ n2_; clear hg hw hp_))
                            go_roundg k2
                            case measure => have := HK1.out; have := HK2.out; omega
                            case rel => exact ⟨(y351), (wrap64 (x9_2 + 1)), (by first | rfl | (simp; done) | (simp [*]; done)), H', ⟨by have := HK1.out; have := HK2.out; omega⟩, ⟨by (with_reducible repeat (first | apply Kd.S_alloc | apply Kd.S_drewN | apply Kd.S_drew)); exact Kd.S_mono HO_5.out (fun _ hk => hk.2)⟩, ⟨by (with_reducible repeat (first | apply Kd.R_alloc | apply Kd.R_drewN | apply Kd.R_drew)); exact HO_8.out⟩, ⟨by repeat (first | (with_reducible first | exact HB.out | apply below_alloc | apply pw_below_drewN | apply below_drew1) | exact HB.out)⟩⟩
                          · replace c20 := Bool.eq_false_iff.mpr c20
                            subst c20
                            have H1 : (screelaw7_LogGroup.l1 k2 a0 l1 x5_1 x6_1 x7_1 x8_2 (wrap64 (x9_2 + 1))) = some r := by rw [if_neg (show ¬ (false = true) by decide)] at H; exact H
                            clear H
                            have H := H1
                            clear H1
                            have H' := Aside0.mk H
                            clear H
                            obtain ⟨Ao25, co25, eo25⟩ := Kd.R_slice HO_8.out
                            subst eo25
                            have p350 : 0 ≤ (x9_2 : Int) := of_decide_eq_true (by first | (with_reducible assumption) | assumption)
                            have q350 : x9_2 < (x8_2.length : Int) := of_decide_eq_true (by first | (with_reducible assumption) | assumption)
                            obtain ⟨ad350, e350, hx350_0, hx350_1, hx350_2⟩ := at_T67 (Kd.R_reads' HO_8.out).2.2 x9_2 p350 q350
                            (try rw [← Nbq19.out] at hx350_1)
                            cases e350
                            replace p350 := eq_true p350
                            replace q350 := eq_true q350
                            go_wp2
                            go_roundg k2
                            case measure => have := HK1.out; have := HK2.out; omega
                            case rel => exact ⟨(x8_2), (wrap64 (x9_2 + 1)), (by first | rfl | (simp; done) | (simp [*]; done)), H', ⟨by have := HK1.out; have := HK2.out; omega⟩, ⟨by (with_reducible repeat (first | apply Kd.S_alloc | apply Kd.S_drewN | apply Kd.S_drew)); exact HO_5.out⟩, ⟨by (with_reducible repeat (first | apply Kd.R_alloc | apply Kd.R_drewN | apply Kd.R_drew)); exact HO_8.out⟩, ⟨by repeat (first | (with_reducible first | exact HB.out | apply below_alloc | apply pw_below_drewN | apply below_drew1) | exact HB.out)⟩⟩
                        · rw [if_neg c18] at H
                          exact absurd H (by simp)
                      · rw [if_neg c17] at H
                        have c17b0 : decide (x9_2 < (x8_2.length : Int)) = false := decide_eq_false c17
                        clear c17
                        by_cases c26 : x5_1.length < 5864062014805
                        · rw [if_pos c26] at H
                          have LMc26 := Aside0.mk c26
                          clear c26
                          obtain ⟨y352, hy352⟩ : ∃ y_ : List (List (S67)), y_ = (x5_1 ++ [x8_2]) := ⟨_, rfl⟩
                          replace H : (screelaw7_LogGroup.l0 k2 a0 l1 y352 (IntKind.u64.wrap (x6_1 + (IntKind.u64.wrap ((x8_2.length : Int))))) (wrap64 (x7_1 + 1))) = some r := by first | (rw [hy352]; with_reducible exact H) | (have H2_ := (Option.bind_some _ _).symm.trans H; rw [hy352]; with_reducible exact H2_) | (have H2_ := (Option.bind_some _ _).symm.trans H; with_reducible exact H2_) | with_reducible exact H | (rw [hy352]; exact H) | exact H
                          have Ny352 := Aside0.mk hy352
                          clear hy352
                          have H' := Aside0.mk H
                          clear H
                          obtain ⟨Ao27, co27, eo27⟩ := Kd.R_slice HO_8.out
                          subst eo27
                          go_wp2_with (first | ((with_reducible refine gate_builtin (b := .append) (xs := #[.tmp 52, .tmp 54]) rfl ?_); at_builtin; refine Kd.S_append (Kd.slice 67 k67) (w0 := w) w.heap.size rfl (.tmp 52) (.tmp 54) 31 65 (.slice none 0 0) 24 rfl Tryd.underlying31 info65 rfl (by decide) (by omega) u5 x5_1 x8_2 [.slice Ao27 x8_2.length co27] (fun _ => True) (fun k_ => some k_ = (.slice Ao27 x8_2.length co27 : Value).ownBlock) rfl rfl ?aP (fun k_ hk_ => ((Kd.R_mono (ok' := fun k_ => ((fun _ => True)) k_ ∧ some k_ ≠ (u5 : Value).ownBlock) (Kd.R_apart' (HO_8.out) (Kd.S_typed HO_5.out) (by decide)) (fun k_ hk => ⟨trivial, hk.2⟩))).1 k_ hk_.symm) ?aF ?aO ?aB ?aS ?aL ?_; (case aP => exact Kd.M_row (Kd.R_mono (Kd.R_tight rfl (Kd.R_mono (ok' := fun k_ => ((fun _ => True)) k_ ∧ some k_ ≠ (u5 : Value).ownBlock) (Kd.R_apart' (HO_8.out) (Kd.S_typed HO_5.out) (by decide)) (fun k_ hk => ⟨trivial, hk.2⟩))) (fun _ h_ => h_))); (case aB => exact (by repeat (first | (with_reducible first | exact HB.out | apply below_alloc | apply pw_below_drewN | apply below_drew1) | exact HB.out))); (case aF => exact (fun _ _ => trivial)); (case aO => exact (by (with_reducible repeat (first | apply Kd.S_alloc | apply Kd.S_drewN | apply Kd.S_drew)); exact Kd.S_mono HO_5.out (fun k_ hk => ⟨trivial, fun e_ => hk e_⟩))); (case aS => exact (below_size (by repeat (first | (with_reducible first | exact HB.out | apply below_alloc | apply pw_below_drewN | apply below_drew1) | exact HB.out)))); (case aL => have := LMc26.out; omega); intro v353 w28 ho hb hg hat; rw [← Ny352.out] at ho; have n0_ := Aside0.mk (hb); have n1_ := Aside0.mk (ho); clear HB; clear HO_5; clear HO_8; have HB := n0_; have HO354 := n1_; clear n0_ n1_; clear ho hb hg hat))
                          go_roundg k2
                          case measure => have := HK1.out; have := HK2.out; omega
                          case rel => exact ⟨(y352), (IntKind.u64.wrap (x6_1 + (IntKind.u64.wrap ((x8_2.length : Int))))), (wrap64 (x7_1 + 1)), (by first | rfl | (simp; done) | (simp [*]; done)), (by first | rfl | (simp; done) | (simp [*]; done)), H', ⟨by have := HK1.out; have := HK2.out; omega⟩, ⟨by (with_reducible repeat (first | apply Kd.S_alloc | apply Kd.S_drewN | apply Kd.S_drew)); exact HO354.out⟩, ⟨by repeat (first | (with_reducible first | exact HB.out | apply below_alloc | apply pw_below_drewN | apply below_drew1) | exact HB.out)⟩⟩
                        · rw [if_neg c26] at H
                          exact absurd H (by simp)
                · rw [if_neg c14] at H
                  exact absurd H (by simp)
              · rw [if_neg c13] at H
                have c13b0 : (t345 == 0) = false := beq_eq_false_iff_ne.mpr c13
                have c13b1 : (t345 != 0) = true := bne_iff_ne.mpr c13
                obtain rfl := Option.some.inj H
                have p343 : 0 ≤ (x7_1 : Int) := of_decide_eq_true (by first | (with_reducible assumption) | assumption)
                have q343 : x7_1 < (l1.length : Int) := of_decide_eq_true (by first | (with_reducible assumption) | assumption)
                obtain ⟨ad343, A343_0, c343_0, e343, hx343_0, hl343_0, hi343_0⟩ := at_L5 HR1.out x7_1 p343 q343
                cases e343
                replace hx343_0 := (HB.out.cell (World.block_lt_of_cell? w _ hx343_0)).trans hx343_0
                have HR343_0 := Aside0.mk hi343_0
                have HC343_0 := Aside0.mk hl343_0
                clear hi343_0 hl343_0
                replace p343 := eq_true p343
                replace q343 := eq_true q343
                go_wp2_with (first | ((with_reducible refine gate_callee (f := 23) rfl ?_); refine goesL_ (some 28) rfl rfl Tryd.func23 (by kernel_rfl) rfl #[.slice A343_0 (rd_L5 l1 x7_1).length c343_0] rfl (by (try simp only [List.map_toArray, List.map_cons, List.map_nil]); first | done | rfl | (simp only [List.length_drop, List.length_take]; rfl)) ?_; (with_reducible refine (ikey_CheckBatch.calls k1 _ _ (rd_L5 l1 x7_1) t344 _ ?side1 ?side2 A11.out).mono ?_); (case side1 => repeat (first | exact (Kd.C_below HR343_0.out HB.out) | (with_reducible refine Kd.C_alloc ?_ _) | (with_reducible refine Kd.C_drewN ?_ _) | (with_reducible refine Kd.C_drew ?_))); (case side2 => exact HC343_0.out); rintro e w29 ⟨rfl, hb⟩; refine ⟨_, rfl, ?_⟩; have n0_ := Aside0.mk (Kd.S_below (by (with_reducible repeat (first | apply Kd.S_alloc | apply Kd.S_drewN | apply Kd.S_drew)); exact HO_5.out) hb); have n1_ := Aside0.mk (below_step (by repeat (first | (with_reducible first | exact HB.out | apply below_alloc | apply pw_below_drewN | apply below_drew1) | exact HB.out)) hb); clear HO_5; clear HB; have HO_5 := n0_; have HB := n1_; clear n0_ n1_; (try clear hb); (try clear hb2); (try clear hk); (try clear hi)) | ((with_reducible refine gate_callee (f := 18) rfl ?_); refine goesL_ (some 29) rfl rfl Tryd.func18 (by kernel_rfl) rfl #[.int .i64 t344] rfl (by (try simp only [List.map_toArray, List.map_cons, List.map_nil]); first | done | rfl | (simp only [List.length_drop, List.length_take]; rfl)) ?_; (with_reducible refine (screelaw7_num.calls t344 t345 _ A12.out).mono ?_); rintro e w' ⟨rfl, ⟨nd, rfl⟩⟩; refine ⟨_, rfl, ?_⟩))
                go_ret
                exact ⟨by first | rfl | (simp [errW_none, errW_some] <;> rfl) | (simp [*, errW_none, errW_some] <;> rfl), by repeat (first | (with_reducible first | exact HB.out | apply below_alloc | apply pw_below_drewN | apply below_drew1) | exact HB.out)⟩
            · rw [if_neg c10] at H
              exact absurd H (by simp)
          · rw [if_neg c9] at H
            have c9b0 : decide (x7_1 < (l1.length : Int)) = false := decide_eq_false c9
            clear c9
            have HC30 := Aside0.mk H
            clear H
            go_upto_region 21 with (fail)
            (try (obtain ⟨tb1_, hTB1_⟩ : ∃ tb_ : Bool, (decide (0 < x6_1)) = tb_ := ⟨_, rfl⟩; simp only [hTB1_]; have TB1_ := Aside0.mk hTB1_; clear hTB1_))
            go_cut [73] (fun v73 wc => ∃ (kq : Nat) (x73_29 : Bool), v73 = .bool x73_29 ∧ Aside0 (screelaw7_LogGroup.j2 kq a0 l1 x5_1 x73_29 = some r) ∧ Aside0 (kq ≤ k1) ∧ Aside0 (Kd.S (Kd.slice 67 k67) 65 wc w.heap.size (fun _ => True) u5 x5_1) ∧ Aside0 (Below w.heap.size w wc))
            case first =>
              have H := HC30.out
              clear HC30
              by_cases c31 : x6_1 > 0
              · rw [if_pos c31] at H
                have c31b0 : decide (0 < x6_1) = true := decide_eq_true c31
                (try (obtain rfl := TB1_.out.symm.trans c31b0))
                clear c31
                (first | rw [c31b0] | (simp only [i64_w, i32_w]; rw [c31b0]) | skip)
                by_cases c32 : a0 > 72057594037927935
                · rw [if_pos c32] at H
                  have c32b0 : decide (72057594037927935 < a0) = true := decide_eq_true c32
                  clear c32
                  have H' := Aside0.mk H
                  clear H
                  go_wp2
                  go_meet
                  case rel => exact ⟨_, (true), (by first | rfl | (simp; done) | (simp [*]; done)), H', ⟨by have := HK1.out; first | omega | exact Nat.le_refl _⟩, ⟨by (with_reducible repeat (first | apply Kd.S_alloc | apply Kd.S_drewN | apply Kd.S_drew)); exact HO_5.out⟩, ⟨by repeat (first | (with_reducible first | exact HB.out | apply below_alloc | apply pw_below_drewN | apply below_drew1) | exact HB.out)⟩⟩
                · rw [if_neg c32] at H
                  have c32b0 : decide (72057594037927935 < a0) = false := decide_eq_false c32
                  clear c32
                  have H' := Aside0.mk H
                  clear H
                  go_wp2
                  go_meet
                  case rel => exact ⟨_, (decide ((IntKind.u64.wrap (x6_1 - 1)) > (IntKind.u64.wrap (72057594037927935 - a0)))), (by first | rfl | (simp; done) | (simp [*]; done)), H', ⟨by have := HK1.out; first | omega | exact Nat.le_refl _⟩, ⟨by (with_reducible repeat (first | apply Kd.S_alloc | apply Kd.S_drewN | apply Kd.S_drew)); exact HO_5.out⟩, ⟨by repeat (first | (with_reducible first | exact HB.out | apply below_alloc | apply pw_below_drewN | apply below_drew1) | exact HB.out)⟩⟩
              · rw [if_neg c31] at H
                have c31b0 : decide (0 < x6_1) = false := decide_eq_false c31
                (try (obtain rfl := TB1_.out.symm.trans c31b0))
                clear c31
                (first | rw [c31b0] | (simp only [i64_w, i32_w]; rw [c31b0]) | skip)
                have H' := Aside0.mk H
                clear H
                go_wp2
                go_meet
                case rel => exact ⟨_, (false), (by first | rfl | (simp; done) | (simp [*]; done)), H', ⟨by have := HK1.out; first | omega | exact Nat.le_refl _⟩, ⟨by (with_reducible repeat (first | apply Kd.S_alloc | apply Kd.S_drewN | apply Kd.S_drew)); exact HO_5.out⟩, ⟨by repeat (first | (with_reducible first | exact HB.out | apply below_alloc | apply pw_below_drewN | apply below_drew1) | exact HB.out)⟩⟩
            case rest =>
              clear HC30
              try clear c1
              try clear q1
              try clear c2
              try clear p2
              try clear q2
              try clear hx2
              try clear hf2
              try clear c3
              try clear p3
              try clear q3
              try clear hx3
              try clear c4
              try clear c6
              try clear p6
              try clear c7
              try clear c9
              try clear c9b0
              try clear c10
              try clear c10b0
              try clear c13
              try clear c13b0
              try clear c13b1
              try clear c14
              try clear c17
              try clear c17b0
              try clear c18
              try clear c18b0
              try clear q19
              try clear c20
              try clear c21
              try clear p21
              try clear q21
              try clear hx21
              try clear hf21
              try clear c22
              try clear c23
              try clear hx23
              try clear hf23
              try clear c26
              try clear c31
              try clear c31b0
              try clear c32
              try clear c32b0
              try clear hx21_0
              try clear hx21_1
              try clear hx21_2
              try clear hx23_2
              try clear hx343_0
              try clear hx346_0
              try clear hx350_0
              try clear hx350_1
              try clear hx350_2
              try clear p2
              try clear p21
              try clear p3
              try clear p343
              try clear p346
              try clear p350
              try clear q21
              try clear q3
              try clear q343
              try clear q346
              try clear q350
              obtain ⟨kq, x73_29, rfl, HA, HJ29, HO_5, HB⟩ := hcut
              cases kq with
              | zero => exact absurd HA.out (by simp [screelaw7_LogGroup.j2])
              | succ kj29 =>
                have H := HA.out
                clear HA
                simp only [screelaw7_LogGroup.j2] at H
                by_cases c33 : x73_29 = true
                · subst c33
                  have H1 : (some true) = some r := by rw [if_pos rfl] at H; exact H
                  clear H
                  have H := H1
                  clear H1
                  obtain rfl := Option.some.inj H
                  go_wp2
                  go_ret
                  exact ⟨by first | rfl | (simp [errW_none, errW_some] <;> rfl) | (simp [*, errW_none, errW_some] <;> rfl), by repeat (first | (with_reducible first | exact HB.out | apply below_alloc | apply pw_below_drewN | apply below_drew1) | exact HB.out)⟩
                · replace c33 := Bool.eq_false_iff.mpr c33
                  subst c33
                  have H1 : ((log_Put.f kj29 a0 l1).bind fun t355 => ((log_Get.f t355).bind fun bt358 => (if bt358.1 = a0 then ((screelaw7_sameGroups.f kj29 bt358.2.1 x5_1).bind fun t363 => (if t363 = true then ((screelaw7_num.f bt358.2.2).bind fun t364 => (some (t364 == 0))) else (some false))) else (some false)))) = some r := by rw [if_neg (show ¬ (false = true) by decide)] at H; exact H
                  clear H
                  have H := H1
                  clear H1
                  replace H := Option.bind_eq_some_iff.mp H
                  obtain ⟨t355, A340, H⟩ := H
                  replace H : ((log_Get.f t355).bind fun bt358 => (if bt358.1 = a0 then ((screelaw7_sameGroups.f kj29 bt358.2.1 x5_1).bind fun t363 => (if t363 = true then ((screelaw7_num.f bt358.2.2).bind fun t364 => (some (t364 == 0))) else (some false))) else (some false))) = some r := H
                  have A34 := Aside0.mk A340
                  clear A340
                  replace H := Option.bind_eq_some_iff.mp H
                  obtain ⟨⟨t358, t359, t360⟩, A350, H⟩ := H
                  replace H : (if t358 = a0 then ((screelaw7_sameGroups.f kj29 t359 x5_1).bind fun t363 => (if t363 = true then ((screelaw7_num.f t360).bind fun t364 => (some (t364 == 0))) else (some false))) else (some false)) = some r := H
                  have A35 := Aside0.mk A350
                  clear A350
                  by_cases c36 : t358 = a0
                  · rw [if_pos c36] at H
                    have c36b0 : (t358 == a0) = true := beq_iff_eq.mpr c36
                    have c36b1 : (t358 != a0) = false := bne_eq_false_iff_eq.mpr c36
                    clear c36
                    replace H := Option.bind_eq_some_iff.mp H
                    obtain ⟨t363, A370, H⟩ := H
                    replace H : (if t363 = true then ((screelaw7_num.f t360).bind fun t364 => (some (t364 == 0))) else (some false)) = some r := H
                    have A37 := Aside0.mk A370
                    clear A370
                    by_cases c38 : t363 = true
                    · subst c38
                      have H1 : ((screelaw7_num.f t360).bind fun t364 => (some (t364 == 0))) = some r := by rw [if_pos rfl] at H; exact H
                      clear H
                      have H := H1
                      clear H1
                      replace H := Option.bind_eq_some_iff.mp H
                      obtain ⟨t364, A390, H⟩ := H
                      replace H : (some (t364 == 0)) = some r := H
                      have A39 := Aside0.mk A390
                      clear A390
                      obtain rfl := Option.some.inj H
                      go_wp2_with (first | ((with_reducible refine gate_callee (f := 25) rfl ?_); refine goesL_ (some 77) rfl rfl Tryd.func25 (by kernel_rfl) rfl #[.int .u64 a0, .slice A1 l1.length c1] rfl (by (try simp only [List.map_toArray, List.map_cons, List.map_nil]); first | done | rfl | (simp only [List.length_drop, List.length_take]; rfl)) ?_; (with_reducible refine (log_Put.calls kj29 a0 _ _ l1 t355 _ ?side1 ?side2 A34.out).mono ?_); (case side1 => repeat (first | exact (Kd.C_below HR1.out HB.out) | (with_reducible refine Kd.C_alloc ?_ _) | (with_reducible refine Kd.C_drewN ?_ _) | (with_reducible refine Kd.C_drew ?_))); (case side2 => exact HC1.out); rintro e w40 ⟨v356, rfl, ho0, hb⟩; refine ⟨_, rfl, ?_⟩; have n0_ := Aside0.mk (Kd.S_below (by (with_reducible repeat (first | apply Kd.S_alloc | apply Kd.S_drewN | apply Kd.S_drew)); exact HO_5.out) hb); have n1_ := Aside0.mk (Kd.R_lower ho0 (below_size (by repeat (first | (with_reducible first | exact HB.out | apply below_alloc | apply pw_below_drewN | apply below_drew1) | exact HB.out)))); have n2_ := Aside0.mk (below_step (by repeat (first | (with_reducible first | exact HB.out | apply below_alloc | apply pw_below_drewN | apply below_drew1) | exact HB.out)) hb); clear HO_5; clear HB; have HO_5 := n0_; have HO357 := n1_; have HB := n2_; clear n0_ n1_ n2_; (try clear hb); (try clear hb2); (try clear hk); (try clear hi); (try clear ho0); obtain ⟨Ao41, co41, eo41⟩ := Kd.R_slice HO357.out; subst eo41) | ((with_reducible refine gate_callee (f := 24) rfl ?_); refine goesL_ (some 78) rfl rfl Tryd.func24 (by kernel_rfl) rfl #[.slice Ao41 t355.length co41] rfl (by (try simp only [List.map_toArray, List.map_cons, List.map_nil]); first | done | rfl | (simp only [List.length_drop, List.length_take]; rfl)) ?_; (with_reducible refine (log_Get.calls _ _ t355 t358 t359 t360 _ ?side1 ?side2 A35.out).mono ?_); (case side1 => repeat (first | exact (Kd.R_reads' HO357.out).2.2 | (with_reducible refine Kd.C_alloc ?_ _) | (with_reducible refine Kd.C_drewN ?_ _) | (with_reducible refine Kd.C_drew ?_))); (case side2 => exact (Kd.R_reads' HO357.out).2.1); rintro e w42 ⟨v361, rfl, ho0, hb⟩; refine ⟨_, rfl, ?_⟩; have n0_ := Aside0.mk (Kd.S_elder' (by (with_reducible repeat (first | apply Kd.S_alloc | apply Kd.S_drewN | apply Kd.S_drew)); exact HO_5.out) (Kd.S_base ho0) hb); have n1_ := Aside0.mk (Kd.R_below (by (with_reducible repeat (first | apply Kd.R_alloc | apply Kd.R_drewN | apply Kd.R_drew)); exact HO357.out) hb); have n2_ := Aside0.mk (Kd.S_lower (Kd.S_new' ho0 (Kd.S_lt (by (with_reducible repeat (first | apply Kd.S_alloc | apply Kd.S_drewN | apply Kd.S_drew)); exact HO_5.out))) (below_size (by repeat (first | (with_reducible first | exact HB.out | apply below_alloc | apply pw_below_drewN | apply below_drew1) | exact HB.out)))); have n3_ := Aside0.mk (below_step (by repeat (first | (with_reducible first | exact HB.out | apply below_alloc | apply pw_below_drewN | apply below_drew1) | exact HB.out)) hb); clear HO_5; clear HO357; clear HB; have HO_5 := n0_; have HO357 := n1_; have HO362 := n2_; have HB := n3_; clear n0_ n1_ n2_ n3_; (try clear hb); (try clear hb2); (try clear hk); (try clear hi); (try clear ho0); obtain ⟨Ao43, co43, eo43⟩ := Kd.S_slice HO362.out; subst eo43; obtain ⟨Ao44, co44, eo44⟩ := Kd.S_slice HO_5.out; subst eo44) | (go_at_call 26; (with_reducible refine (screelaw7_sameGroups.calls kj29 _ _ t359 _ _ x5_1 true _ ?side1 ?side2 ?side3 ?side4 A37.out).mono ?_); (case side1 => repeat (first | exact (Kd.S_reads' HO362.out).2.2 | (with_reducible refine Kd.C_alloc ?_ _) | (with_reducible refine Kd.C_drewN ?_ _) | (with_reducible refine Kd.C_drew ?_))); (case side2 => exact (Kd.S_reads' HO362.out).2.1); (case side3 => repeat (first | exact (Kd.S_reads' HO_5.out).2.2 | (with_reducible refine Kd.C_alloc ?_ _) | (with_reducible refine Kd.C_drewN ?_ _) | (with_reducible refine Kd.C_drew ?_))); (case side4 => exact (Kd.S_reads' HO_5.out).2.1); rintro e w' ⟨rfl, ⟨nd, rfl⟩⟩) | (go_at_call 18; (with_reducible refine (screelaw7_num.calls t360 t364 _ A39.out).mono ?_); rintro e w' ⟨rfl, ⟨nd, rfl⟩⟩))
                      go_ret
                      exact ⟨by first | rfl | (simp [errW_none, errW_some] <;> rfl) | (simp [*, errW_none, errW_some] <;> rfl), by repeat (first | (with_reducible first | exact HB.out | apply below_alloc | apply pw_below_drewN | apply below_drew1) | exact HB.out)⟩
                    · replace c38 := Bool.eq_false_iff.mpr c38
                      subst c38
                      have H1 : (some false) = some r := by rw [if_neg (show ¬ (false = true) by decide)] at H; exact H
                      clear H
                      have H := H1
                      clear H1
                      obtain rfl := Option.some.inj H
                      go_wp2_with (first | ((with_reducible refine gate_callee (f := 25) rfl ?_); refine goesL_ (some 77) rfl rfl Tryd.func25 (by kernel_rfl) rfl #[.int .u64 a0, .slice A1 l1.length c1] rfl (by (try simp only [List.map_toArray, List.map_cons, List.map_nil]); first | done | rfl | (simp only [List.length_drop, List.length_take]; rfl)) ?_; (with_reducible refine (log_Put.calls kj29 a0 _ _ l1 t355 _ ?side1 ?side2 A34.out).mono ?_); (case side1 => repeat (first | exact (Kd.C_below HR1.out HB.out) | (with_reducible refine Kd.C_alloc ?_ _) | (with_reducible refine Kd.C_drewN ?_ _) | (with_reducible refine Kd.C_drew ?_))); (case side2 => exact HC1.out); rintro e w45 ⟨v356, rfl, ho0, hb⟩; refine ⟨_, rfl, ?_⟩; have n0_ := Aside0.mk (Kd.S_below (by (with_reducible repeat (first | apply Kd.S_alloc | apply Kd.S_drewN | apply Kd.S_drew)); exact HO_5.out) hb); have n1_ := Aside0.mk (Kd.R_lower ho0 (below_size (by repeat (first | (with_reducible first | exact HB.out | apply below_alloc | apply pw_below_drewN | apply below_drew1) | exact HB.out)))); have n2_ := Aside0.mk (below_step (by repeat (first | (with_reducible first | exact HB.out | apply below_alloc | apply pw_below_drewN | apply below_drew1) | exact HB.out)) hb); clear HO_5; clear HB; have HO_5 := n0_; have HO357 := n1_; have HB := n2_; clear n0_ n1_ n2_; (try clear hb); (try clear hb2); (try clear hk); (try clear hi); (try clear ho0); obtain ⟨Ao46, co46, eo46⟩ := Kd.R_slice HO357.out; subst eo46) | ((with_reducible refine gate_callee (f := 24) rfl ?_); refine goesL_ (some 78) rfl rfl Tryd.func24 (by kernel_rfl) rfl #[.slice Ao46 t355.length co46] rfl (by (try simp only [List.map_toArray, List.map_cons, List.map_nil]); first | done | rfl | (simp only [List.length_drop, List.length_take]; rfl)) ?_; (with_reducible refine (log_Get.calls _ _ t355 t358 t359 t360 _ ?side1 ?side2 A35.out).mono ?_); (case side1 => repeat (first | exact (Kd.R_reads' HO357.out).2.2 | (with_reducible refine Kd.C_alloc ?_ _) | (with_reducible refine Kd.C_drewN ?_ _) | (with_reducible refine Kd.C_drew ?_))); (case side2 => exact (Kd.R_reads' HO357.out).2.1); rintro e w47 ⟨v361, rfl, ho0, hb⟩; refine ⟨_, rfl, ?_⟩; have n0_ := Aside0.mk (Kd.S_elder' (by (with_reducible repeat (first | apply Kd.S_alloc | apply Kd.S_drewN | apply Kd.S_drew)); exact HO_5.out) (Kd.S_base ho0) hb); have n1_ := Aside0.mk (Kd.R_below (by (with_reducible repeat (first | apply Kd.R_alloc | apply Kd.R_drewN | apply Kd.R_drew)); exact HO357.out) hb); have n2_ := Aside0.mk (Kd.S_lower (Kd.S_new' ho0 (Kd.S_lt (by (with_reducible repeat (first | apply Kd.S_alloc | apply Kd.S_drewN | apply Kd.S_drew)); exact HO_5.out))) (below_size (by repeat (first | (with_reducible first | exact HB.out | apply below_alloc | apply pw_below_drewN | apply below_drew1) | exact HB.out)))); have n3_ := Aside0.mk (below_step (by repeat (first | (with_reducible first | exact HB.out | apply below_alloc | apply pw_below_drewN | apply below_drew1) | exact HB.out)) hb); clear HO_5; clear HO357; clear HB; have HO_5 := n0_; have HO357 := n1_; have HO362 := n2_; have HB := n3_; clear n0_ n1_ n2_ n3_; (try clear hb); (try clear hb2); (try clear hk); (try clear hi); (try clear ho0); obtain ⟨Ao48, co48, eo48⟩ := Kd.S_slice HO362.out; subst eo48; obtain ⟨Ao49, co49, eo49⟩ := Kd.S_slice HO_5.out; subst eo49) | (go_at_call 26; (with_reducible refine (screelaw7_sameGroups.calls kj29 _ _ t359 _ _ x5_1 false _ ?side1 ?side2 ?side3 ?side4 A37.out).mono ?_); (case side1 => repeat (first | exact (Kd.S_reads' HO362.out).2.2 | (with_reducible refine Kd.C_alloc ?_ _) | (with_reducible refine Kd.C_drewN ?_ _) | (with_reducible refine Kd.C_drew ?_))); (case side2 => exact (Kd.S_reads' HO362.out).2.1); (case side3 => repeat (first | exact (Kd.S_reads' HO_5.out).2.2 | (with_reducible refine Kd.C_alloc ?_ _) | (with_reducible refine Kd.C_drewN ?_ _) | (with_reducible refine Kd.C_drew ?_))); (case side4 => exact (Kd.S_reads' HO_5.out).2.1); rintro e w' ⟨rfl, ⟨nd, rfl⟩⟩))
                      go_ret
                      exact ⟨by first | rfl | (simp [errW_none, errW_some] <;> rfl) | (simp [*, errW_none, errW_some] <;> rfl), by repeat (first | (with_reducible first | exact HB.out | apply below_alloc | apply pw_below_drewN | apply below_drew1) | exact HB.out)⟩
                  · rw [if_neg c36] at H
                    have c36b0 : (t358 == a0) = false := beq_eq_false_iff_ne.mpr c36
                    have c36b1 : (t358 != a0) = true := bne_iff_ne.mpr c36
                    obtain rfl := Option.some.inj H
                    go_wp2_with (first | ((with_reducible refine gate_callee (f := 25) rfl ?_); refine goesL_ (some 77) rfl rfl Tryd.func25 (by kernel_rfl) rfl #[.int .u64 a0, .slice A1 l1.length c1] rfl (by (try simp only [List.map_toArray, List.map_cons, List.map_nil]); first | done | rfl | (simp only [List.length_drop, List.length_take]; rfl)) ?_; (with_reducible refine (log_Put.calls kj29 a0 _ _ l1 t355 _ ?side1 ?side2 A34.out).mono ?_); (case side1 => repeat (first | exact (Kd.C_below HR1.out HB.out) | (with_reducible refine Kd.C_alloc ?_ _) | (with_reducible refine Kd.C_drewN ?_ _) | (with_reducible refine Kd.C_drew ?_))); (case side2 => exact HC1.out); rintro e w50 ⟨v356, rfl, ho0, hb⟩; refine ⟨_, rfl, ?_⟩; have n0_ := Aside0.mk (Kd.S_below (by (with_reducible repeat (first | apply Kd.S_alloc | apply Kd.S_drewN | apply Kd.S_drew)); exact HO_5.out) hb); have n1_ := Aside0.mk (Kd.R_lower ho0 (below_size (by repeat (first | (with_reducible first | exact HB.out | apply below_alloc | apply pw_below_drewN | apply below_drew1) | exact HB.out)))); have n2_ := Aside0.mk (below_step (by repeat (first | (with_reducible first | exact HB.out | apply below_alloc | apply pw_below_drewN | apply below_drew1) | exact HB.out)) hb); clear HO_5; clear HB; have HO_5 := n0_; have HO357 := n1_; have HB := n2_; clear n0_ n1_ n2_; (try clear hb); (try clear hb2); (try clear hk); (try clear hi); (try clear ho0); obtain ⟨Ao51, co51, eo51⟩ := Kd.R_slice HO357.out; subst eo51) | ((with_reducible refine gate_callee (f := 24) rfl ?_); refine goesL_ (some 78) rfl rfl Tryd.func24 (by kernel_rfl) rfl #[.slice Ao51 t355.length co51] rfl (by (try simp only [List.map_toArray, List.map_cons, List.map_nil]); first | done | rfl | (simp only [List.length_drop, List.length_take]; rfl)) ?_; (with_reducible refine (log_Get.calls _ _ t355 t358 t359 t360 _ ?side1 ?side2 A35.out).mono ?_); (case side1 => repeat (first | exact (Kd.R_reads' HO357.out).2.2 | (with_reducible refine Kd.C_alloc ?_ _) | (with_reducible refine Kd.C_drewN ?_ _) | (with_reducible refine Kd.C_drew ?_))); (case side2 => exact (Kd.R_reads' HO357.out).2.1); rintro e w52 ⟨v361, rfl, ho0, hb⟩; refine ⟨_, rfl, ?_⟩; have n0_ := Aside0.mk (Kd.S_elder' (by (with_reducible repeat (first | apply Kd.S_alloc | apply Kd.S_drewN | apply Kd.S_drew)); exact HO_5.out) (Kd.S_base ho0) hb); have n1_ := Aside0.mk (Kd.R_below (by (with_reducible repeat (first | apply Kd.R_alloc | apply Kd.R_drewN | apply Kd.R_drew)); exact HO357.out) hb); have n2_ := Aside0.mk (Kd.S_lower (Kd.S_new' ho0 (Kd.S_lt (by (with_reducible repeat (first | apply Kd.S_alloc | apply Kd.S_drewN | apply Kd.S_drew)); exact HO_5.out))) (below_size (by repeat (first | (with_reducible first | exact HB.out | apply below_alloc | apply pw_below_drewN | apply below_drew1) | exact HB.out)))); have n3_ := Aside0.mk (below_step (by repeat (first | (with_reducible first | exact HB.out | apply below_alloc | apply pw_below_drewN | apply below_drew1) | exact HB.out)) hb); clear HO_5; clear HO357; clear HB; have HO_5 := n0_; have HO357 := n1_; have HO362 := n2_; have HB := n3_; clear n0_ n1_ n2_ n3_; (try clear hb); (try clear hb2); (try clear hk); (try clear hi); (try clear ho0)))
                    go_ret
                    exact ⟨by first | rfl | (simp [errW_none, errW_some] <;> rfl) | (simp [*, errW_none, errW_some] <;> rfl), by repeat (first | (with_reducible first | exact HB.out | apply below_alloc | apply pw_below_drewN | apply below_drew1) | exact HB.out)⟩
    · replace c6 := Bool.eq_false_iff.mpr c6
      subst c6
      have H1 : (some false) = some r := by rw [if_neg (show ¬ (false = true) by decide)] at H; exact H
      clear H
      have H := H1
      clear H1
      obtain rfl := Option.some.inj H
      go_enter Tryd.func7, Tryd.ntmps7
      go_wp2_with (first | ((with_reducible refine gate_callee (f := 22) rfl ?_); refine goesL_ (some 14) rfl rfl Tryd.func22 (by kernel_rfl) rfl #[.slice A1 l1.length c1] rfl (by (try simp only [List.map_toArray, List.map_cons, List.map_nil]); first | done | rfl | (simp only [List.length_drop, List.length_take]; rfl)) ?_; (with_reducible refine (screelaw7_small.calls _ _ l1 true _ ?side1 ?side2 A3.out).mono ?_); (case side1 => repeat (first | exact HR1.out | (with_reducible refine Kd.C_alloc ?_ _) | (with_reducible refine Kd.C_drewN ?_ _) | (with_reducible refine Kd.C_drew ?_))); (case side2 => exact HC1.out); rintro e w53 ⟨rfl, hb⟩; refine ⟨_, rfl, ?_⟩; have n0_ := Aside0.mk (below_step (by repeat (first | (with_reducible first | exact HB.out | apply below_alloc | apply pw_below_drewN | apply below_drew1) | exact HB.out)) hb); clear HB; have HB := n0_; clear n0_; (try clear hb); (try clear hb2); (try clear hk); (try clear hi)) | ((with_reducible refine gate_callee (f := 20) rfl ?_); refine goesL_ (some 16) rfl rfl Tryd.func20 (by kernel_rfl) rfl #[] rfl (by (try simp only [List.map_toArray, List.map_cons, List.map_nil]); first | done | rfl | (simp only [List.length_drop, List.length_take]; rfl)) ?_; (with_reducible refine (screelaw7_known.calls k  false _ A5.out ?side1).mono ?_); (case side1 => first | (with_reducible exact HT_.out) | exact GT.below HT_.out (by repeat (first | (with_reducible first | exact HB.out | apply below_alloc | apply pw_below_drewN | apply below_drew1) | exact HB.out))); rintro e w54 ⟨rfl, hb⟩; refine ⟨_, rfl, ?_⟩; have n0_ := Aside0.mk (below_step (by repeat (first | (with_reducible first | exact HB.out | apply below_alloc | apply pw_below_drewN | apply below_drew1) | exact HB.out)) hb); clear HB; have HB := n0_; clear n0_; (try clear hb); (try clear hb2); (try clear hk); (try clear hi)))
      go_ret
      exact ⟨by first | rfl | (simp [errW_none, errW_some] <;> rfl) | (simp [*, errW_none, errW_some] <;> rfl), by repeat (first | (with_reducible first | exact HB.out | apply below_alloc | apply pw_below_drewN | apply below_drew1) | exact HB.out)⟩
  · replace c4 := Bool.eq_false_iff.mpr c4
    subst c4
    have H1 : (some true) = some r := by rw [if_neg (show ¬ (false = true) by decide)] at H; exact H
    clear H
    have H := H1
    clear H1
    obtain rfl := Option.some.inj H
    go_enter Tryd.func7, Tryd.ntmps7
    go_wp2_with (first | ((with_reducible refine gate_callee (f := 22) rfl ?_); refine goesL_ (some 14) rfl rfl Tryd.func22 (by kernel_rfl) rfl #[.slice A1 l1.length c1] rfl (by (try simp only [List.map_toArray, List.map_cons, List.map_nil]); first | done | rfl | (simp only [List.length_drop, List.length_take]; rfl)) ?_; (with_reducible refine (screelaw7_small.calls _ _ l1 false _ ?side1 ?side2 A3.out).mono ?_); (case side1 => repeat (first | exact HR1.out | (with_reducible refine Kd.C_alloc ?_ _) | (with_reducible refine Kd.C_drewN ?_ _) | (with_reducible refine Kd.C_drew ?_))); (case side2 => exact HC1.out); rintro e w55 ⟨rfl, hb⟩; refine ⟨_, rfl, ?_⟩; have n0_ := Aside0.mk (below_step (by repeat (first | (with_reducible first | exact HB.out | apply below_alloc | apply pw_below_drewN | apply below_drew1) | exact HB.out)) hb); clear HB; have HB := n0_; clear n0_; (try clear hb); (try clear hb2); (try clear hk); (try clear hi)))
    go_ret
    exact ⟨by first | rfl | (simp [errW_none, errW_some] <;> rfl) | (simp [*, errW_none, errW_some] <;> rfl), by repeat (first | (with_reducible first | exact HB.out | apply below_alloc | apply pw_below_drewN | apply below_drew1) | exact HB.out)⟩

/-! ### ikey_charge: function 59 -/
/-! ### ikey_BatchWeight: function 27 -/
end Go.Proofs.YtnamanalacjhnaaDoor.QBk
/- What Put answers Get takes: the printed law (this claim's own lemmas). -/
namespace Go.Proofs.YtnamanalacjhnaaDoor.Pu
open Go.RowKit Go.Proofs.YtnamanalacjhnaaDoorW.PrintWords Go.Proofs.YtnamanalacjhnaaDoor.Own Go.Proofs.YtnamanalacjhnaaDoor.U Go.Proofs.YtnamanalacjhnaaDoor.QBk
open Go.Proofs.YtnamanalacjhnaaDoor.Sm (parts partsG cntG cntG_parts FitG Fit)
open Go.Proofs.YtnamanalacjhnaaDoor.Gt (total)
open Go.Proofs.YtnamanalacjhnaaDoor.Lg Go.Proofs.YtnamanalacjhnaaDoor.Lr
set_option linter.unusedVariables false
/-- A row whose first j writes are cleared. -/
def clrTo (l : List Wr) (j : Nat) : List Wr := (l.take j).map clr ++ l.drop j
theorem clrTo_len (l : List Wr) (j : Nat) : (clrTo l j).length = l.length := by unfold clrTo; simp only [List.length_append, List.length_map, List.length_take, List.length_drop]; omega
theorem clrTo_get (l : List Wr) (j : Nat) (h : j < l.length) : rd_T67 (clrTo l j) (j : Int) = l[j] := by
  rw [rdT _ j (by rw [clrTo_len]; exact h)]
  unfold clrTo
  have hl : ((l.take j).map clr).length = j := by simp only [List.length_map, List.length_take]; omega
  rw [List.getElem_append_right (by omega), List.getElem_drop]
  congr 1
  omega
theorem clrTo_step (l : List Wr) (j : Nat) (h : j < l.length) : clrTo l (j + 1) = (clrTo l j).set j (clr l[j]) := by
  unfold clrTo
  have hl : ((l.take j).map clr).length = j := by simp only [List.length_map, List.length_take]; omega
  rw [List.set_append_right _ _ (by omega), hl, Nat.sub_self, List.drop_eq_getElem_cons h, List.set_cons_zero, List.take_succ_eq_append_getElem h, List.map_append, List.append_assoc]
  rfl
theorem clrTo_end (l : List Wr) : clrTo l l.length = l.map clr := by unfold clrTo; simp
theorem num_eq' (e : Int) : screelaw7_num.f e = some e := rfl
theorem total_take (G : List (List Wr)) (i : Nat) (h : i < G.length) : total (G.take (i + 1)) = total (G.take i) + G[i].length := by
  rw [List.take_succ_eq_append_getElem h]
  unfold total
  rw [List.map_append, List.sum_append]
  simp
theorem total_ok (G : List (List Wr)) (h : ∀ l ∈ G, OkB l) : total G ≤ 16 * G.length := by
  induction G with
  | nil => simp [total]
  | cons l G ih =>
    have h1 := (h l (by simp)).1
    have h2 := ih (fun y hy => h y (by simp [hy]))
    unfold total at h2 ⊢
    rw [List.map_cons, List.sum_cons, List.length_cons]
    omega
theorem group_end (a : Nat) (G : List (List Wr)) (ha : a < 18446744073709551616) (hp : partsG G ≤ 32768) (hok : ∀ l ∈ G, OkB l) (hn : ¬ (total G > 0 ∧ (a > 72057594037927935 ∨ total G - 1 > 72057594037927935 - a))) : Ev (fun k => screelaw7_LogGroup.j2 k (a : Int) G (G.map (List.map clr)) false) true := by
  have hg : G.length ≤ 32768 := by unfold partsG at hp; omega
  have hput := put_ev a G ha hp
  have hlen := put_len a G ha hp
  have hget := get_put a G ha hg hok hn
  have hG : log_Get.f (putL a G) = some ((a : Int), G.map (List.map clr), 0) := by unfold log_Get.f; rw [if_pos ⟨okB_iff.2 (put_bytes _ _), by omega⟩, hget]
  have hS := groups_ev (G.map (List.map clr)) (by rw [List.length_map]; omega) (fun r hr => by
    obtain ⟨l, hl, rfl⟩ := List.mem_map.1 hr
    have := (hok l hl).1
    rw [List.length_map]
    omega)
  refine Ev.step (f := fun k => (log_Put.f k (a : Int) G).bind fun t355 => ((log_Get.f t355).bind fun bt358 => (if bt358.1 = (a : Int) then ((screelaw7_sameGroups.f k bt358.2.1 (G.map (List.map clr))).bind fun t363 => (if t363 = true then ((screelaw7_num.f bt358.2.2).bind fun t364 => (some (t364 == 0))) else (some false))) else (some false)))) (fun k => by rw [screelaw7_LogGroup.j2, if_neg (by decide)]) (Ev.bind hput ?_)
  refine Ev.congr (f := fun k => (screelaw7_sameGroups.f k (G.map (List.map clr)) (G.map (List.map clr))).bind fun t363 => (if t363 = true then ((screelaw7_num.f 0).bind fun t364 => (some (t364 == 0))) else (some false))) (fun k => ?_) (Ev.bind hS (Ev.congr (fun k => by rw [if_pos rfl]; rfl) (Ev.now true)))
  rw [hG, Option.bind_some]
  dsimp only
  rw [if_pos rfl]
theorem group_clear (a : Nat) (G acc : List (List Wr)) (i T : Nat) (hi : i < G.length) (hgl : G.length ≤ 32768) (hok : OkB G[i]) (hT : T ≤ 1000000) (hacc : acc.length = i) (h : Ev (fun k => screelaw7_LogGroup.l0 k (a : Int) G (acc ++ [G[i].map clr]) ((T + G[i].length : Nat) : Int) ((i + 1 : Nat) : Int)) true) (d : Nat) : ∀ j : Nat, j + d = G[i].length →
    Ev (fun k => screelaw7_LogGroup.l1 k (a : Int) G acc (T : Int) (i : Int) (clrTo G[i] j) (j : Int)) true := by
  have h16 := hok.1
  induction d with
  | zero =>
    intro j hj
    obtain rfl : j = G[i].length := by omega
    refine Ev.step (fun k => ?_) h
    rw [screelaw7_LogGroup.l1, clrTo_len, if_neg (by omega), if_pos (show acc.length < 5864062014805 by omega), clrTo_end, ww i (by omega), u64_nat (n := G[i].length) (by omega)]
    rw [show (T : Int) + (G[i].length : Int) = ((T + G[i].length : Nat) : Int) by omega, u64_nat (by omega)]
  | succ d ih =>
    intro j hj
    have hlt : j < G[i].length := by omega
    refine Ev.step (fun k => ?_) (ih (j + 1) (by omega))
    rw [screelaw7_LogGroup.l1, clrTo_len, if_pos (show (j : Int) < (G[i].length : Int) by omega), if_pos (show (0 : Int) ≤ (j : Int) by omega), clrTo_get _ _ hlt, ww j (by omega), clrTo_step _ _ hlt]
    by_cases hd : (G[i][j]).f1 = true
    · rw [if_pos hd]
      have e : clr G[i][j] = (⟨(G[i][j]).f0, (G[i][j]).f1, (⟨#[]⟩ : ByteArray)⟩ : Wr) := by unfold clr; rw [if_pos hd, hd]
      rw [e, Int.toNat_natCast]
    · rw [if_neg hd]
      have e : clr G[i][j] = G[i][j] := by unfold clr; rw [if_neg hd]
      have h1 : (clrTo G[i] j)[j]'(by rw [clrTo_len]; exact hlt) = G[i][j] := by
        have := clrTo_get G[i] j hlt
        rwa [rdT _ j (by rw [clrTo_len]; exact hlt)] at this
      rw [e, ← h1, List.set_getElem_self]
theorem group_loop (a : Nat) (G : List (List Wr)) (ha : a < 18446744073709551616) (hp : partsG G ≤ 32768) (d : Nat) : ∀ i : Nat, i + d = G.length → (∀ l ∈ G.take i, OkB l) → Ev (fun k => screelaw7_LogGroup.l0 k (a : Int) G ((G.take i).map (List.map clr)) ((total (G.take i) : Nat) : Int) (i : Int)) true := by
  have hgl : G.length ≤ 32768 := by unfold partsG at hp; omega
  induction d with
  | zero =>
    intro i hi hok
    rw [List.take_of_length_le (by omega)] at hok ⊢
    have htot := total_ok G hok
    by_cases h0 : total G > 0
    · by_cases h1 : a > 72057594037927935
      · refine Ev.step (f := fun k => screelaw7_LogGroup.j2 k (a : Int) G (G.map (List.map clr)) true) (fun k => ?_) (Ev.step (f := fun _ => some true) (fun k => by rw [screelaw7_LogGroup.j2, if_pos rfl]) (Ev.now true))
        rw [screelaw7_LogGroup.l0, if_neg (show ¬ (i : Int) < (G.length : Int) by omega), if_pos (show ((total G : Nat) : Int) > 0 by omega), if_pos (show (a : Int) > 72057594037927935 by omega)]
      · have e1 : IntKind.u64.wrap (((total G : Nat) : Int) - 1) = ((total G - 1 : Nat) : Int) := by rw [show ((total G : Nat) : Int) - 1 = ((total G - 1 : Nat) : Int) by omega]; exact u64_nat (by omega)
        have e2 : IntKind.u64.wrap ((72057594037927935 : Int) - (a : Int)) = ((72057594037927935 - a : Nat) : Int) := by rw [show (72057594037927935 : Int) - (a : Int) = ((72057594037927935 - a : Nat) : Int) by omega]; exact u64_nat (by omega)
        by_cases h2 : total G - 1 > 72057594037927935 - a
        · refine Ev.step (f := fun k => screelaw7_LogGroup.j2 k (a : Int) G (G.map (List.map clr)) true) (fun k => ?_) (Ev.step (f := fun _ => some true) (fun k => by rw [screelaw7_LogGroup.j2, if_pos rfl]) (Ev.now true))
          rw [screelaw7_LogGroup.l0, if_neg (show ¬ (i : Int) < (G.length : Int) by omega), if_pos (show ((total G : Nat) : Int) > 0 by omega), if_neg (show ¬ (a : Int) > 72057594037927935 by omega), e1, e2, decide_eq_true (by omega)]
        · refine Ev.step (fun k => ?_) (group_end a G ha hp hok (by omega))
          rw [screelaw7_LogGroup.l0, if_neg (show ¬ (i : Int) < (G.length : Int) by omega), if_pos (show ((total G : Nat) : Int) > 0 by omega), if_neg (show ¬ (a : Int) > 72057594037927935 by omega), e1, e2, decide_eq_false (by omega)]
    · refine Ev.step (fun k => ?_) (group_end a G ha hp hok (by omega))
      rw [screelaw7_LogGroup.l0, if_neg (show ¬ (i : Int) < (G.length : Int) by omega), if_neg (show ¬ ((total G : Nat) : Int) > 0 by omega)]
  | succ d ih =>
    intro i hi hok
    have hlt : i < G.length := by omega
    have hx := rdG G i hlt
    obtain ⟨r, hr, hr0⟩ := batch_ev G[i]
    have hlp := len_parts G[i]
    have hmp := mem_partsG (List.getElem_mem hlt)
    have step : ∀ k, screelaw7_LogGroup.l0 (k + 1) (a : Int) G ((G.take i).map (List.map clr)) ((total (G.take i) : Nat) : Int) (i : Int) = (ikey_CheckBatch.f k G[i]).bind fun t344 => if t344 = 0 then screelaw7_LogGroup.l1 k (a : Int) G ((G.take i).map (List.map clr)) ((total (G.take i) : Nat) : Int) (i : Int) G[i] 0 else some true := fun k => by
      unfold partsG at hp
      rw [screelaw7_LogGroup.l0, if_pos (show (i : Int) < (G.length : Int) by omega), if_pos (show (0 : Int) ≤ (i : Int) by omega), hx]
      simp only [num_eq', Option.bind_some, List.nil_append, List.length_nil]
      rw [if_pos (show 0 + G[i].length < 3518437208883 by omega)]
    refine Ev.step step (Ev.bind hr ?_)
    by_cases h : r = 0
    · have hb := hr0 h
      have hok' : ∀ l ∈ G.take (i + 1), OkB l := by
        rw [List.take_succ_eq_append_getElem hlt]
        intro l hl
        rcases List.mem_append.1 hl with hl | hl
        · exact hok l hl
        · rw [List.mem_singleton.1 hl]; exact hb
      have htot := total_ok _ hok
      rw [List.length_take] at htot
      have hn := ih (i + 1) (by omega) hok'
      rw [total_take G i hlt, List.take_succ_eq_append_getElem hlt, List.map_append, List.map_cons, List.map_nil] at hn
      have hc := group_clear a G ((G.take i).map (List.map clr)) i (total (G.take i)) hlt hgl hb (by omega) (by rw [List.length_map, List.length_take]; omega) hn G[i].length 0 (by omega)
      refine Ev.congr (fun k => ?_) hc
      rw [if_pos h]
      unfold clrTo
      rw [List.take_zero, List.drop_zero]
      rfl
    · exact Ev.congr (fun k => by rw [if_neg h]) (Ev.now true)
/-- LogGroup is true. -/
theorem group_ev (a : Nat) (G : List (List Wr)) (ha : a < 18446744073709551616) (hG : G.length ≤ 140737488351232) (hl : ∀ l ∈ G, l.length ≤ 140737488351232) (hf : FitG G) : Ev (fun k => screelaw7_LogGroup.f k (a : Int) G) true := by
  unfold screelaw7_LogGroup.f
  have hs : screelaw7_small.f G = some (decide (0 ≤ cntG 32768 G)) := by unfold screelaw7_small.f; rw [if_pos ⟨hG, hl, hf⟩]
  by_cases hc : 0 ≤ cntG 32768 G
  · have hp := cntG_parts hc
    refine Ev.congr (f := fun k => (screelaw7_known.f k).bind fun t342 => (if t342 = true then (screelaw7_LogGroup.l0 k (a : Int) G ([] : List (List Wr)) 0 0) else (some false))) (fun k => by rw [hs, Option.bind_some, decide_eq_true hc, if_pos rfl]) (Ev.bind known_ev (Ev.congr (fun k => by rw [if_pos rfl]) ?_))
    have h := group_loop a G ha hp G.length 0 (by omega) (fun l hl => by simp at hl)
    exact h
  · exact Ev.congr (fun k => by rw [hs, Option.bind_some, decide_eq_false hc, if_neg (by decide)]) (Ev.now true)
end Go.Proofs.YtnamanalacjhnaaDoor.Pu
/- What the bound on bulk gives (this claim's own copy of the small lemmas). -/
namespace Go.Proofs.YtnamanalacjhnaaDoor
open Go.ChangeShapes Go.WideShapes Go.ChangeAt Go.RowKit
theorem part_one {H : Type} (d : DataW H) : 1 ≤ Rows.uptoBulk d := by
  cases d with
  | lit l => cases l <;> simp [Rows.uptoBulk]
  | nil => simp [Rows.uptoBulk]
  | ptr d => simp [Rows.uptoBulk]
  | slice elems spare => simp [Rows.uptoBulk]
  | agg parts => simp [Rows.uptoBulk]
  | iface t d => simp [Rows.uptoBulk]
  | map entries => simp [Rows.uptoBulk]
  | held h => simp [Rows.uptoBulk]
theorem part_le {H : Type} {d : DataW H} {l : List (DataW H)} (h : d ∈ l) : Rows.uptoBulk d ≤ Rows.uptoBulkAll l := by
  induction l with
  | nil => cases h
  | cons x r ih =>
    simp only [Rows.uptoBulkAll]
    cases List.mem_cons.1 h with
    | inl e => subst e; omega
    | inr e => have := ih e; omega
theorem length_bulk {H : Type} (l : List (DataW H)) : l.length ≤ Rows.uptoBulkAll l := by
  induction l with
  | nil => simp [Rows.uptoBulkAll]
  | cons x r ih => have := part_one x; simp only [Rows.uptoBulkAll, List.length_cons]; omega
theorem slice_bulk {H : Type} (elems spare : List (DataW H)) : elems.length ≤ Rows.uptoBulk (.slice elems spare) := by
  have h1 := length_bulk elems
  simp only [Rows.uptoBulk]
  omega
theorem bound {H : Type} {l : List (DataW H)} (hk : Rows.uptoSmall H l = true) : Rows.uptoBulkAll l ≤ 1048576 := of_decide_eq_true hk
theorem string_bulk {H : Type} (bytes : List UInt8) : bytes.length ≤ Rows.uptoBulk (DataW.lit (H := H) (.string bytes)) := by
  simp [Rows.uptoBulk]
theorem bulk_row {H : Type} {d : DataW H} {p r : List MemPlace} {len cap : Nat} {zs : List Int} {k : IntKind} (hx : (d, p) = (DataW.slice (lits k (zs.take len)) (lits k (zs.drop len)), r)) (hz : zs.length = cap) (hl : len ≤ cap) : len ≤ Rows.uptoBulk d := by
  obtain ⟨rfl, _⟩ := Prod.mk.inj hx
  have := slice_bulk (H := H) (lits k (zs.take len)) (lits k (zs.drop len))
  have hl2 : (lits (H := H) k (zs.take len)).length = len := by simp [lits]; omega
  rw [hl2] at this
  exact this
end Go.Proofs.YtnamanalacjhnaaDoor
/- Arguments that are lists, of lists or of structs, opened (this claim's own lemmas). -/
namespace Go.Proofs.YtnamanalacjhnaaDoor
namespace Opn
open Go.ChangeShapes Go.WideShapes Go.ChangeAt Go.RowKit Go.Deep
open YtnamanalacjhnaaDoorW.PrintWords
set_option linter.unusedVariables false
/-- The values of a type that came in, read as kind d: what holds of them; how much they bulk. -/
def Opens {H : Type} (enc : TypeId × Value → H) (P : Program) (W : World) (e : TypeId) {α : Type} (d : Kd α) (G : α → Prop) (wt : α → Nat) : Prop :=
  ∀ (base : Nat) (held : Bool) (fuel : Nat) (cs : List Value) (x : DataW H × List MemPlace), DataW.trod enc P W base (fun _ => true) held fuel e cs = some x → (∀ n ∈ x.1.weights P e, n ≤ 140737488351232) → ∃ v, d.K W v cs ∧ G v ∧ wt v ≤ Rows.uptoBulk x.1
section
variable {H : Type} {enc : TypeId × Value → H} {P : Program} {W : World} {t e : TypeId}
theorem opens_int {k : IntKind} (he : P.underlying e = some (.int k)) : Opens enc P W e (Kd.int k) (fun n => (Lit.int k n).wf = true) (fun _ => 1) := by
  intro base held fuel cs x h hw
  obtain ⟨n, rfl, rfl, hwf⟩ := DataW.trod_int he h
  exact ⟨n, rfl, hwf, by simp [Rows.uptoBulk]⟩
theorem opens_bool (he : P.underlying e = some .bool) : Opens enc P W e Kd.bool (fun _ => True) (fun _ => 1) := by
  intro base held fuel cs x h hw
  obtain ⟨n, rfl, rfl⟩ := DataW.trod_bool he h
  exact ⟨n, rfl, trivial, by simp [Rows.uptoBulk]⟩
theorem opens_str (he : P.underlying e = some .string) : Opens enc P W e Kd.string (fun s => s.size ≤ 140737488351232) (fun s => s.size + 1) := by
  intro base held fuel cs x h hw
  obtain ⟨s, rfl, rfl, hm⟩ := DataW.trod_string he h
  have hl : s.data.toList.length = s.size := Array.length_toList
  refine ⟨s, rfl, ?_, by simp only [Rows.uptoBulk, hl]; exact Nat.le_refl _⟩
  have := hw s.data.toList.length (by simp [DataW.weights])
  rw [hl] at this
  exact this
theorem list_of {α : Type} (n : Nat) (Q : Nat → α → Prop) (h : ∀ i, i < n → ∃ v, Q i v) : ∃ l : List α, l.length = n ∧ ∀ i v, l[i]? = some v → Q i v := by
  induction n with
  | zero => exact ⟨[], rfl, fun i v hv => by simp at hv⟩
  | succ n ih =>
    obtain ⟨l, hl, hq⟩ := ih (fun i hi => h i (by omega))
    obtain ⟨v, hv⟩ := h n (by omega)
    refine ⟨l ++ [v], by simp [hl], fun i u hu => ?_⟩
    by_cases hi : i < l.length
    · rw [List.getElem?_append_left hi] at hu
      exact hq i u hu
    · rw [List.getElem?_append_right (by omega)] at hu
      have h0 : i - l.length = 0 := by
        have := (List.getElem?_eq_some_iff.1 hu).1
        simp at this
        omega
      rw [h0] at hu
      simp at hu
      have hin : i = n := by omega
      subst hu
      subst hin
      exact hv
theorem bulk_all (l : List (DataW H)) : Rows.uptoBulkAll l = (l.map Rows.uptoBulk).sum := by
  induction l with
  | nil => simp [Rows.uptoBulkAll]
  | cons d l ih => simp [Rows.uptoBulkAll, ih]
theorem weights_all {d : DataW H} {l : List (DataW H)} (hd : d ∈ l) : ∀ n ∈ d.weights P e, n ∈ DataW.weightsAll P e l := by
  induction l with
  | nil => cases hd
  | cons y l ih =>
    intro n hn
    simp only [DataW.weightsAll, List.mem_append]
    rcases List.mem_cons.1 hd with rfl | hd
    · exact .inl hn
    · exact .inr (ih hd n hn)
theorem sum_bulk {α : Type} (wt : α → Nat) (l : List α) : ∀ (D : Nat → DataW H) (o : Nat), (∀ i v, l[i]? = some v → wt v ≤ Rows.uptoBulk (D (o + i))) → (l.map wt).sum ≤ (((List.range l.length).map fun i => D (o + i)).map Rows.uptoBulk).sum := by
  induction l with
  | nil => intro D o h; simp
  | cons x l ih =>
    intro D o h
    have h0 := h 0 x rfl
    have h1 := ih D (o + 1) (fun i v hv => by rw [Nat.add_assoc, Nat.add_comm 1]; exact h (i + 1) v (by simpa using hv))
    simp only [List.map_cons, List.sum_cons, List.length_cons, List.range_succ_eq_map, List.map_map]
    simp only [List.map_map] at h1
    have e : (Rows.uptoBulk ∘ (fun i => D (o + i)) ∘ Nat.succ) = (Rows.uptoBulk ∘ fun i => D (o + 1 + i)) := by
      funext i
      simp only [Function.comp]
      rw [show o + i.succ = o + 1 + i by omega]
    rw [e]
    simp only [Nat.add_zero] at h0 ⊢
    omega
theorem opens_slice {α : Type} {d : Kd α} {G : α → Prop} {wt : α → Nat} (ht : P.underlying t = some (.slice e)) (hc : P.cellsOf e = d.sz) (h : Opens enc P W e d G wt) :
    Opens enc P W t (Kd.slice e d) (fun l => l.length * P.bytesOf e ≤ 140737488351232 ∧ ∀ x ∈ l, G x) (fun l => (l.map wt).sum + 1) := by
  intro base held fuel cs x hx hw
  rcases open_slice ht hx with ⟨rfl, rfl⟩ | ⟨a, len, cap, m, n, D, Pl, rfl, hb, hl, hm, hmm, rfl, hi⟩
  · exact ⟨[], ⟨none, 0, rfl, Nat.le_refl _, Kd.C_nil _ _⟩, ⟨by simp, fun x hx => by cases hx⟩, by simp [Rows.uptoBulk]⟩
  · simp only [if_true] at hmm
    subst hmm
    have hwe : ∀ i, i < m → ∀ q ∈ (D i).weights P e, q ≤ 140737488351232 := by
      intro i him q hq
      refine hw q ?_
      simp only [DataW.weights, ht, List.mem_cons, List.mem_append]
      right
      by_cases hil : i < len
      · exact .inl (weights_all (List.mem_map.2 ⟨i, List.mem_range.2 hil, rfl⟩) q hq)
      · exact .inr (weights_all (List.mem_map.2 ⟨i - len, List.mem_range.2 (by omega), by rw [show len + (i - len) = i by omega]⟩) q hq)
    obtain ⟨l, hll, hq⟩ := list_of len (fun i v => ∃ cs', W.cells? base (a.add (i * P.cellsOf e)) (P.cellsOf e) = some cs' ∧ d.K W v cs' ∧ G v ∧ wt v ≤ Rows.uptoBulk (D i)) (fun i hil => by
      obtain ⟨cs', h1, h2⟩ := hi i (by omega)
      obtain ⟨v, k1, k2, k3⟩ := h base held n cs' (D i, Pl i) h2 (hwe i (by omega))
      exact ⟨v, cs', h1, k1, k2, k3⟩)
    refine ⟨l, ⟨some a, m, by rw [hll], by omega, rfl, by unfold maxLen at hm; omega, fun h0 => ⟨a, rfl, fun j p hp => ?_⟩⟩, ⟨?_, fun v hv => ?_⟩, ?_⟩
    · obtain ⟨cs', h1, k1, k2, k3⟩ := hq j p hp
      obtain ⟨_, hcl, hat⟩ := World.cells?_some h1
      rw [hc] at hcl hat
      refine ⟨cs', hcl, k1, fun i u hu => ?_⟩
      have hil : i < d.sz := by rw [← hcl]; exact (List.getElem?_eq_some_iff.1 hu).1
      have := hat i hil
      rw [hu, Go.Deep.add_add] at this
      exact this
    · have := hw ((len + (m - len)) * P.bytesOf e) (by simp [DataW.weights, ht])
      rw [hll]
      refine Nat.le_trans (Nat.mul_le_mul_right _ ?_) this
      omega
    · obtain ⟨i, hiv⟩ := List.getElem?_of_mem hv
      obtain ⟨cs', h1, k1, k2, k3⟩ := hq i v hiv
      exact k2
    · have hs := sum_bulk wt l D 0 (fun i v hv => by
        obtain ⟨cs', h1, k1, k2, k3⟩ := hq i v hv
        rw [Nat.zero_add]
        exact k3)
      simp only [Nat.zero_add] at hs
      rw [hll] at hs
      have e0 : (fun i => D i) = D := rfl
      rw [e0] at hs
      simp only [Rows.uptoBulk, bulk_all]
      omega
theorem field_at {fs : Array Field} {cs : List Value} (hone : oneCellFields P fs = true) (hcl : cs.length = fs.size) {xs : List (DataW H × List MemPlace)} {n base : Nat} {held : Bool}
    (hf : ∀ (i : Nat) (f : Field), fs[i]? = some f → DataW.trod enc P W base (fun _ => true) held n f.type ((cs.drop f.offset).take (P.cellsOf f.type)) = xs[i]?) (j : Nat) (f : Field) (hj : fs[j]? = some f) : ∃ v, cs[j]? = some v ∧ DataW.trod enc P W base (fun _ => true) held n f.type [v] = xs[j]? := by
  obtain ⟨ho, hk⟩ := hone_of hone j f hj
  have hjl : j < cs.length := by rw [hcl]; exact (Array.getElem?_eq_some_iff.1 hj).1
  have h1 := hf j f hj
  rw [ho, hk, List.drop_eq_getElem_cons hjl] at h1
  exact ⟨cs[j], List.getElem?_eq_getElem hjl, h1⟩
theorem each_mem {ts : List TypeId} {ds : List (DataW H)} {j : Nat} {u : TypeId} {d : DataW H} (ht : ts[j]? = some u) (hd : ds[j]? = some d) (hw : ∀ n ∈ DataW.weightsEach P ts ds, n ≤ 140737488351232) : ∀ n ∈ d.weights P u, n ≤ 140737488351232 := fun n hn => hw n (DataW.weights_mem_each ht hd n hn)
/-- A struct of a text, a bool, a text. -/
theorem opens_sbs {α : Type} {d : Kd α} {f0 f1 f2 : Field} {mk : ByteArray → Bool → ByteArray → α} {G : α → Prop} {wt : α → Nat} (ht : P.underlying t = some (.struct #[f0, f1, f2])) (hone : oneCellFields P #[f0, f1, f2] = true) (hC : P.cellsOf t = 3)
    (h0 : P.underlying f0.type = some .string) (h1 : P.underlying f1.type = some .bool) (h2 : P.underlying f2.type = some .string) (hK : ∀ a b c, d.K W (mk a b c) [.string a, .bool b, .string c])
    (hG : ∀ a b c, a.size ≤ 140737488351232 → c.size ≤ 140737488351232 → G (mk a b c)) (hwt : ∀ a b c, wt (mk a b c) ≤ a.size + c.size + 4) : Opens enc P W t d G wt := by
  intro base held fuel cs x hx hw
  obtain ⟨xs, n, _, rfl, hcl, hxl, hf⟩ := DataW.trod_struct ht hx
  rw [hC] at hcl
  obtain ⟨v0, e0, g0⟩ := field_at hone hcl hf 0 f0 rfl
  obtain ⟨v1, e1, g1⟩ := field_at hone hcl hf 1 f1 rfl
  obtain ⟨v2, e2, g2⟩ := field_at hone hcl hf 2 f2 rfl
  have hxl' : xs.length = 3 := hxl
  match xs, hxl' with
  | [y0, y1, y2], _ =>
    match cs, hcl with
    | [c0, c1, c2], _ =>
      simp only [List.getElem?_cons_zero, List.getElem?_cons_succ, Option.some.injEq] at e0 e1 e2 g0 g1 g2
      subst e0 e1 e2
      simp only [List.map_cons, List.map_nil, DataW.weights, ht] at hw
      have w0 := each_mem (P := P) (j := 0) (ts := [f0.type, f1.type, f2.type]) (ds := [y0.1, y1.1, y2.1]) rfl rfl hw
      have w2 := each_mem (P := P) (j := 2) (ts := [f0.type, f1.type, f2.type]) (ds := [y0.1, y1.1, y2.1]) rfl rfl hw
      obtain ⟨s0, hk0, q0, b0⟩ := opens_str h0 base held n [c0] y0 g0 w0
      obtain ⟨s1, hk1, q1, b1⟩ := opens_bool h1 base held n [c1] y1 g1 (fun n hn => by
        obtain ⟨b, _, hy⟩ := DataW.trod_bool h1 g1
        rw [hy] at hn
        simp [DataW.weights] at hn)
      obtain ⟨s2, hk2, q2, b2⟩ := opens_str h2 base held n [c2] y2 g2 w2
      have k0 : c0 = .string s0 := List.cons.inj hk0 |>.1
      have k1 : c1 = .bool s1 := List.cons.inj hk1 |>.1
      have k2 : c2 = .string s2 := List.cons.inj hk2 |>.1
      subst k0 k1 k2
      refine ⟨mk s0 s1 s2, hK _ _ _, hG _ _ _ q0 q2, ?_⟩
      have := hwt s0 s1 s2
      dsimp only at b0 b1 b2
      simp only [List.map_cons, List.map_nil, Rows.uptoBulk, Rows.uptoBulkAll]
      omega
/-- A slice that is an argument. -/
theorem slice_arg {α : Type} {d : Kd α} {G : List α → Prop} {wt : List α → Nat} {base : Nat} {held : Bool} {a : Option Addr} {len cap : Nat} {da : DataW H} {ps : List MemPlace} {ts : List TypeId} {ds : List (DataW H)} {j : Nat} (ho : Opens enc P W t (Kd.slice e d) G wt)
    (hsz : (DataW.weightsEach P ts ds).all (· ≤ reachBytes) = true) (hts : ts[j]? = some t) (hds : ds[j]? = some da) (h : DataW.Trod enc P W base (fun _ => true) held t (.slice a len cap) da ps) :
    ∃ l : List α, len = l.length ∧ d.C W a l.length l ∧ l.length ≤ cap ∧ G l ∧ wt l ≤ Rows.uptoBulk da := by
  obtain ⟨fuel, hf⟩ := h
  obtain ⟨l, ⟨A, c, he, hlc, hC⟩, hg, hb⟩ := ho base held fuel _ _ hf (fun n hn => by
    exact of_decide_eq_true (List.all_eq_true.1 hsz n (DataW.weights_mem_each hts hds n hn)))
  simp only [Value.cells, List.cons.injEq, and_true, Value.slice.injEq] at he
  obtain ⟨rfl, rfl, rfl⟩ := he
  exact ⟨l, rfl, hC, hlc, hg, hb⟩
end
end Opn
end Go.Proofs.YtnamanalacjhnaaDoor
/- Groups of batches, and lists of bytes, that came in (this claim's own lemmas). -/
namespace Go.Proofs.YtnamanalacjhnaaDoor
namespace Opn
open Go.ChangeShapes Go.WideShapes Go.ChangeAt Go.RowKit
open YtnamanalacjhnaaDoorW.PrintWords
set_option linter.unusedVariables false
section
variable {H : Type} {enc : TypeId × Value → H} {W : World}
abbrev Wr := QBk.S67
abbrev kW : Kd Wr := QBk.k67
def wtW (x : Wr) : Nat := x.f0.size + x.f2.size + 4
def wtB (l : List Wr) : Nat := (l.map wtW).sum + 1
def wtG (g : List (List Wr)) : Nat := (g.map wtB).sum + 1
def GW (x : Wr) : Prop := x.f0.size ≤ 140737488351232 ∧ x.f2.size ≤ 140737488351232
theorem opens_write : Opens enc Tryd.prog W 67 kW GW wtW :=
  opens_sbs (mk := fun a b c => ⟨a, b, c⟩) Tryd.underlying67 (by kernel_rfl) (by kernel_rfl) Tryd.underlying9 Tryd.underlying4 Tryd.underlying9 (fun a b c => QBk.k67_mk W ⟨a, b, c⟩) (fun a b c h0 h2 => ⟨h0, h2⟩) (fun a b c => by show a.size + c.size + 4 ≤ _; omega)
theorem opens_writes : Opens enc Tryd.prog W 65 (Kd.slice 67 kW) (fun l => l.length * Tryd.prog.bytesOf 67 ≤ 140737488351232 ∧ ∀ x ∈ l, GW x) wtB := opens_slice Tryd.underlying65 (by kernel_rfl) opens_write
theorem opens_groups : Opens enc Tryd.prog W 31 (Kd.slice 65 (Kd.slice 67 kW)) (fun g => g.length * Tryd.prog.bytesOf 65 ≤ 140737488351232 ∧ ∀ l ∈ g, l.length * Tryd.prog.bytesOf 67 ≤ 140737488351232 ∧ ∀ x ∈ l, GW x) wtG := opens_slice Tryd.underlying31 (by kernel_rfl) opens_writes
theorem bytesW : Tryd.prog.bytesOf 67 = 40 := by kernel_rfl
theorem bytesWs : Tryd.prog.bytesOf 65 = 24 := by kernel_rfl
def GG (g : List (List Wr)) : Prop := g.length ≤ 140737488351232 ∧ (∀ l ∈ g, l.length ≤ 140737488351232) ∧ ∀ l ∈ g, ∀ x ∈ l, GW x
theorem groups_arg {base : Nat} {held : Bool} {a : Option Addr} {len cap : Nat} {da : DataW H} {ps : List MemPlace} {ts : List TypeId} {ds : List (DataW H)} {j : Nat}
    (hsz : (DataW.weightsEach Tryd.prog ts ds).all (· ≤ reachBytes) = true) (hts : ts[j]? = some 31) (hds : ds[j]? = some da) (h : DataW.Trod enc Tryd.prog W base (fun _ => true) held 31 (.slice a len cap) da ps) :
    ∃ l : List (List Wr), len = l.length ∧ (Kd.slice 67 kW).C W a l.length l ∧ l.length ≤ cap ∧ GG l ∧ wtG l ≤ Rows.uptoBulk da := by
  obtain ⟨l, h1, h2, h3, ⟨h4, h5⟩, h6⟩ := slice_arg opens_groups hsz hts hds h
  rw [bytesWs] at h4
  refine ⟨l, h1, h2, h3, ⟨by omega, fun r hr => ?_, fun r hr => (h5 r hr).2⟩, h6⟩
  have := (h5 r hr).1
  rw [bytesW] at this
  omega
def wtR (l : List Int) : Nat := (l.map fun _ => 1).sum + 1
def wtRs (g : List (List Int)) : Nat := (g.map wtR).sum + 1
theorem opens_bytes : Opens enc Tryd.prog W 22 (Kd.slice 5 (Kd.int .u8)) (fun l => l.length * Tryd.prog.bytesOf 5 ≤ 140737488351232 ∧ ∀ x ∈ l, (Lit.int .u8 x).wf = true) wtR := opens_slice Tryd.underlying22 (by kernel_rfl) (opens_int Tryd.underlying5)
theorem opens_chunks : Opens enc Tryd.prog W 24 (Kd.slice 22 (Kd.slice 5 (Kd.int .u8))) (fun g => g.length * Tryd.prog.bytesOf 22 ≤ 140737488351232 ∧ ∀ l ∈ g, l.length * Tryd.prog.bytesOf 5 ≤ 140737488351232 ∧ ∀ x ∈ l, (Lit.int .u8 x).wf = true) wtRs := opens_slice Tryd.underlying24 (by kernel_rfl) opens_bytes
theorem bytesU : Tryd.prog.bytesOf 5 = 1 := by kernel_rfl
theorem bytesUs : Tryd.prog.bytesOf 22 = 24 := by kernel_rfl
def GR (g : List (List Int)) : Prop := g.length ≤ 5864062014634 ∧ (∀ l ∈ g, l.length ≤ 140737488351232) ∧ ∀ l ∈ g, ∀ x ∈ l, (Lit.int .u8 x).wf = true
theorem chunks_arg {base : Nat} {held : Bool} {a : Option Addr} {len cap : Nat} {da : DataW H} {ps : List MemPlace} {ts : List TypeId} {ds : List (DataW H)} {j : Nat}
    (hsz : (DataW.weightsEach Tryd.prog ts ds).all (· ≤ reachBytes) = true) (hts : ts[j]? = some 24) (hds : ds[j]? = some da) (h : DataW.Trod enc Tryd.prog W base (fun _ => true) held 24 (.slice a len cap) da ps) :
    ∃ l : List (List Int), len = l.length ∧ (Kd.slice 5 (Kd.int .u8)).C W a l.length l ∧ l.length ≤ cap ∧ GR l ∧ wtRs l ≤ Rows.uptoBulk da := by
  obtain ⟨l, h1, h2, h3, ⟨h4, h5⟩, h6⟩ := slice_arg opens_chunks hsz hts hds h
  rw [bytesUs] at h4
  refine ⟨l, h1, h2, h3, ⟨by omega, fun r hr => ?_, fun r hr => (h5 r hr).2⟩, h6⟩
  have := (h5 r hr).1
  rw [bytesU] at this
  omega
end
end Opn
end Go.Proofs.YtnamanalacjhnaaDoor
/- The walk of LogGroup (this claim's own lemmas). -/
namespace Go.Proofs.YtnamanalacjhnaaDoor.LogGroup
open Go.RowKit Go.Proofs.YtnamanalacjhnaaDoorW.PrintWords Go.Proofs.YtnamanalacjhnaaDoor.Own Go.Proofs.YtnamanalacjhnaaDoor.QBk
set_option linter.unusedVariables false
theorem walk (a0 : Int) (w0 : (Lit.int .u64 a0).wf = true) (A1 : Option Addr) (c1 : Nat) (l1 : List (List Opn.Wr)) {w' : World} (hr1 : (Kd.slice 67 Opn.kW).C w' A1 l1.length l1) (hc1 : l1.length ≤ c1) (hg1 : Opn.GG l1) (up1 : Opn.wtG l1 ≤ 1048576) (w : World) (hT : GT w) (e : w' = w := by rfl) :
    Calls Tryd.prog 7 #[.int .u64 a0, .slice A1 l1.length c1] w fun e w' => e = .returned (.bool true) ∧ Below w.heap.size w w' := by
  subst e
  have x0 : 0 ≤ a0 ∧ a0 ≤ 18446744073709551615 := by simpa [Lit.wf, IntKind.min, IntKind.max, IntKind.signed, IntKind.bits] using w0
  obtain ⟨n, rfl⟩ := Int.eq_ofNat_of_zero_le x0.1
  obtain ⟨k, hk⟩ := (Pu.group_ev n l1 (by omega) hg1.1 hg1.2.1 hg1.2.2).rounds
  exact screelaw7_LogGroup.calls k n A1 c1 l1 true _ hr1 hc1 hk hT
end Go.Proofs.YtnamanalacjhnaaDoor.LogGroup
namespace Go.Proofs.YtnamanalacjhnaaDoor.logGroup
open Go.ChangeShapes Go.WideShapes Go.ChangeAt Go.RowKit
open Go.ChangeMaps (open_string shut_string)
set_option linter.unusedVariables false
theorem own : ownKnob Tryd.prog.godebug = none := by kernel_rfl
theorem laidOut : laidOutB Tryd.prog = true := by kernel_rfl
def IsRow (k : IntKind) (w : World) (a : Option Addr) (len cap : Nat) (zs : List Int) : Prop :=
  (a = none ∧ len = 0 ∧ cap = 0 ∧ zs = []) ∨
  ∃ x, a = some x ∧ len ≤ cap ∧ cap ≤ maxLen ∧ zs.length = cap ∧ (∀ i, i < zs.length → w.cell? (x.add i) = some (.int k (zs.getD i 0))) ∧ ∀ n ∈ zs, (Lit.int k n).wf = true
theorem gTab : Tryd.prog.globalNamed "scree/codec.nibbles" = some 0 := by kernel_rfl
theorem gTabType : (Tryd.prog.globals[0]?).map (·.type) = some 141 := by kernel_rfl
theorem cellsA : Tryd.prog.cellsOf 141 = 16 := by kernel_rfl
theorem cellsE : Tryd.prog.cellsOf 79 = 1 := by kernel_rfl
theorem table {W : World} (h : laidMetH Tryd.prog Rows.logGroupUptoRow.laid W) : Lib.TabIs Tryd.prog W "scree/codec.nibbles" .u32 Own.nibs :=
  Lib.tabIs_of_head (rest := []) gTab gTabType Tryd.underlying141 Tryd.underlying79 cellsE cellsA h
theorem gt {W : World} (h : laidMetH Tryd.prog Rows.logGroupUptoRow.laid W) : Own.GT W := fun i hi => by
  have hl : i < Own.nibs.length := by simpa [Own.nibs] using hi
  have := (table h).cell gTab i hl
  simpa [List.getD_eq_getElem?_getD, hl] using this
set_option maxRecDepth 100000 in
theorem contract (H : Type) (enc : TypeId × Value → H) (W : World) (base : Nat) (args : Array Value) (ds gs : List (DataW H)) (before : List MemPlace)
    (hval : ∀ (j : Nat) t v, Tryd.f7.params[j]? = some t → args[j]? = some v → Value.okWide Tryd.prog W .any base t v)
    (hW : DataW.Whole enc Tryd.prog Tryd.f7.params.toList Rows.logGroupSpec.vars false W args.toList ds gs before)
    (hsz0 : (DataW.weightsEach Tryd.prog (Tryd.f7.params.toList ++ Rows.logGroupSpec.plain.varTypes Tryd.prog) (ds ++ gs)).all (· ≤ reachBytes) = true) (hk : Rows.uptoSmall H (ds ++ gs) = true) (hL : laidMetH Tryd.prog Rows.logGroupUptoRow.laid W) :
    Calls Tryd.prog 7 args W fun e W' => ∃ v, e = .returned v ∧ Rows.logGroupSpec.post enc Tryd.prog Tryd.f7 false true false false W args v W' := by
  have hW' := hW
  have hsz := hsz0
  obtain ⟨p, q, hA0, hV, rfl, hfz, hnd⟩ := hW
  have hA : DataW.TrodAll enc Tryd.prog W 0 (fun _ => true) true Tryd.f7.params.toList args.toList ds p := hA0
  rw [Tryd.params7] at hA hval hsz
  obtain ⟨v0, vs0, d0, ds0, p0, q0, hargs, rfl, rfl, h0, r0⟩ := trodAll_cons hA
  obtain ⟨v1, vs1, d1, ds1, p1, q1, rfl, rfl, rfl, h1, r1⟩ := trodAll_cons r0
  obtain ⟨rfl, rfl, rfl⟩ := trodAll_nil r1
  obtain rfl : args = #[v0, v1] := by cases args; simp_all
  obtain ⟨rfl, rfl⟩ := trodVars_none hV
  obtain ⟨a0, rfl, rfl, rfl, w0⟩ := open_int Tryd.underlying62 (hval 0 62 v0 rfl rfl) h0
  obtain ⟨a1, len1, cap1, rfl⟩ := okWide_slice Tryd.underlying31 (hval 1 31 v1 rfl rfl)
  have k1 := h1
  have lt1 : ∀ x ∈ p1, x.block < W.heap.size := by obtain ⟨m, hm⟩ := k1; exact DataW.trod_lt m _ _ _ hm
  obtain ⟨l1, el1, hr1, hc1, hg1, dz1⟩ := Opn.groups_arg (j := 1) hsz rfl rfl h1
  subst el1
  have hbk := bound hk
  have up1 : Opn.wtG l1 ≤ 1048576 := by have h1_ := part_le (d := d1) (l := [.lit (.int .u64 a0), d1] ++ []) (by simp); omega
  refine (LogGroup.walk a0 w0 a1 cap1 l1 hr1 hc1 hg1 up1 W (gt hL)).mono fun e W' ⟨he, bel⟩ => ?_
  subst he
  exact ⟨_, rfl, _, _, _, [], _, [], hW', trodAll_mk1 (shut_bool Tryd.underlying4 _), (trodAll_cons_mk (shut_int Tryd.underlying62 w0) (trodAll_cons_mk (Below.trod laidOut (by kernel_rfl) (of_decide_eq_true (by kernel_rfl)) k1 bel lt1) trodAll_mk0)), rfl, bel.frame _, fun h => by cases h⟩
noncomputable def laidWorld (os : Os) : World :=
  { World.holding Tryd.prog os ⟨#[], #[], []⟩ with heap := (World.holding Tryd.prog os ⟨#[], #[], []⟩).heap.modify 0 fun
      | .cells _ t frozen => .cells #[.int .u32 0, .int .u32 274646895, .int .u32 549293790, .int .u32 820201905, .int .u32 1098587580, .int .u32 1361435347, .int .u32 1640403810, .int .u32 1905808397, .int .u32 2197175160, .int .u32 2460548119, .int .u32 2722870694, .int .u32 2987750089, .int .u32 3280807620, .int .u32 3553878443, .int .u32 3811616794, .int .u32 4084100981] t frozen
      | o => o }
theorem laid_met (os : Os) : laidMet Tryd.prog Rows.logGroupUptoRow.laid ((laidWorld os).forCall (fun _ _ => 0) ⟨#[], #[.int .u64 0, .slice none 0 0], []⟩).memory :=
  laidMet_of_run' 8 (by kernel_rfl) (by kernel_rfl)
theorem reads (os : Os) {H : Type} (enc : TypeId × Value → H) : ∃ places, DataW.whole enc Tryd.prog ((laidWorld os).forCall (fun _ _ => 0) ⟨#[], #[.int .u64 0, .slice none 0 0], []⟩).memory Tryd.f7.params.toList Rows.logGroupSpec.vars false #[.int .u64 0, .slice none 0 0].toList 8 = some ([.lit (.int .u64 0), .nil], [], places) :=
  ⟨[], by kernel_rfl⟩
set_option maxRecDepth 100000 in
theorem lifted (os : Os) (started : os.Started) (H : Type) (enc : TypeId × Value → H) (F : Stop.Interp) :
    ReturnsInHanded {} Tryd.checked os 7 .any ((Rows.OpenSpec.upto Rows.logGroupSpec).preRow enc Tryd.prog Tryd.f7 Rows.logGroupUptoRow.domain false Rows.logGroupUptoRow.laid) (((Rows.OpenSpec.upto Rows.logGroupSpec).at F).post enc Tryd.prog Tryd.f7 false true false false) := by
  obtain ⟨places, hx⟩ := reads os enc
  refine returnsInHanded_of_row (C := Tryd.checked) (s := Rows.OpenSpec.upto Rows.logGroupSpec) own started (by kernel_rfl) Tryd.func7
    (witness_row_at (enc := enc) (C := Tryd.checked) false (laidWorld os) #[.int .u64 0, .slice none 0 0] rfl (by kernel_rfl) (by kernel_rfl) (by kernel_rfl)
      (OpenSpec.preRow_of_cond 8 hx (by kernel_rfl) (fun k hk => by cases hk; kernel_rfl) (by kernel_rfl) (laid_met os))) ?_
  intro W base args ds gs before hval hW _ hcond hsz hL _ _
  exact contract H enc W base args ds gs before hval hW hsz (hcond _ rfl) hL
theorem said : Rows.LogGroupUptoSaid :=
  OpenClaim.holds_of_cond 7 Tryd.f7 rfl rfl rfl rfl rfl rfl rfl ⟨rfl, rfl, rfl, rfl, rfl⟩ rfl rfl rfl rfl rfl (by kernel_rfl) Tryd.func7 (by kernel_rfl)
    (of_decide_eq_true (by kernel_rfl)) (by unfold Func.isWrapper; first | (rw [if_pos (by decide +kernel)]; kernel_rfl) | (rw [if_neg (by decide +kernel)]; exact ⟨rfl, rfl⟩))
    (fun os started H enc _ F => by rw [OpenClaim.pre_eq_preRow]; exact lifted os started H enc F)
theorem plain (f : FuncId) (fn : Func) (hf : Tryd.pinned.checked.prog.funcNamed "scree/screelaw7.LogGroup" = some f) (hfn : Tryd.pinned.checked.prog.funcs[f]? = some fn) :
    false = Tryd.pinned.checked.prog.looks [] ∧ ∀ (j : Nat) t, fn.params[j]? = some t → Tryd.pinned.checked.prog.wantsStandIn t = false := by
  obtain rfl : f = 7 := Option.some.inj ((show Tryd.prog.funcNamed "scree/screelaw7.LogGroup" = some 7 by kernel_rfl).symm.trans hf) |>.symm
  obtain rfl : fn = Tryd.f7 := (Option.some.inj (Tryd.func7.symm.trans hfn)).symm
  refine ⟨by kernel_rfl, fun j t ht => ?_⟩
  rw [Tryd.params7] at ht
  have hm : t ∈ [62, 31] := by have := Array.mem_of_getElem? ht; simpa using this
  have hall : ([62, 31].all fun u => !Tryd.prog.wantsStandIn u) = true := by kernel_rfl
  exact (show Tryd.prog.wantsStandIn t = false by simpa using List.all_eq_true.1 hall t hm)
theorem proved : Rows.LogGroupUptoCardSaid :=
  Claim7.holds_tied_plain_at .later [] _ _ _ _ said (fun _ h => by cases h) (by kernel_rfl) (fun _ h => by cases h) logGroupUpto_row_tie rfl ⟨rfl, rfl⟩ (by kernel_rfl) rfl plain (by kernel_rfl)
#print axioms proved
end Go.Proofs.YtnamanalacjhnaaDoor.logGroup
