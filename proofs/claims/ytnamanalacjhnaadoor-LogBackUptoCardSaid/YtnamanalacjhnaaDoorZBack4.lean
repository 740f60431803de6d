/- LogBack returns true, and leaves its arguments as they were, where they hold together at most 1048576 values and letters; the table of four bits' sums reads as the program's text lays it (tied by the card). -/
import Derived.Test.YtnamanalacjhnaaDoorZBack2
import Derived.Test.YtnamanalacjhnaaDoorZBack3
import Derived.Test.YtnamanalacjhnaaDoorRows
import Derived.WalkKit
import Derived.ProofKit
import Derived.OpenShut
import Derived.Test.YtnamanalacjhnaaDoorWWords
import Derived.Deep.Slices
import Derived.Deep.Fields
import Derived.ChangeSame
import Derived.ChangeArms
import Derived.SizedLaws
import Derived.Test.YtnamanalacjhnaaDoorZBack1
import Derived.Test.YtnamanalacjhnaaDoorCards
import Derived.Test.YtnamanalacjhnaaDoorTie
import Derived.ShutString
import Derived.ChangeOld
import Derived.Below
import Derived.Deep.DeepHandedRow
import Derived.Lib.LaidTab
import Derived.JoinedCond
import Derived.Deep.CondSized
import Derived.Test.YtnamanalacjhnaaDoorWSized
/- A record of a group goes into a log and comes out again: the law's own example (this claim's own lemmas). -/
namespace Go.Proofs.YtnamanalacjhnaaDoor.Pu
open Go.RowKit Go.Proofs.YtnamanalacjhnaaDoorW.PrintWords Go.Proofs.YtnamanalacjhnaaDoor.Own Go.Proofs.YtnamanalacjhnaaDoor.U Go.Proofs.YtnamanalacjhnaaDoor.QBk
open Go.Proofs.YtnamanalacjhnaaDoor.Sm (parts partsG)
open Go.Proofs.YtnamanalacjhnaaDoor.Lg Go.Proofs.YtnamanalacjhnaaDoor.Lr
set_option linter.unusedVariables false
def g0 : List (List Wr) := [[(⟨(⟨#[97]⟩ : ByteArray), false, (⟨#[49]⟩ : ByteArray)⟩ : Wr), (⟨(⟨#[98]⟩ : ByteArray), true, (⟨#[]⟩ : ByteArray)⟩ : Wr)], []]
def r0 : List Int := [172, 2, 2, 2, 0, 1, 97, 1, 49, 1, 1, 98, 0]
theorem numL_300 : numL 300 = [172, 2] := by
  rw [numL_big (by decide), show 300 / 128 = 2 from rfl, numL_small (by decide)]
  rfl
theorem put_g0 : putL 300 g0 = r0 := by
  have h2 : numL 2 = [2] := numL_small (by decide)
  have h1 : numL 1 = [1] := numL_small (by decide)
  have h0 : numL 0 = [0] := numL_small (by decide)
  have ha : txL (⟨#[97]⟩ : ByteArray) = [1, 97] := by
    unfold txL
    rw [show (⟨#[97]⟩ : ByteArray).size = 1 from rfl, h1]
    rfl
  have hb : txL (⟨#[98]⟩ : ByteArray) = [1, 98] := by
    unfold txL
    rw [show (⟨#[98]⟩ : ByteArray).size = 1 from rfl, h1]
    rfl
  have hv : txL (⟨#[49]⟩ : ByteArray) = [1, 49] := by
    unfold txL
    rw [show (⟨#[49]⟩ : ByteArray).size = 1 from rfl, h1]
    rfl
  unfold putL batL g0
  simp only [List.flatMap_cons, List.flatMap_nil, List.length_cons, List.length_nil, List.append_nil, wrL]
  rw [numL_300, show (0 + 1 + 1 : Nat) = 2 from rfl, h2, h0, ha, hb, hv]
  rfl
theorem r0_bytes : Bytes r0 := by rw [← put_g0]; exact put_bytes _ _
theorem append_bytes (a : Nat) (r : List Int) (h : Bytes r) : Bytes (appendL (a : Int) r) := by
  rw [append_nat]
  split
  · rename_i hh
    refine Go.Proofs.YtnamanalacjhnaaDoor.G.bytes_app (fun y hy => ?_) (pieces_bytes r.length _ _ _ (Nat.le_refl _) (by omega) h)
    rw [List.mem_replicate] at hy
    omega
  · exact pieces_bytes r.length _ _ _ (Nat.le_refl _) (by omega) h
theorem append_eq (a : Nat) (r : List Int) (h : Bytes r) (hl : r.length ≤ 1073741824) (ha : a ≤ 9223372036854775807) : log_Append.f (a : Int) r = some (appendL (a : Int) r) := by
  unfold log_Append.f
  rw [if_pos ⟨okB_iff.2 h, hl, by omega⟩]
theorem read_eq (l : List Int) (h : Bytes l) (hl : l.length ≤ 2147483647) : log_Read.f l = some ((readL l).1, ((readL l).2.1 : Int), (readL l).2.2) := by
  unfold log_Read.f
  rw [if_pos ⟨okB_iff.2 h, hl⟩]
theorem same_eq (l m : List Int) (h : l.length ≤ 9223372036854775807) : screelaw7_same.f l m = some (decide (l = m)) := by
  unfold screelaw7_same.f
  rw [if_pos h]
theorem known_ev : Ev (fun k => screelaw7_known.f k) true := by
  have hput := put_ev 300 g0 (by decide) (by decide)
  rw [put_g0] at hput
  have hA : log_Append.f 0 r0 = some (appendL ((0 : Nat) : Int) r0) := append_eq 0 r0 r0_bytes (by decide) (by decide)
  obtain ⟨b, hb⟩ : ∃ b, b = appendL ((0 : Nat) : Int) r0 := ⟨_, rfl⟩
  have hlen : b.length = 20 := by rw [hb, append_nat, if_neg (by decide), pieces_last (by decide), Go.Proofs.YtnamanalacjhnaaDoor.Lg.piece_len]; rfl
  have hbb : Bytes b := by rw [hb]; exact append_bytes 0 r0 r0_bytes
  have hrb := read_back [r0]
  rw [show layAll [] [r0] = b by rw [hb]; simp [layAll], hlen] at hrb
  have hR : log_Read.f b = some ([r0], ((20 : Nat) : Int), 0) := by rw [read_eq b hbb (by omega), hrb]
  have hS : screelaw7_same.f r0 r0 = some true := by rw [same_eq _ _ (by decide)]; simp
  have hG : log_Get.f r0 = some (300, g0, 0) := by
    have hg := get_put 300 g0 (by decide) (by decide) (by
      intro l hl
      simp only [g0, List.mem_cons, List.not_mem_nil, or_false] at hl
      rcases hl with rfl | rfl
      · refine ⟨by decide, fun x hx => ?_⟩
        simp only [List.mem_cons, List.not_mem_nil, or_false] at hx
        rcases hx with rfl | rfl
        · exact ⟨by decide, by decide, fun _ => by decide⟩
        · exact ⟨by decide, by decide, fun h => by cases h⟩
      · exact ⟨by decide, fun x hx => by cases hx⟩) (by decide)
    rw [put_g0] at hg
    unfold log_Get.f
    rw [if_pos ⟨okB_iff.2 r0_bytes, by decide⟩, hg]
    rfl
  have hSG := groups_ev g0 (by decide) (by decide)
  unfold screelaw7_known.f
  refine Ev.congr (g := _) (f := fun k => (log_Put.f k 300 g0).bind _) (fun k => rfl) (Ev.bind hput ?_)
  refine Ev.congr (f := fun k => screelaw7_known.j0 k g0 [r0] false) (fun k => ?_) (Ev.step (f := fun k => (screelaw7_sameGroups.f k g0 g0).bind fun t => (if t = true then ((screelaw7_num.f 0).bind fun t260 => (some (t260 == 0))) else (some false))) (fun k => ?_) (Ev.bind hSG ?_))
  · rw [show (([172, 2, 2, 2, 0, 1, 97, 1, 49, 1, 1, 98, 0] : List Int)) = r0 from rfl, hS, Option.bind_some, if_pos rfl, hA, Option.bind_some, ← hb, hR, Option.bind_some]
    dsimp only
    rw [if_pos (by omega), if_pos (by decide), if_pos (by decide), show rd_L1 [r0] 0 = r0 from rfl, hS, Option.bind_some, if_pos rfl, if_pos (by decide)]
    rfl
  · rw [screelaw7_known.j0, if_neg (by decide), if_pos (by decide), show rd_L1 [r0] 0 = r0 from rfl, hG, Option.bind_some]
    dsimp only
    rw [if_pos rfl]
  · exact Ev.congr (fun k => by rw [if_pos rfl]; rfl) (Ev.now true)
end Go.Proofs.YtnamanalacjhnaaDoor.Pu
-- Printed by a program of this claim's own out of the translation.
namespace Go.Proofs.YtnamanalacjhnaaDoor.QBk
open Go.Proofs.YtnamanalacjhnaaDoor.Own
open Go.RowKit Go.Proofs.YtnamanalacjhnaaDoorW.PrintWords Go.Proofs.YtnamanalacjhnaaDoorW.PrintLast Go.Proofs.YtnamanalacjhnaaDoorW.PrintMore
attribute [local go_sem] max2_int min2_int max_two min_two max_three min_three max_four min_four   -- for this text's walks alone
set_option linter.unusedVariables false
set_option linter.unusedSimpArgs false

/-! ### screelaw7_laid: function 21 -/
end Go.Proofs.YtnamanalacjhnaaDoor.QBk
-- Printed by a program of this claim's own out of the translation.
namespace Go.Proofs.YtnamanalacjhnaaDoor.QBk
open Go.Proofs.YtnamanalacjhnaaDoor.Own
open Go.RowKit Go.Proofs.YtnamanalacjhnaaDoorW.PrintWords Go.Proofs.YtnamanalacjhnaaDoorW.PrintLast Go.Proofs.YtnamanalacjhnaaDoorW.PrintMore
attribute [local go_sem] max2_int min2_int max_two min_two max_three min_three max_four min_four   -- for this text's walks alone
set_option linter.unusedVariables false
set_option linter.unusedSimpArgs false

/-! ### screelaw7_LogBack: function 6 -/
mutual
def screelaw7_LogBack.j0 : Nat → List (List Int) → Int → List Int → List Int → List Int → Bool → Option (Bool)
  | 0, _, _, _, _, _, _ => none
  | k + 1, x0, x1, x2, x7, x8, x54 => if x54 = true then (some false) else (if (wrap64 ((x7.length : Int) + 1)) = 0 then (none) else (if (Int.tmod x1 (wrap64 ((x7.length : Int) + 1))) < 0 then (screelaw7_LogBack.j1 k x0 (wrap64 ((wrap64 ((Int.tmod x1 (wrap64 ((x7.length : Int) + 1))) + (x7.length : Int))) + 1)) x2 x7 x8) else (screelaw7_LogBack.j1 k x0 (Int.tmod x1 (wrap64 ((x7.length : Int) + 1))) x2 x7 x8)))
def screelaw7_LogBack.j1 : Nat → List (List Int) → Int → List Int → List Int → List Int → Option (Bool)
  | 0, _, _, _, _, _ => none
  | k + 1, x0, x1, x2, x7, x8 => screelaw7_LogBack.l0 k x0 x1 x2 x7 x8 0 0
def screelaw7_LogBack.j3 : Nat → List (List Int) → Int → List Int → List Int → Int → Int → Option (Bool)
  | 0, _, _, _, _, _, _ => none
  | k + 1, x0, x1, x2, x7, x13, x14 => if 0 ≤ x1 then (if x1 ≤ (x7.length : Int) then ((log_Read.f (x7.take (x1 : Int).toNat)).bind fun bt293 => (if 0 ≤ x13 then (if x13 ≤ (x0.length : Int) then ((screelaw7_sameRecords.f k bt293.1 (x0.take (x13 : Int).toNat)).bind fun t302 => (if t302 = true then (if bt293.2.1 = x14 then ((screelaw7_num.f bt293.2.2).bind fun t303 => (if ((t303 == 0) != (bt293.2.1 == x1)) = true then (screelaw7_LogBack.j4 k x0 x2 x7 true) else ((screelaw7_num.f bt293.2.2).bind fun t304 => (if t304 = 0 then (screelaw7_LogBack.j4 k x0 x2 x7 false) else ((screelaw7_num.f bt293.2.2).bind fun t305 => (screelaw7_LogBack.j4 k x0 x2 x7 (t305 != 70))))))) else (screelaw7_LogBack.j4 k x0 x2 x7 true)) else (screelaw7_LogBack.j4 k x0 x2 x7 true))) else (none)) else (none))) else (none)) else (none)
def screelaw7_LogBack.j4 : Nat → List (List Int) → List Int → List Int → Bool → Option (Bool)
  | 0, _, _, _, _ => none
  | k + 1, x0, x2, x7, x122 => if x122 = true then (some false) else (if ([] : List Int).length + x7.length < 140737488355328 then ((some (([] : List Int) ++ x7 : List Int)).bind fun y306 => (if y306.length + x2.length < 140737488355328 then ((log_Read.f (y306 ++ x2)).bind fun bt312 => (if (bt312.1.length : Int) ≥ (x0.length : Int) then (if 0 ≤ (x0.length : Int) then (if (x0.length : Int) ≤ (bt312.1.length : Int) then ((screelaw7_sameRecords.f k (bt312.1.take ((x0.length : Int) : Int).toNat) x0).bind fun t321 => (if t321 = true then (some (decide (bt312.2.1 ≥ (x7.length : Int)))) else (some false))) else (none)) else (none)) else (some false))) else (none))) else (none))
def screelaw7_LogBack.l0 : Nat → List (List Int) → Int → List Int → List Int → List Int → Int → Int → Option (Bool)
  | 0, _, _, _, _, _, _, _ => none
  | k + 1, x0, x1, x2, x7, x8, x13, x14 => if x13 < (x8.length : Int) then (if 0 ≤ x13 then (if (rd x8 x13) ≤ x1 then (screelaw7_LogBack.l0 k x0 x1 x2 x7 x8 (wrap64 (x13 + 1)) (rd x8 x13)) else (screelaw7_LogBack.j3 k x0 x1 x2 x7 x13 x14)) else (none)) else (screelaw7_LogBack.j3 k x0 x1 x2 x7 x13 x14)
end
def screelaw7_LogBack.f (k : Nat) (l0 : List (List Int)) (a1 : Int) (l2 : List Int) : Option (Bool) := if (l2.length : Int) > 65536 then (some true) else ((screelaw7_known.f k).bind fun t272 => (if t272 = true then ((screelaw7_laid.f k l0).bind fun bt273 => (if bt273.2.2 = true then ((log_Read.f bt273.1).bind fun bt280 => ((screelaw7_sameRecords.f k bt280.1 l0).bind fun t285 => (if t285 = true then (if bt280.2.1 = (bt273.1.length : Int) then ((screelaw7_num.f bt280.2.2).bind fun t286 => (screelaw7_LogBack.j0 k l0 a1 l2 bt273.1 bt273.2.1 (t286 != 0))) else (screelaw7_LogBack.j0 k l0 a1 l2 bt273.1 bt273.2.1 true)) else (screelaw7_LogBack.j0 k l0 a1 l2 bt273.1 bt273.2.1 true)))) else (some true))) else (some false)))
theorem screelaw7_LogBack.mono_l : ∀ k, (∀ y0 y1 y2 y3 y4 y5, LeO (screelaw7_LogBack.j0 k y0 y1 y2 y3 y4 y5) (screelaw7_LogBack.j0 (k + 1) y0 y1 y2 y3 y4 y5)) ∧ (∀ y0 y1 y2 y3 y4, LeO (screelaw7_LogBack.j1 k y0 y1 y2 y3 y4) (screelaw7_LogBack.j1 (k + 1) y0 y1 y2 y3 y4)) ∧ (∀ y0 y1 y2 y3 y4 y5, LeO (screelaw7_LogBack.j3 k y0 y1 y2 y3 y4 y5) (screelaw7_LogBack.j3 (k + 1) y0 y1 y2 y3 y4 y5)) ∧ (∀ y0 y1 y2 y3, LeO (screelaw7_LogBack.j4 k y0 y1 y2 y3) (screelaw7_LogBack.j4 (k + 1) y0 y1 y2 y3)) ∧ (∀ y0 y1 y2 y3 y4 y5 y6, LeO (screelaw7_LogBack.l0 k y0 y1 y2 y3 y4 y5 y6) (screelaw7_LogBack.l0 (k + 1) y0 y1 y2 y3 y4 y5 y6))
  | 0 => ⟨fun _ _ _ _ _ _ r h => by simp [screelaw7_LogBack.j0] at h, fun _ _ _ _ _ r h => by simp [screelaw7_LogBack.j1] at h, fun _ _ _ _ _ _ r h => by simp [screelaw7_LogBack.j3] at h, fun _ _ _ _ r h => by simp [screelaw7_LogBack.j4] at h, fun _ _ _ _ _ _ _ r h => by simp [screelaw7_LogBack.l0] at h⟩
  | k + 1 => by
    obtain ⟨ih0, ih1, ih2, ih3, ih4⟩ := screelaw7_LogBack.mono_l k
    refine ⟨?_, ?_, ?_, ?_, ?_⟩
    · intro y0 y1 y2 y3 y4 y5
      unfold screelaw7_LogBack.j0
      repeat' first
      | (with_reducible exact ih0 _ _ _ _ _ _)
      | (with_reducible exact ih1 _ _ _ _ _)
      | (with_reducible exact ih2 _ _ _ _ _ _)
      | (with_reducible exact ih3 _ _ _ _)
      | (with_reducible exact ih4 _ _ _ _ _ _ _)
      | (with_reducible exact screelaw7_known.mono _)
      | (with_reducible exact screelaw7_laid.mono _ _)
      | (with_reducible exact screelaw7_sameRecords.mono _ _ _)
      | (with_reducible exact LeO.refl _)
      | (with_reducible exact LeO.none _)
      | (with_reducible refine LeO.ite ?_ ?_)
      | (with_reducible refine LeO.bind ?_ (fun _ => ?_))
      | exact ih0 _ _ _ _ _ _
      | exact ih1 _ _ _ _ _
      | exact ih2 _ _ _ _ _ _
      | exact ih3 _ _ _ _
      | exact ih4 _ _ _ _ _ _ _
      | exact screelaw7_known.mono _
      | exact screelaw7_laid.mono _ _
      | exact screelaw7_sameRecords.mono _ _ _
      | exact LeO.none _
      | refine LeO.ite ?_ ?_
      | refine LeO.bind ?_ (fun _ => ?_)
    · intro y0 y1 y2 y3 y4
      unfold screelaw7_LogBack.j1
      repeat' first
      | (with_reducible exact ih0 _ _ _ _ _ _)
      | (with_reducible exact ih1 _ _ _ _ _)
      | (with_reducible exact ih2 _ _ _ _ _ _)
      | (with_reducible exact ih3 _ _ _ _)
      | (with_reducible exact ih4 _ _ _ _ _ _ _)
      | (with_reducible exact screelaw7_known.mono _)
      | (with_reducible exact screelaw7_laid.mono _ _)
      | (with_reducible exact screelaw7_sameRecords.mono _ _ _)
      | (with_reducible exact LeO.refl _)
      | (with_reducible exact LeO.none _)
      | (with_reducible refine LeO.ite ?_ ?_)
      | (with_reducible refine LeO.bind ?_ (fun _ => ?_))
      | exact ih0 _ _ _ _ _ _
      | exact ih1 _ _ _ _ _
      | exact ih2 _ _ _ _ _ _
      | exact ih3 _ _ _ _
      | exact ih4 _ _ _ _ _ _ _
      | exact screelaw7_known.mono _
      | exact screelaw7_laid.mono _ _
      | exact screelaw7_sameRecords.mono _ _ _
      | exact LeO.none _
      | refine LeO.ite ?_ ?_
      | refine LeO.bind ?_ (fun _ => ?_)
    · intro y0 y1 y2 y3 y4 y5
      unfold screelaw7_LogBack.j3
      repeat' first
      | (with_reducible exact ih0 _ _ _ _ _ _)
      | (with_reducible exact ih1 _ _ _ _ _)
      | (with_reducible exact ih2 _ _ _ _ _ _)
      | (with_reducible exact ih3 _ _ _ _)
      | (with_reducible exact ih4 _ _ _ _ _ _ _)
      | (with_reducible exact screelaw7_known.mono _)
      | (with_reducible exact screelaw7_laid.mono _ _)
      | (with_reducible exact screelaw7_sameRecords.mono _ _ _)
      | (with_reducible exact LeO.refl _)
      | (with_reducible exact LeO.none _)
      | (with_reducible refine LeO.ite ?_ ?_)
      | (with_reducible refine LeO.bind ?_ (fun _ => ?_))
      | exact ih0 _ _ _ _ _ _
      | exact ih1 _ _ _ _ _
      | exact ih2 _ _ _ _ _ _
      | exact ih3 _ _ _ _
      | exact ih4 _ _ _ _ _ _ _
      | exact screelaw7_known.mono _
      | exact screelaw7_laid.mono _ _
      | exact screelaw7_sameRecords.mono _ _ _
      | exact LeO.none _
      | refine LeO.ite ?_ ?_
      | refine LeO.bind ?_ (fun _ => ?_)
    · intro y0 y1 y2 y3
      unfold screelaw7_LogBack.j4
      repeat' first
      | (with_reducible exact ih0 _ _ _ _ _ _)
      | (with_reducible exact ih1 _ _ _ _ _)
      | (with_reducible exact ih2 _ _ _ _ _ _)
      | (with_reducible exact ih3 _ _ _ _)
      | (with_reducible exact ih4 _ _ _ _ _ _ _)
      | (with_reducible exact screelaw7_known.mono _)
      | (with_reducible exact screelaw7_laid.mono _ _)
      | (with_reducible exact screelaw7_sameRecords.mono _ _ _)
      | (with_reducible exact LeO.refl _)
      | (with_reducible exact LeO.none _)
      | (with_reducible refine LeO.ite ?_ ?_)
      | (with_reducible refine LeO.bind ?_ (fun _ => ?_))
      | exact ih0 _ _ _ _ _ _
      | exact ih1 _ _ _ _ _
      | exact ih2 _ _ _ _ _ _
      | exact ih3 _ _ _ _
      | exact ih4 _ _ _ _ _ _ _
      | exact screelaw7_known.mono _
      | exact screelaw7_laid.mono _ _
      | exact screelaw7_sameRecords.mono _ _ _
      | exact LeO.none _
      | refine LeO.ite ?_ ?_
      | refine LeO.bind ?_ (fun _ => ?_)
    · intro y0 y1 y2 y3 y4 y5 y6
      unfold screelaw7_LogBack.l0
      repeat' first
      | (with_reducible exact ih0 _ _ _ _ _ _)
      | (with_reducible exact ih1 _ _ _ _ _)
      | (with_reducible exact ih2 _ _ _ _ _ _)
      | (with_reducible exact ih3 _ _ _ _)
      | (with_reducible exact ih4 _ _ _ _ _ _ _)
      | (with_reducible exact screelaw7_known.mono _)
      | (with_reducible exact screelaw7_laid.mono _ _)
      | (with_reducible exact screelaw7_sameRecords.mono _ _ _)
      | (with_reducible exact LeO.refl _)
      | (with_reducible exact LeO.none _)
      | (with_reducible refine LeO.ite ?_ ?_)
      | (with_reducible refine LeO.bind ?_ (fun _ => ?_))
      | exact ih0 _ _ _ _ _ _
      | exact ih1 _ _ _ _ _
      | exact ih2 _ _ _ _ _ _
      | exact ih3 _ _ _ _
      | exact ih4 _ _ _ _ _ _ _
      | exact screelaw7_known.mono _
      | exact screelaw7_laid.mono _ _
      | exact screelaw7_sameRecords.mono _ _ _
      | exact LeO.none _
      | refine LeO.ite ?_ ?_
      | refine LeO.bind ?_ (fun _ => ?_)
theorem screelaw7_LogBack.mono : ∀ a0 a1 a2 k, LeO (screelaw7_LogBack.f k a0 a1 a2) (screelaw7_LogBack.f (k + 1) a0 a1 a2) := by
  intro a0 a1 a2 k
  obtain ⟨ih0, ih1, ih2, ih3, ih4⟩ := screelaw7_LogBack.mono_l k
  unfold screelaw7_LogBack.f
  repeat' first
      | (with_reducible exact ih0 _ _ _ _ _ _)
      | (with_reducible exact ih1 _ _ _ _ _)
      | (with_reducible exact ih2 _ _ _ _ _ _)
      | (with_reducible exact ih3 _ _ _ _)
      | (with_reducible exact ih4 _ _ _ _ _ _ _)
      | (with_reducible exact screelaw7_known.mono _)
      | (with_reducible exact screelaw7_laid.mono _ _)
      | (with_reducible exact screelaw7_sameRecords.mono _ _ _)
      | (with_reducible exact LeO.refl _)
      | (with_reducible exact LeO.none _)
      | (with_reducible refine LeO.ite ?_ ?_)
      | (with_reducible refine LeO.bind ?_ (fun _ => ?_))
      | exact ih0 _ _ _ _ _ _
      | exact ih1 _ _ _ _ _
      | exact ih2 _ _ _ _ _ _
      | exact ih3 _ _ _ _
      | exact ih4 _ _ _ _ _ _ _
      | exact screelaw7_known.mono _
      | exact screelaw7_laid.mono _ _
      | exact screelaw7_sameRecords.mono _ _ _
      | exact LeO.none _
      | refine LeO.ite ?_ ?_
      | refine LeO.bind ?_ (fun _ => ?_)
set_option maxHeartbeats 8000000 in
set_option maxRecDepth 100000 in
theorem screelaw7_LogBack.calls (k : Nat) (A0 : Option Addr) (c0 : Nat) (l0 : List (List Int)) (a1 : Int) (A2 : Option Addr) (c2 : Nat) (l2 : List Int) (r : Bool) (w : World) (hr0 : Kd.C (Kd.slice 5 (Kd.int .u8)) w A0 l0.length l0) (hc0 : l0.length ≤ c0) (hr2 : Kd.C (Kd.int .u8) w A2 l2.length l2) (hc2 : l2.length ≤ c2) (h : screelaw7_LogBack.f k l0 a1 l2 = some r) (hT_ : GT w) :
    Calls Tryd.prog 6 #[.slice A0 l0.length c0, .int .i64 a1, .slice A2 l2.length c2] w fun e w' => e = .returned (.bool r) ∧ Below w.heap.size w w' := by
  have HT_ := Aside0.mk hT_
  clear hT_
  have HR0 := Aside0.mk hr0
  have HC0 := Aside0.mk hc0
  clear hr0 hc0
  have HR2 := Aside0.mk hr2
  have HC2 := Aside0.mk hc2
  clear hr2 hc2
  have HB := Aside0.mk (Below.refl w.heap.size w)
  have H : (if (l2.length : Int) > 65536 then (some true) else ((screelaw7_known.f k).bind fun t272 => (if t272 = true then ((screelaw7_laid.f k l0).bind fun bt273 => (if bt273.2.2 = true then ((log_Read.f bt273.1).bind fun bt280 => ((screelaw7_sameRecords.f k bt280.1 l0).bind fun t285 => (if t285 = true then (if bt280.2.1 = (bt273.1.length : Int) then ((screelaw7_num.f bt280.2.2).bind fun t286 => (screelaw7_LogBack.j0 k l0 a1 l2 bt273.1 bt273.2.1 (t286 != 0))) else (screelaw7_LogBack.j0 k l0 a1 l2 bt273.1 bt273.2.1 true)) else (screelaw7_LogBack.j0 k l0 a1 l2 bt273.1 bt273.2.1 true)))) else (some true))) else (some false)))) = some r := h
  clear h
  by_cases c4 : (l2.length : Int) > 65536
  · rw [if_pos c4] at H
    have c4b0 : decide (65536 < (l2.length : Int)) = true := decide_eq_true c4
    have c4b1 : decide (65536 < l2.length) = true := decide_eq_true (by omega)
    clear c4
    obtain rfl := Option.some.inj H
    go_enter Tryd.func6, Tryd.ntmps6
    go_wp2
    go_ret
    exact ⟨by first | rfl | (simp [errW_none, errW_some] <;> rfl) | (simp [*, errW_none, errW_some] <;> rfl), by repeat (first | (with_reducible first | exact HB.out | apply below_alloc | apply pw_below_drewN | apply below_drew1) | exact HB.out)⟩
  · rw [if_neg c4] at H
    have c4b0 : decide (65536 < (l2.length : Int)) = false := decide_eq_false c4
    have c4b1 : decide (65536 < l2.length) = false := decide_eq_false (by omega)
    clear c4
    replace H := Option.bind_eq_some_iff.mp H
    obtain ⟨t272, A50, H⟩ := H
    replace H : (if t272 = true then ((screelaw7_laid.f k l0).bind fun bt273 => (if bt273.2.2 = true then ((log_Read.f bt273.1).bind fun bt280 => ((screelaw7_sameRecords.f k bt280.1 l0).bind fun t285 => (if t285 = true then (if bt280.2.1 = (bt273.1.length : Int) then ((screelaw7_num.f bt280.2.2).bind fun t286 => (screelaw7_LogBack.j0 k l0 a1 l2 bt273.1 bt273.2.1 (t286 != 0))) else (screelaw7_LogBack.j0 k l0 a1 l2 bt273.1 bt273.2.1 true)) else (screelaw7_LogBack.j0 k l0 a1 l2 bt273.1 bt273.2.1 true)))) else (some true))) else (some false)) = some r := H
    have A5 := Aside0.mk A50
    clear A50
    by_cases c6 : t272 = true
    · subst c6
      have H1 : ((screelaw7_laid.f k l0).bind fun bt273 => (if bt273.2.2 = true then ((log_Read.f bt273.1).bind fun bt280 => ((screelaw7_sameRecords.f k bt280.1 l0).bind fun t285 => (if t285 = true then (if bt280.2.1 = (bt273.1.length : Int) then ((screelaw7_num.f bt280.2.2).bind fun t286 => (screelaw7_LogBack.j0 k l0 a1 l2 bt273.1 bt273.2.1 (t286 != 0))) else (screelaw7_LogBack.j0 k l0 a1 l2 bt273.1 bt273.2.1 true)) else (screelaw7_LogBack.j0 k l0 a1 l2 bt273.1 bt273.2.1 true)))) else (some true))) = some r := by rw [if_pos rfl] at H; exact H
      clear H
      have H := H1
      clear H1
      replace H := Option.bind_eq_some_iff.mp H
      obtain ⟨⟨t273, t274, t275⟩, A70, H⟩ := H
      replace H : (if t275 = true then ((log_Read.f t273).bind fun bt280 => ((screelaw7_sameRecords.f k bt280.1 l0).bind fun t285 => (if t285 = true then (if bt280.2.1 = (t273.length : Int) then ((screelaw7_num.f bt280.2.2).bind fun t286 => (screelaw7_LogBack.j0 k l0 a1 l2 t273 t274 (t286 != 0))) else (screelaw7_LogBack.j0 k l0 a1 l2 t273 t274 true)) else (screelaw7_LogBack.j0 k l0 a1 l2 t273 t274 true)))) else (some true)) = some r := H
      have A7 := Aside0.mk A70
      clear A70
      by_cases c8 : t275 = true
      · subst c8
        have H1 : ((log_Read.f t273).bind fun bt280 => ((screelaw7_sameRecords.f k bt280.1 l0).bind fun t285 => (if t285 = true then (if bt280.2.1 = (t273.length : Int) then ((screelaw7_num.f bt280.2.2).bind fun t286 => (screelaw7_LogBack.j0 k l0 a1 l2 t273 t274 (t286 != 0))) else (screelaw7_LogBack.j0 k l0 a1 l2 t273 t274 true)) else (screelaw7_LogBack.j0 k l0 a1 l2 t273 t274 true)))) = some r := by rw [if_pos rfl] at H; exact H
        clear H
        have H := H1
        clear H1
        replace H := Option.bind_eq_some_iff.mp H
        obtain ⟨⟨t280, t281, t282⟩, A90, H⟩ := H
        replace H : ((screelaw7_sameRecords.f k t280 l0).bind fun t285 => (if t285 = true then (if t281 = (t273.length : Int) then ((screelaw7_num.f t282).bind fun t286 => (screelaw7_LogBack.j0 k l0 a1 l2 t273 t274 (t286 != 0))) else (screelaw7_LogBack.j0 k l0 a1 l2 t273 t274 true)) else (screelaw7_LogBack.j0 k l0 a1 l2 t273 t274 true))) = some r := H
        have A9 := Aside0.mk A90
        clear A90
        have HC10 := Aside0.mk H
        clear H
        go_enter Tryd.func6, Tryd.ntmps6
        go_upto_region 9 with (first | ((with_reducible refine gate_callee (f := 20) rfl ?_); refine goesL_ (some 24) rfl rfl Tryd.func20 (by kernel_rfl) rfl #[] rfl (by (try simp only [List.map_toArray, List.map_cons, List.map_nil]); first | done | rfl | (simp only [List.length_drop, List.length_take]; rfl)) ?_; (with_reducible refine (screelaw7_known.calls k  true _ A5.out ?side1).mono ?_); (case side1 => first | (with_reducible exact HT_.out) | exact GT.below HT_.out (by repeat (first | (with_reducible first | exact HB.out | apply below_alloc | apply pw_below_drewN | apply below_drew1) | exact HB.out))); rintro e w11 ⟨rfl, hb⟩; refine ⟨_, rfl, ?_⟩; have n0_ := Aside0.mk (below_step (by repeat (first | (with_reducible first | exact HB.out | apply below_alloc | apply pw_below_drewN | apply below_drew1) | exact HB.out)) hb); clear HB; have HB := n0_; clear n0_; (try clear hb); (try clear hb2); (try clear hk); (try clear hi)) | ((with_reducible refine gate_callee (f := 21) rfl ?_); refine goesL_ (some 28) rfl rfl Tryd.func21 (by kernel_rfl) rfl #[.slice A0 l0.length c0] rfl (by (try simp only [List.map_toArray, List.map_cons, List.map_nil]); first | done | rfl | (simp only [List.length_drop, List.length_take]; rfl)) ?_; (with_reducible refine (screelaw7_laid.calls k _ _ l0 t273 t274 true _ ?side1 ?side2 A7.out ?side3).mono ?_); (case side1 => repeat (first | exact (Kd.C_below HR0.out HB.out) | (with_reducible refine Kd.C_alloc ?_ _) | (with_reducible refine Kd.C_drewN ?_ _) | (with_reducible refine Kd.C_drew ?_))); (case side2 => exact HC0.out); (case side3 => first | (with_reducible exact HT_.out) | exact GT.below HT_.out (by repeat (first | (with_reducible first | exact HB.out | apply below_alloc | apply pw_below_drewN | apply below_drew1) | exact HB.out))); rintro e w12 ⟨v276, v278, rfl, ho0, ho1, hb⟩; refine ⟨_, rfl, ?_⟩; have n0_ := Aside0.mk (Kd.R_lower ho0 (below_size (by repeat (first | (with_reducible first | exact HB.out | apply below_alloc | apply pw_below_drewN | apply below_drew1) | exact HB.out)))); have n1_ := Aside0.mk (Kd.R_lower ho1 (below_size (by repeat (first | (with_reducible first | exact HB.out | apply below_alloc | apply pw_below_drewN | apply below_drew1) | exact HB.out)))); have n2_ := Aside0.mk (below_step (by repeat (first | (with_reducible first | exact HB.out | apply below_alloc | apply pw_below_drewN | apply below_drew1) | exact HB.out)) hb); clear HB; have HO277 := n0_; have HO279 := n1_; have HB := n2_; clear n0_ n1_ n2_; (try clear hb); (try clear hb2); (try clear hk); (try clear hi); (try clear ho0); (try clear ho1); obtain ⟨Ao13, co13, eo13⟩ := Kd.R_slice HO277.out; subst eo13) | ((with_reducible refine gate_callee (f := 17) rfl ?_); refine goesL_ (some 36) rfl rfl Tryd.func17 (by kernel_rfl) rfl #[.slice Ao13 t273.length co13] rfl (by (try simp only [List.map_toArray, List.map_cons, List.map_nil]); first | done | rfl | (simp only [List.length_drop, List.length_take]; rfl)) ?_; (with_reducible refine (log_Read.calls _ _ t273 t280 t281 t282 _ ?side1 ?side2 A9.out ?side3).mono ?_); (case side1 => repeat (first | exact (Kd.R_reads' HO277.out).2.2 | (with_reducible refine Kd.C_alloc ?_ _) | (with_reducible refine Kd.C_drewN ?_ _) | (with_reducible refine Kd.C_drew ?_))); (case side2 => exact (Kd.R_reads' HO277.out).2.1); (case side3 => first | (with_reducible exact HT_.out) | exact GT.below HT_.out (by repeat (first | (with_reducible first | exact HB.out | apply below_alloc | apply pw_below_drewN | apply below_drew1) | exact HB.out))); rintro e w14 ⟨v283, rfl, ho0, hb⟩; refine ⟨_, rfl, ?_⟩; have n0_ := Aside0.mk (Kd.R_below (by (with_reducible repeat (first | apply Kd.R_alloc | apply Kd.R_drewN | apply Kd.R_drew)); exact HO277.out) hb); have n1_ := Aside0.mk (Kd.R_below (by (with_reducible repeat (first | apply Kd.R_alloc | apply Kd.R_drewN | apply Kd.R_drew)); exact HO279.out) hb); have n2_ := Aside0.mk (Kd.S_lower (Kd.S_new' ho0 (Kd.R_lt (by (with_reducible repeat (first | apply Kd.R_alloc | apply Kd.R_drewN | apply Kd.R_drew)); exact HO277.out))) (below_size (by repeat (first | (with_reducible first | exact HB.out | apply below_alloc | apply pw_below_drewN | apply below_drew1) | exact HB.out)))); have n3_ := Aside0.mk (below_step (by repeat (first | (with_reducible first | exact HB.out | apply below_alloc | apply pw_below_drewN | apply below_drew1) | exact HB.out)) hb); clear HO277; clear HO279; clear HB; have HO277 := n0_; have HO279 := n1_; have HO284 := n2_; have HB := n3_; clear n0_ n1_ n2_ n3_; (try clear hb); (try clear hb2); (try clear hk); (try clear hi); (try clear ho0)))
        (try simp only [Act.put, List.setIfInBounds_toArray, List.set_cons_zero, List.set_cons_succ])
        go_cut [54] (fun v54 wc => ∃ (kq : Nat) (x54_9 : Bool), v54 = .bool x54_9 ∧ Aside0 (screelaw7_LogBack.j0 kq l0 a1 l2 t273 t274 x54_9 = some r) ∧ Aside0 (kq ≤ k) ∧ Aside0 (Kd.R (Kd.int .u8) 5 wc w.heap.size (fun _ => True) (.slice Ao13 t273.length co13) t273) ∧ Aside0 (Kd.R (Kd.int .i64) 3 wc w.heap.size (fun _ => True) v278 t274) ∧ Aside0 (Below w.heap.size w wc))
        case first =>
          have H := HC10.out
          clear HC10
          replace H := Option.bind_eq_some_iff.mp H
          obtain ⟨t285, A150, H⟩ := H
          replace H : (if t285 = true then (if t281 = (t273.length : Int) then ((screelaw7_num.f t282).bind fun t286 => (screelaw7_LogBack.j0 k l0 a1 l2 t273 t274 (t286 != 0))) else (screelaw7_LogBack.j0 k l0 a1 l2 t273 t274 true)) else (screelaw7_LogBack.j0 k l0 a1 l2 t273 t274 true)) = some r := H
          have A15 := Aside0.mk A150
          clear A150
          by_cases c16 : t285 = true
          · subst c16
            have H1 : (if t281 = (t273.length : Int) then ((screelaw7_num.f t282).bind fun t286 => (screelaw7_LogBack.j0 k l0 a1 l2 t273 t274 (t286 != 0))) else (screelaw7_LogBack.j0 k l0 a1 l2 t273 t274 true)) = some r := by rw [if_pos rfl] at H; exact H
            clear H
            have H := H1
            clear H1
            by_cases c17 : t281 = (t273.length : Int)
            · rw [if_pos c17] at H
              have c17b0 : (t281 == (t273.length : Int)) = true := beq_iff_eq.mpr c17
              have c17b1 : (t281 != (t273.length : Int)) = false := bne_eq_false_iff_eq.mpr c17
              clear c17
              (first | rw [c17b0] | (simp only [i64_w, i32_w]; rw [c17b0]) | skip)
              replace H := Option.bind_eq_some_iff.mp H
              obtain ⟨t286, A180, H⟩ := H
              replace H : (screelaw7_LogBack.j0 k l0 a1 l2 t273 t274 (t286 != 0)) = some r := H
              have A18 := Aside0.mk A180
              clear A180
              have H' := Aside0.mk H
              clear H
              obtain ⟨Ao19, co19, eo19⟩ := Kd.S_slice HO284.out
              subst eo19
              go_wp2_with (first | ((with_reducible refine gate_callee (f := 16) rfl ?_); refine goesL_ (some 42) rfl rfl Tryd.func16 (by kernel_rfl) rfl #[.slice Ao19 t280.length co19, .slice A0 l0.length c0] rfl (by (try simp only [List.map_toArray, List.map_cons, List.map_nil]); first | done | rfl | (simp only [List.length_drop, List.length_take]; rfl)) ?_; (with_reducible refine (screelaw7_sameRecords.calls k _ _ t280 _ _ l0 true _ ?side1 ?side2 ?side3 ?side4 A15.out).mono ?_); (case side1 => repeat (first | exact (Kd.S_reads' HO284.out).2.2 | (with_reducible refine Kd.C_alloc ?_ _) | (with_reducible refine Kd.C_drewN ?_ _) | (with_reducible refine Kd.C_drew ?_))); (case side2 => exact (Kd.S_reads' HO284.out).2.1); (case side3 => repeat (first | exact (Kd.C_below HR0.out HB.out) | (with_reducible refine Kd.C_alloc ?_ _) | (with_reducible refine Kd.C_drewN ?_ _) | (with_reducible refine Kd.C_drew ?_))); (case side4 => exact HC0.out); rintro e w' ⟨rfl, ⟨nd, rfl⟩⟩; refine ⟨_, rfl, ?_⟩) | (go_at_call 18; (with_reducible refine (screelaw7_num.calls t282 t286 _ A18.out).mono ?_); rintro e w' ⟨rfl, ⟨nd, rfl⟩⟩))
              go_meet
              case rel => exact ⟨_, ((t286 != 0)), (by first | rfl | (simp; done) | (simp [*]; done)), H', ⟨by first | omega | exact Nat.le_refl _⟩, ⟨by (with_reducible repeat (first | apply Kd.R_alloc | apply Kd.R_drewN | apply Kd.R_drew)); exact HO277.out⟩, ⟨by (with_reducible repeat (first | apply Kd.R_alloc | apply Kd.R_drewN | apply Kd.R_drew)); exact HO279.out⟩, ⟨by repeat (first | (with_reducible first | exact HB.out | apply below_alloc | apply pw_below_drewN | apply below_drew1) | exact HB.out)⟩⟩
            · rw [if_neg c17] at H
              have c17b0 : (t281 == (t273.length : Int)) = false := beq_eq_false_iff_ne.mpr c17
              have c17b1 : (t281 != (t273.length : Int)) = true := bne_iff_ne.mpr c17
              (first | rw [c17b0] | (simp only [i64_w, i32_w]; rw [c17b0]) | skip)
              have H' := Aside0.mk H
              clear H
              obtain ⟨Ao20, co20, eo20⟩ := Kd.S_slice HO284.out
              subst eo20
              go_wp2_with (first | ((with_reducible refine gate_callee (f := 16) rfl ?_); refine goesL_ (some 42) rfl rfl Tryd.func16 (by kernel_rfl) rfl #[.slice Ao20 t280.length co20, .slice A0 l0.length c0] rfl (by (try simp only [List.map_toArray, List.map_cons, List.map_nil]); first | done | rfl | (simp only [List.length_drop, List.length_take]; rfl)) ?_; (with_reducible refine (screelaw7_sameRecords.calls k _ _ t280 _ _ l0 true _ ?side1 ?side2 ?side3 ?side4 A15.out).mono ?_); (case side1 => repeat (first | exact (Kd.S_reads' HO284.out).2.2 | (with_reducible refine Kd.C_alloc ?_ _) | (with_reducible refine Kd.C_drewN ?_ _) | (with_reducible refine Kd.C_drew ?_))); (case side2 => exact (Kd.S_reads' HO284.out).2.1); (case side3 => repeat (first | exact (Kd.C_below HR0.out HB.out) | (with_reducible refine Kd.C_alloc ?_ _) | (with_reducible refine Kd.C_drewN ?_ _) | (with_reducible refine Kd.C_drew ?_))); (case side4 => exact HC0.out); rintro e w' ⟨rfl, ⟨nd, rfl⟩⟩; refine ⟨_, rfl, ?_⟩))
              go_meet
              case rel => exact ⟨_, (true), (by first | rfl | (simp; done) | (simp [*]; done)), H', ⟨by first | omega | exact Nat.le_refl _⟩, ⟨by (with_reducible repeat (first | apply Kd.R_alloc | apply Kd.R_drewN | apply Kd.R_drew)); exact HO277.out⟩, ⟨by (with_reducible repeat (first | apply Kd.R_alloc | apply Kd.R_drewN | apply Kd.R_drew)); exact HO279.out⟩, ⟨by repeat (first | (with_reducible first | exact HB.out | apply below_alloc | apply pw_below_drewN | apply below_drew1) | exact HB.out)⟩⟩
          · replace c16 := Bool.eq_false_iff.mpr c16
            subst c16
            have H1 : (screelaw7_LogBack.j0 k l0 a1 l2 t273 t274 true) = some r := by rw [if_neg (show ¬ (false = true) by decide)] at H; exact H
            clear H
            have H := H1
            clear H1
            have H' := Aside0.mk H
            clear H
            obtain ⟨Ao21, co21, eo21⟩ := Kd.S_slice HO284.out
            subst eo21
            go_wp2_with (first | ((with_reducible refine gate_callee (f := 16) rfl ?_); refine goesL_ (some 42) rfl rfl Tryd.func16 (by kernel_rfl) rfl #[.slice Ao21 t280.length co21, .slice A0 l0.length c0] rfl (by (try simp only [List.map_toArray, List.map_cons, List.map_nil]); first | done | rfl | (simp only [List.length_drop, List.length_take]; rfl)) ?_; (with_reducible refine (screelaw7_sameRecords.calls k _ _ t280 _ _ l0 false _ ?side1 ?side2 ?side3 ?side4 A15.out).mono ?_); (case side1 => repeat (first | exact (Kd.S_reads' HO284.out).2.2 | (with_reducible refine Kd.C_alloc ?_ _) | (with_reducible refine Kd.C_drewN ?_ _) | (with_reducible refine Kd.C_drew ?_))); (case side2 => exact (Kd.S_reads' HO284.out).2.1); (case side3 => repeat (first | exact (Kd.C_below HR0.out HB.out) | (with_reducible refine Kd.C_alloc ?_ _) | (with_reducible refine Kd.C_drewN ?_ _) | (with_reducible refine Kd.C_drew ?_))); (case side4 => exact HC0.out); rintro e w' ⟨rfl, ⟨nd, rfl⟩⟩; refine ⟨_, rfl, ?_⟩))
            go_meet
            case rel => exact ⟨_, (true), (by first | rfl | (simp; done) | (simp [*]; done)), H', ⟨by first | omega | exact Nat.le_refl _⟩, ⟨by (with_reducible repeat (first | apply Kd.R_alloc | apply Kd.R_drewN | apply Kd.R_drew)); exact HO277.out⟩, ⟨by (with_reducible repeat (first | apply Kd.R_alloc | apply Kd.R_drewN | apply Kd.R_drew)); exact HO279.out⟩, ⟨by repeat (first | (with_reducible first | exact HB.out | apply below_alloc | apply pw_below_drewN | apply below_drew1) | exact HB.out)⟩⟩
        case rest =>
          clear HC10
          try clear c1
          try clear c2
          try clear p2
          try clear c4
          try clear c4b0
          try clear c4b1
          try clear c6
          try clear c8
          try clear c16
          try clear c17
          try clear c17b0
          try clear c17b1
          try clear c20
          try clear c21
          obtain ⟨kq, x54_9, rfl, HA, HJ9, HO_7, HO_8, HB⟩ := hcut
          cases kq with
          | zero => exact absurd HA.out (by simp [screelaw7_LogBack.j0])
          | succ kj9 =>
            have H := HA.out
            clear HA
            simp only [screelaw7_LogBack.j0] at H
            by_cases c22 : x54_9 = true
            · subst c22
              have H1 : (some false) = some r := by rw [if_pos rfl] at H; exact H
              clear H
              have H := H1
              clear H1
              obtain rfl := Option.some.inj H
              go_wp2
              go_ret
              exact ⟨by first | rfl | (simp [errW_none, errW_some] <;> rfl) | (simp [*, errW_none, errW_some] <;> rfl), by repeat (first | (with_reducible first | exact HB.out | apply below_alloc | apply pw_below_drewN | apply below_drew1) | exact HB.out)⟩
            · replace c22 := Bool.eq_false_iff.mpr c22
              subst c22
              have H1 : (if (wrap64 ((t273.length : Int) + 1)) = 0 then (none) else (if (Int.tmod a1 (wrap64 ((t273.length : Int) + 1))) < 0 then (screelaw7_LogBack.j1 kj9 l0 (wrap64 ((wrap64 ((Int.tmod a1 (wrap64 ((t273.length : Int) + 1))) + (t273.length : Int))) + 1)) l2 t273 t274) else (screelaw7_LogBack.j1 kj9 l0 (Int.tmod a1 (wrap64 ((t273.length : Int) + 1))) l2 t273 t274))) = some r := by rw [if_neg (show ¬ (false = true) by decide)] at H; exact H
              clear H
              have H := H1
              clear H1
              by_cases c23 : (wrap64 ((t273.length : Int) + 1)) = 0
              · rw [if_pos c23] at H
                exact absurd H (by simp)
              · rw [if_neg c23] at H
                have c23b0 : ((wrap64 ((t273.length : Int) + 1)) == 0) = false := beq_eq_false_iff_ne.mpr c23
                have c23b1 : ((wrap64 ((t273.length : Int) + 1)) != 0) = true := bne_iff_ne.mpr c23
                have HC24 := Aside0.mk H
                clear H
                go_upto_if 61 with (fail)
                (try (obtain ⟨tb1_, hTB1_⟩ : ∃ tb_ : Bool, (decide ((Int.tmod a1 (wrap64 ((t273.length : Int) + 1))) < 0)) = tb_ := ⟨_, rfl⟩; simp only [hTB1_]; have TB1_ := Aside0.mk hTB1_; clear hTB1_))
                go_cut [1] (fun v1 wc => ∃ (kq : Nat) (x1_23 : Int), v1 = .int .i64 x1_23 ∧ Aside0 (screelaw7_LogBack.j1 kq l0 x1_23 l2 t273 t274 = some r) ∧ Aside0 (kq ≤ kj9) ∧ Aside0 (Kd.R (Kd.int .u8) 5 wc w.heap.size (fun _ => True) (.slice Ao13 t273.length co13) t273) ∧ Aside0 (Kd.R (Kd.int .i64) 3 wc w.heap.size (fun _ => True) v278 t274) ∧ Aside0 (Below w.heap.size w wc))
                case first =>
                  have H := HC24.out
                  clear HC24
                  by_cases c25 : (Int.tmod a1 (wrap64 ((t273.length : Int) + 1))) < 0
                  · rw [if_pos c25] at H
                    have c25b0 : decide ((Int.tmod a1 (wrap64 ((t273.length : Int) + 1))) < 0) = true := decide_eq_true c25
                    (try (obtain rfl := TB1_.out.symm.trans c25b0))
                    clear c25
                    (first | rw [c25b0] | (simp only [i64_w, i32_w]; rw [c25b0]) | skip)
                    have H' := Aside0.mk H
                    clear H
                    go_wp2
                    go_meet
                    case rel => exact ⟨_, (wrap64 ((wrap64 ((Int.tmod a1 (wrap64 ((t273.length : Int) + 1))) + (t273.length : Int))) + 1)), (by first | rfl | (simp; done) | (simp [*]; done)), H', ⟨by have := HJ9.out; first | omega | exact Nat.le_refl _⟩, ⟨by (with_reducible repeat (first | apply Kd.R_alloc | apply Kd.R_drewN | apply Kd.R_drew)); exact HO_7.out⟩, ⟨by (with_reducible repeat (first | apply Kd.R_alloc | apply Kd.R_drewN | apply Kd.R_drew)); exact HO_8.out⟩, ⟨by repeat (first | (with_reducible first | exact HB.out | apply below_alloc | apply pw_below_drewN | apply below_drew1) | exact HB.out)⟩⟩
                  · rw [if_neg c25] at H
                    have c25b0 : decide ((Int.tmod a1 (wrap64 ((t273.length : Int) + 1))) < 0) = false := decide_eq_false c25
                    (try (obtain rfl := TB1_.out.symm.trans c25b0))
                    clear c25
                    (first | rw [c25b0] | (simp only [i64_w, i32_w]; rw [c25b0]) | skip)
                    have H' := Aside0.mk H
                    clear H
                    go_wp2
                    go_meet
                    case rel => exact ⟨_, (Int.tmod a1 (wrap64 ((t273.length : Int) + 1))), (by first | rfl | (simp; done) | (simp [*]; done)), H', ⟨by have := HJ9.out; first | omega | exact Nat.le_refl _⟩, ⟨by (with_reducible repeat (first | apply Kd.R_alloc | apply Kd.R_drewN | apply Kd.R_drew)); exact HO_7.out⟩, ⟨by (with_reducible repeat (first | apply Kd.R_alloc | apply Kd.R_drewN | apply Kd.R_drew)); exact HO_8.out⟩, ⟨by repeat (first | (with_reducible first | exact HB.out | apply below_alloc | apply pw_below_drewN | apply below_drew1) | exact HB.out)⟩⟩
                case rest =>
                  clear HC24
                  try clear c1
                  try clear c2
                  try clear p2
                  try clear c4
                  try clear c4b0
                  try clear c4b1
                  try clear c6
                  try clear p6
                  try clear c8
                  try clear c16
                  try clear c17
                  try clear c17b0
                  try clear c17b1
                  try clear c20
                  try clear c21
                  try clear c22
                  try clear c23
                  try clear c23b0
                  try clear c23b1
                  try clear c25
                  try clear c25b0
                  try clear p2
                  obtain ⟨kq, x1_23, rfl, HA, HJ23, HO_7, HO_8, HB⟩ := hcut
                  cases kq with
                  | zero => exact absurd HA.out (by simp [screelaw7_LogBack.j1])
                  | succ kj23 =>
                    have H := HA.out
                    clear HA
                    simp only [screelaw7_LogBack.j1] at H
                    have HC26 := Aside0.mk H
                    clear H
                    go_upto_block 0 with (fail)
                    go_cut [13, 14] (fun v13 v14 wc => ∃ (kq : Nat) (x13_25 : Int) (x14_25 : Int), v13 = .int .i64 x13_25 ∧ v14 = .int .i64 x14_25 ∧ Aside0 (screelaw7_LogBack.j3 kq l0 x1_23 l2 t273 x13_25 x14_25 = some r) ∧ Aside0 (kq ≤ kj23) ∧ Aside0 (Kd.R (Kd.int .u8) 5 wc w.heap.size (fun _ => True) (.slice Ao13 t273.length co13) t273) ∧ Aside0 (Below w.heap.size w wc))
                    case first =>
                      have H := HC26.out
                      clear HC26
                      have H' := Aside0.mk H
                      clear H
                      go_wp2
                      go_loopg [13, 14] kj23 (fun kq v13 v14 w' => ∃ (x13_3 : Int) (x14_3 : Int), v13 = .int .i64 x13_3 ∧ v14 = .int .i64 x14_3 ∧ Aside0 (screelaw7_LogBack.l0 kq l0 x1_23 l2 t273 t274 x13_3 x14_3 = some r) ∧ Aside0 (kq ≤ kj23) ∧ Aside0 (Kd.R (Kd.int .u8) 5 w' w.heap.size (fun _ => True) (.slice Ao13 t273.length co13) t273) ∧ Aside0 (Kd.R (Kd.int .i64) 3 w' w.heap.size (fun _ => True) v278 t274) ∧ Aside0 (Below w.heap.size w w'))
                      case atStart => exact ⟨(0), (0), (by first | rfl | (simp; done) | (simp [*]; done)), (by first | rfl | (simp; done) | (simp [*]; done)), H', ⟨Nat.le_refl _⟩, ⟨by (with_reducible repeat (first | apply Kd.R_alloc | apply Kd.R_drewN | apply Kd.R_drew)); exact HO_7.out⟩, ⟨by (with_reducible repeat (first | apply Kd.R_alloc | apply Kd.R_drewN | apply Kd.R_drew)); exact HO_8.out⟩, ⟨by repeat (first | (with_reducible first | exact HB.out | apply below_alloc | apply pw_below_drewN | apply below_drew1) | exact HB.out)⟩⟩
                      case round =>
                        clear H'
                        try clear c1
                        try clear c2
                        try clear p2
                        try clear c4
                        try clear c4b0
                        try clear c4b1
                        try clear c6
                        try clear p6
                        try clear c8
                        try clear c16
                        try clear c17
                        try clear c17b0
                        try clear c17b1
                        try clear c20
                        try clear c21
                        try clear c22
                        try clear c23
                        try clear c23b0
                        try clear c23b1
                        try clear c25
                        try clear c25b0
                        try clear p2
                        try clear p6
                        obtain ⟨x13_3, x14_3, rfl, rfl, HA, HK3, HO_7, HO_8, HB⟩ := hrel
                        cases gk with
                        | zero => exact absurd HA.out (by simp [screelaw7_LogBack.l0])
                        | succ k3 =>
                          have H := HA.out
                          clear HA
                          simp only [screelaw7_LogBack.l0] at H
                          by_cases c27 : x13_3 < (t274.length : Int)
                          · rw [if_pos c27] at H
                            have c27b0 : decide (x13_3 < (t274.length : Int)) = true := decide_eq_true c27
                            clear c27
                            (first | rw [c27b0] | (simp only [i64_w, i32_w]; rw [c27b0]) | skip)
                            by_cases c28 : 0 ≤ x13_3
                            · rw [if_pos c28] at H
                              have c28b0 : decide (0 ≤ x13_3) = true := decide_eq_true c28
                              clear c28
                              by_cases c29 : (rd t274 x13_3) ≤ x1_23
                              · rw [if_pos c29] at H
                                have c29b0 : decide ((rd t274 x13_3) ≤ x1_23) = true := decide_eq_true c29
                                clear c29
                                have H' := Aside0.mk H
                                clear H
                                obtain ⟨Ao30, co30, eo30⟩ := Kd.R_slice HO_8.out
                                subst eo30
                                have p287 : 0 ≤ (x13_3 : Int) := of_decide_eq_true (by first | (with_reducible assumption) | assumption)
                                have q287 : x13_3 < (t274.length : Int) := of_decide_eq_true (by first | (with_reducible assumption) | assumption)
                                obtain ⟨ad287, e287, hx287_0⟩ := Kd.at_int (Kd.R_reads' HO_8.out).2.2 x13_3 p287 q287
                                cases e287
                                replace p287 := eq_true p287
                                replace q287 := eq_true q287
                                have p288 : 0 ≤ (x13_3 : Int) := of_decide_eq_true (by first | (with_reducible assumption) | assumption)
                                have q288 : x13_3 < (t274.length : Int) := of_decide_eq_true (by first | (with_reducible assumption) | assumption)
                                obtain ⟨ad288, e288, hx288_0⟩ := Kd.at_int (Kd.R_reads' HO_8.out).2.2 x13_3 p288 q288
                                obtain rfl : ad287 = ad288 := (by injection e288)
                                replace p288 := eq_true p288
                                replace q288 := eq_true q288
                                go_wp2
                                go_roundg k3
                                case measure => have := HJ9.out; have := HJ23.out; have := HK3.out; omega
                                case rel => exact ⟨(wrap64 (x13_3 + 1)), (rd t274 x13_3), (by first | rfl | (simp; done) | (simp [*]; done)), (by first | rfl | (simp; done) | (simp [*]; done)), H', ⟨by have := HJ9.out; have := HJ23.out; have := HK3.out; omega⟩, ⟨by (with_reducible repeat (first | apply Kd.R_alloc | apply Kd.R_drewN | apply Kd.R_drew)); exact HO_7.out⟩, ⟨by (with_reducible repeat (first | apply Kd.R_alloc | apply Kd.R_drewN | apply Kd.R_drew)); exact HO_8.out⟩, ⟨by repeat (first | (with_reducible first | exact HB.out | apply below_alloc | apply pw_below_drewN | apply below_drew1) | exact HB.out)⟩⟩
                              · rw [if_neg c29] at H
                                have c29b0 : decide ((rd t274 x13_3) ≤ x1_23) = false := decide_eq_false c29
                                clear c29
                                have H' := Aside0.mk H
                                clear H
                                obtain ⟨Ao31, co31, eo31⟩ := Kd.R_slice HO_8.out
                                subst eo31
                                have p287 : 0 ≤ (x13_3 : Int) := of_decide_eq_true (by first | (with_reducible assumption) | assumption)
                                have q287 : x13_3 < (t274.length : Int) := of_decide_eq_true (by first | (with_reducible assumption) | assumption)
                                obtain ⟨ad287, e287, hx287_0⟩ := Kd.at_int (Kd.R_reads' HO_8.out).2.2 x13_3 p287 q287
                                cases e287
                                replace p287 := eq_true p287
                                replace q287 := eq_true q287
                                go_wp2
                                go_meet
                                case rel => exact ⟨_, (x13_3), (x14_3), (by first | rfl | (simp; done) | (simp [*]; done)), (by first | rfl | (simp; done) | (simp [*]; done)), H', ⟨by have := HJ9.out; have := HJ23.out; have := HK3.out; first | omega | exact Nat.le_refl _⟩, ⟨by (with_reducible repeat (first | apply Kd.R_alloc | apply Kd.R_drewN | apply Kd.R_drew)); exact HO_7.out⟩, ⟨by repeat (first | (with_reducible first | exact HB.out | apply below_alloc | apply pw_below_drewN | apply below_drew1) | exact HB.out)⟩⟩
                            · rw [if_neg c28] at H
                              exact absurd H (by simp)
                          · rw [if_neg c27] at H
                            have c27b0 : decide (x13_3 < (t274.length : Int)) = false := decide_eq_false c27
                            clear c27
                            (first | rw [c27b0] | (simp only [i64_w, i32_w]; rw [c27b0]) | skip)
                            have H' := Aside0.mk H
                            clear H
                            obtain ⟨Ao32, co32, eo32⟩ := Kd.R_slice HO_8.out
                            subst eo32
                            go_wp2
                            go_meet
                            case rel => exact ⟨_, (x13_3), (x14_3), (by first | rfl | (simp; done) | (simp [*]; done)), (by first | rfl | (simp; done) | (simp [*]; done)), H', ⟨by have := HJ9.out; have := HJ23.out; have := HK3.out; first | omega | exact Nat.le_refl _⟩, ⟨by (with_reducible repeat (first | apply Kd.R_alloc | apply Kd.R_drewN | apply Kd.R_drew)); exact HO_7.out⟩, ⟨by repeat (first | (with_reducible first | exact HB.out | apply below_alloc | apply pw_below_drewN | apply below_drew1) | exact HB.out)⟩⟩
                    case rest =>
                      clear HC26
                      try clear c1
                      try clear c2
                      try clear p2
                      try clear q2
                      try clear hx2
                      try clear c4
                      try clear c4b0
                      try clear c4b1
                      try clear c6
                      try clear p6
                      try clear c8
                      try clear c16
                      try clear c17
                      try clear c17b0
                      try clear c17b1
                      try clear c20
                      try clear c21
                      try clear c22
                      try clear c23
                      try clear c23b0
                      try clear c23b1
                      try clear c25
                      try clear c25b0
                      try clear c27
                      try clear c27b0
                      try clear c28
                      try clear c28b0
                      try clear p28
                      try clear q28
                      try clear hx28
                      try clear c29
                      try clear c29b0
                      try clear hx287_0
                      try clear hx288_0
                      try clear p2
                      try clear p287
                      try clear p288
                      try clear p6
                      try clear q287
                      try clear q288
                      obtain ⟨kq, x13_25, x14_25, rfl, rfl, HA, HJ25, HO_7, HB⟩ := hcut
                      cases kq with
                      | zero => exact absurd HA.out (by simp [screelaw7_LogBack.j3])
                      | succ kj25 =>
                        have H := HA.out
                        clear HA
                        simp only [screelaw7_LogBack.j3] at H
                        by_cases c33 : 0 ≤ x1_23
                        · rw [if_pos c33] at H
                          have c33b0 := eq_true c33
                          have c33b1 : decide (0 ≤ x1_23) = true := decide_eq_true c33
                          clear c33
                          by_cases c34 : x1_23 ≤ (t273.length : Int)
                          · rw [if_pos c34] at H
                            have c34b0 := eq_true c34
                            have c34b1 : decide (x1_23 ≤ (t273.length : Int)) = true := decide_eq_true c34
                            clear c34
                            obtain ⟨y289, hy289⟩ : ∃ y_ : List Int, y_ = (t273.take (x1_23 : Int).toNat) := ⟨_, rfl⟩
                            replace H : ((log_Read.f y289).bind fun bt293 => (if 0 ≤ x13_25 then (if x13_25 ≤ (l0.length : Int) then ((screelaw7_sameRecords.f kj25 bt293.1 (l0.take (x13_25 : Int).toNat)).bind fun t302 => (if t302 = true then (if bt293.2.1 = x14_25 then ((screelaw7_num.f bt293.2.2).bind fun t303 => (if ((t303 == 0) != (bt293.2.1 == x1_23)) = true then (screelaw7_LogBack.j4 kj25 l0 l2 t273 true) else ((screelaw7_num.f bt293.2.2).bind fun t304 => (if t304 = 0 then (screelaw7_LogBack.j4 kj25 l0 l2 t273 false) else ((screelaw7_num.f bt293.2.2).bind fun t305 => (screelaw7_LogBack.j4 kj25 l0 l2 t273 (t305 != 70))))))) else (screelaw7_LogBack.j4 kj25 l0 l2 t273 true)) else (screelaw7_LogBack.j4 kj25 l0 l2 t273 true))) else (none)) else (none))) = some r := by first | (rw [hy289]; with_reducible exact H) | (have H2_ := (Option.bind_some _ _).symm.trans H; rw [hy289]; with_reducible exact H2_) | (have H2_ := (Option.bind_some _ _).symm.trans H; with_reducible exact H2_) | with_reducible exact H | (rw [hy289]; exact H) | exact H
                            have Ny289 := Aside0.mk hy289
                            clear hy289
                            replace H := Option.bind_eq_some_iff.mp H
                            obtain ⟨⟨t293, t294, t295⟩, A350, H⟩ := H
                            replace H : (if 0 ≤ x13_25 then (if x13_25 ≤ (l0.length : Int) then ((screelaw7_sameRecords.f kj25 t293 (l0.take (x13_25 : Int).toNat)).bind fun t302 => (if t302 = true then (if t294 = x14_25 then ((screelaw7_num.f t295).bind fun t303 => (if ((t303 == 0) != (t294 == x1_23)) = true then (screelaw7_LogBack.j4 kj25 l0 l2 t273 true) else ((screelaw7_num.f t295).bind fun t304 => (if t304 = 0 then (screelaw7_LogBack.j4 kj25 l0 l2 t273 false) else ((screelaw7_num.f t295).bind fun t305 => (screelaw7_LogBack.j4 kj25 l0 l2 t273 (t305 != 70))))))) else (screelaw7_LogBack.j4 kj25 l0 l2 t273 true)) else (screelaw7_LogBack.j4 kj25 l0 l2 t273 true))) else (none)) else (none)) = some r := H
                            have A35 := Aside0.mk A350
                            clear A350
                            have HC36 := Aside0.mk H
                            clear H
                            have q37 : (x1_23 : Int) ≤ ((t273.length : Int) : Int) := of_decide_eq_true (by first | (with_reducible assumption) | assumption)
                            obtain ⟨i037, hi037, _, hsz37, _⟩ := info_parts info5
                            have hroom37 : t273.length ≤ co13 := (Kd.R_reads' HO_7.out).2.1
                            have hC37 : Kd.C (Kd.int .u8) _ Ao13 t273.length t273 := (Kd.R_reads' HO_7.out).2.2
                            have hcut37 := cut_to (P := Tryd.prog) 22 5 .i64 Tryd.underlying22 hi037 Ao13 t273.length co13 x1_23 (of_decide_eq_true (by first | (with_reducible assumption) | assumption)) q37 hroom37
                            have hr37 := Kd.C_take (m := (x1_23 : Int).toNat) hC37 (by omega)
                            have hy37 : y289.length = (x1_23 : Int).toNat := (by rw [Ny289.out, List.length_take]; omega)
                            rw [← Ny289.out] at hr37
                            rw [← hy37] at hcut37
                            have HR292 := Aside0.mk hr37
                            have HC292 := Aside0.mk (show y289.length ≤ co13 from by omega)
                            clear hr37 hC37 hroom37 hi037 hsz37
                            have KY37 := Aside0.mk hy37
                            clear hy37
                            have KL37 := Aside0.mk (show (x1_23 : Int).toNat ≤ t273.length from by omega)
                            replace q37 := eq_true q37
                            go_upto_region 19 with (first | ((with_reducible refine gate_callee (f := 17) rfl ?_); refine goesL_ (some 89) rfl rfl Tryd.func17 (by kernel_rfl) rfl #[.slice Ao13 y289.length co13] rfl (by (try simp only [List.map_toArray, List.map_cons, List.map_nil]); first | done | rfl | (simp only [List.length_drop, List.length_take]; rfl)) ?_; (with_reducible refine (log_Read.calls _ _ y289 t293 t294 t295 _ ?side1 ?side2 A35.out ?side3).mono ?_); (case side1 => repeat (first | exact (by repeat (first | (with_reducible exact HR292.out) | (with_reducible refine Kd.C_alloc ?_ _) | (with_reducible refine Kd.C_drewN ?_ _) | (with_reducible refine Kd.C_drew ?_) | exact HR292.out)) | (with_reducible refine Kd.C_alloc ?_ _) | (with_reducible refine Kd.C_drewN ?_ _) | (with_reducible refine Kd.C_drew ?_))); (case side2 => exact HC292.out); (case side3 => first | (with_reducible exact HT_.out) | exact GT.below HT_.out (by repeat (first | (with_reducible first | exact HB.out | apply below_alloc | apply pw_below_drewN | apply below_drew1) | exact HB.out))); rintro e w38 ⟨v296, rfl, ho0, hb⟩; refine ⟨_, rfl, ?_⟩; have n0_ := Aside0.mk (Kd.R_below (by (with_reducible repeat (first | apply Kd.R_alloc | apply Kd.R_drewN | apply Kd.R_drew)); exact HO_7.out) hb); have n1_ := Aside0.mk (Kd.S_lower (Kd.S_new' ho0 (Kd.R_lt (by (with_reducible repeat (first | apply Kd.R_alloc | apply Kd.R_drewN | apply Kd.R_drew)); exact HO_7.out))) (below_size (by repeat (first | (with_reducible first | exact HB.out | apply below_alloc | apply pw_below_drewN | apply below_drew1) | exact HB.out)))); have n2_ := Aside0.mk (Kd.C_below (by repeat (first | (with_reducible exact HR292.out) | (with_reducible refine Kd.C_alloc ?_ _) | (with_reducible refine Kd.C_drewN ?_ _) | (with_reducible refine Kd.C_drew ?_) | exact HR292.out)) hb); have n3_ := Aside0.mk (below_step (by repeat (first | (with_reducible first | exact HB.out | apply below_alloc | apply pw_below_drewN | apply below_drew1) | exact HB.out)) hb); clear HO_7; clear HR292; clear HB; have HO_7 := n0_; have HO297 := n1_; have HR292 := n2_; have HB := n3_; clear n0_ n1_ n2_ n3_; (try clear hb); (try clear hb2); (try clear hk); (try clear hi); (try clear ho0)))
                            (try simp only [Act.put, List.setIfInBounds_toArray, List.set_cons_zero, List.set_cons_succ])
                            go_cut [122] (fun v122 wc => ∃ (kq : Nat) (x122_35 : Bool), v122 = .bool x122_35 ∧ Aside0 (screelaw7_LogBack.j4 kq l0 l2 t273 x122_35 = some r) ∧ Aside0 (kq ≤ kj25) ∧ Aside0 (Kd.R (Kd.int .u8) 5 wc w.heap.size (fun _ => True) (.slice Ao13 t273.length co13) t273) ∧ Aside0 (Kd.C (Kd.int .u8) wc Ao13 y289.length y289) ∧ Aside0 (Below w.heap.size w wc))
                            case first =>
                              have H := HC36.out
                              clear HC36
                              by_cases c39 : 0 ≤ x13_25
                              · rw [if_pos c39] at H
                                have c39b0 := eq_true c39
                                have c39b1 : decide (0 ≤ x13_25) = true := decide_eq_true c39
                                clear c39
                                by_cases c40 : x13_25 ≤ (l0.length : Int)
                                · rw [if_pos c40] at H
                                  have c40b0 := eq_true c40
                                  have c40b1 : decide (x13_25 ≤ (l0.length : Int)) = true := decide_eq_true c40
                                  clear c40
                                  obtain ⟨y298, hy298⟩ : ∃ y_ : List (List Int), y_ = (l0.take (x13_25 : Int).toNat) := ⟨_, rfl⟩
                                  replace H : ((screelaw7_sameRecords.f kj25 t293 y298).bind fun t302 => (if t302 = true then (if t294 = x14_25 then ((screelaw7_num.f t295).bind fun t303 => (if ((t303 == 0) != (t294 == x1_23)) = true then (screelaw7_LogBack.j4 kj25 l0 l2 t273 true) else ((screelaw7_num.f t295).bind fun t304 => (if t304 = 0 then (screelaw7_LogBack.j4 kj25 l0 l2 t273 false) else ((screelaw7_num.f t295).bind fun t305 => (screelaw7_LogBack.j4 kj25 l0 l2 t273 (t305 != 70))))))) else (screelaw7_LogBack.j4 kj25 l0 l2 t273 true)) else (screelaw7_LogBack.j4 kj25 l0 l2 t273 true))) = some r := by first | (rw [hy298]; with_reducible exact H) | (have H2_ := (Option.bind_some _ _).symm.trans H; rw [hy298]; with_reducible exact H2_) | (have H2_ := (Option.bind_some _ _).symm.trans H; with_reducible exact H2_) | with_reducible exact H | (rw [hy298]; exact H) | exact H
                                  have Ny298 := Aside0.mk hy298
                                  clear hy298
                                  replace H := Option.bind_eq_some_iff.mp H
                                  obtain ⟨t302, A410, H⟩ := H
                                  replace H : (if t302 = true then (if t294 = x14_25 then ((screelaw7_num.f t295).bind fun t303 => (if ((t303 == 0) != (t294 == x1_23)) = true then (screelaw7_LogBack.j4 kj25 l0 l2 t273 true) else ((screelaw7_num.f t295).bind fun t304 => (if t304 = 0 then (screelaw7_LogBack.j4 kj25 l0 l2 t273 false) else ((screelaw7_num.f t295).bind fun t305 => (screelaw7_LogBack.j4 kj25 l0 l2 t273 (t305 != 70))))))) else (screelaw7_LogBack.j4 kj25 l0 l2 t273 true)) else (screelaw7_LogBack.j4 kj25 l0 l2 t273 true)) = some r := H
                                  have A41 := Aside0.mk A410
                                  clear A410
                                  by_cases c42 : t302 = true
                                  · subst c42
                                    have H1 : (if t294 = x14_25 then ((screelaw7_num.f t295).bind fun t303 => (if ((t303 == 0) != (t294 == x1_23)) = true then (screelaw7_LogBack.j4 kj25 l0 l2 t273 true) else ((screelaw7_num.f t295).bind fun t304 => (if t304 = 0 then (screelaw7_LogBack.j4 kj25 l0 l2 t273 false) else ((screelaw7_num.f t295).bind fun t305 => (screelaw7_LogBack.j4 kj25 l0 l2 t273 (t305 != 70))))))) else (screelaw7_LogBack.j4 kj25 l0 l2 t273 true)) = some r := by rw [if_pos rfl] at H; exact H
                                    clear H
                                    have H := H1
                                    clear H1
                                    by_cases c43 : t294 = x14_25
                                    · rw [if_pos c43] at H
                                      have c43b0 : (t294 == x14_25) = true := beq_iff_eq.mpr c43
                                      have c43b1 : (t294 != x14_25) = false := bne_eq_false_iff_eq.mpr c43
                                      clear c43
                                      (first | rw [c43b0] | (simp only [i64_w, i32_w]; rw [c43b0]) | skip)
                                      replace H := Option.bind_eq_some_iff.mp H
                                      obtain ⟨t303, A440, H⟩ := H
                                      replace H : (if ((t303 == 0) != (t294 == x1_23)) = true then (screelaw7_LogBack.j4 kj25 l0 l2 t273 true) else ((screelaw7_num.f t295).bind fun t304 => (if t304 = 0 then (screelaw7_LogBack.j4 kj25 l0 l2 t273 false) else ((screelaw7_num.f t295).bind fun t305 => (screelaw7_LogBack.j4 kj25 l0 l2 t273 (t305 != 70)))))) = some r := H
                                      have A44 := Aside0.mk A440
                                      clear A440
                                      by_cases c45 : ((t303 == 0) != (t294 == x1_23)) = true
                                      · rw [if_pos c45] at H
                                        have c45b0 : ((t303 == 0) != (t294 == x1_23)) = true := c45
                                        (try (have c45b1 : decide ((t303 == 0) = (t294 == x1_23)) = false := by simpa using c45))
                                        (try (have c45b2 : ((t303 == 0) == (t294 == x1_23)) = false := by simpa using c45))
                                        (try (have c45b3 : ¬ ((t303 == 0) = (t294 == x1_23)) := by simpa using c45))
                                        clear c45
                                        have H' := Aside0.mk H
                                        clear H
                                        have q46 : (x13_25 : Int) ≤ ((l0.length : Int) : Int) := of_decide_eq_true (by first | (with_reducible assumption) | assumption)
                                        obtain ⟨i046, hi046, _, hsz46, _⟩ := info_parts info22
                                        have hroom46 : l0.length ≤ c0 := HC0.out
                                        have hC46 : Kd.C (Kd.slice 5 (Kd.int .u8)) _ A0 l0.length l0 := HR0.out
                                        have hcut46 := cut_to (P := Tryd.prog) 24 22 .i64 Tryd.underlying24 hi046 A0 l0.length c0 x13_25 (of_decide_eq_true (by first | (with_reducible assumption) | assumption)) q46 hroom46
                                        have hr46 := Kd.C_take (m := (x13_25 : Int).toNat) hC46 (by omega)
                                        have hy46 : y298.length = (x13_25 : Int).toNat := (by rw [Ny298.out, List.length_take]; omega)
                                        rw [← Ny298.out] at hr46
                                        rw [← hy46] at hcut46
                                        have HR301 := Aside0.mk hr46
                                        have HC301 := Aside0.mk (show y298.length ≤ c0 from by omega)
                                        clear hr46 hC46 hroom46 hi046 hsz46
                                        have KY46 := Aside0.mk hy46
                                        clear hy46
                                        replace q46 := eq_true q46
                                        obtain ⟨Ao47, co47, eo47⟩ := Kd.S_slice HO297.out
                                        subst eo47
                                        go_wp2_with (first | ((with_reducible refine gate_callee (f := 16) rfl ?_); refine goesL_ (some 97) rfl rfl Tryd.func16 (by kernel_rfl) rfl #[.slice Ao47 t293.length co47, .slice A0 y298.length c0] rfl (by (try simp only [List.map_toArray, List.map_cons, List.map_nil]); first | done | rfl | (simp only [List.length_drop, List.length_take]; rfl)) ?_; (with_reducible refine (screelaw7_sameRecords.calls kj25 _ _ t293 _ _ y298 true _ ?side1 ?side2 ?side3 ?side4 A41.out).mono ?_); (case side1 => repeat (first | exact (Kd.S_reads' HO297.out).2.2 | (with_reducible refine Kd.C_alloc ?_ _) | (with_reducible refine Kd.C_drewN ?_ _) | (with_reducible refine Kd.C_drew ?_))); (case side2 => exact (Kd.S_reads' HO297.out).2.1); (case side3 => repeat (first | exact (Kd.C_below HR301.out HB.out) | (with_reducible refine Kd.C_alloc ?_ _) | (with_reducible refine Kd.C_drewN ?_ _) | (with_reducible refine Kd.C_drew ?_))); (case side4 => exact HC301.out); rintro e w' ⟨rfl, ⟨nd, rfl⟩⟩; refine ⟨_, rfl, ?_⟩) | (go_at_call 18; (with_reducible refine (screelaw7_num.calls t295 t303 _ A44.out).mono ?_); rintro e w' ⟨rfl, ⟨nd, rfl⟩⟩))
                                        go_meet
                                        case rel => exact ⟨_, (true), (by first | rfl | (simp; done) | (simp [*]; done)), H', ⟨by have := HJ9.out; have := HJ23.out; have := HJ25.out; first | omega | exact Nat.le_refl _⟩, ⟨by (with_reducible repeat (first | apply Kd.R_alloc | apply Kd.R_drewN | apply Kd.R_drew)); exact HO_7.out⟩, ⟨by repeat (first | (with_reducible exact HR292.out) | (with_reducible refine Kd.C_alloc ?_ _) | (with_reducible refine Kd.C_drewN ?_ _) | (with_reducible refine Kd.C_drew ?_) | exact HR292.out)⟩, ⟨by repeat (first | (with_reducible first | exact HB.out | apply below_alloc | apply pw_below_drewN | apply below_drew1) | exact HB.out)⟩⟩
                                      · rw [if_neg c45] at H
                                        have c45b0 : ((t303 == 0) != (t294 == x1_23)) = false := by simpa using c45
                                        (try (have c45b1 : decide ((t303 == 0) = (t294 == x1_23)) = true := by simpa using c45))
                                        (try (have c45b2 : ((t303 == 0) == (t294 == x1_23)) = true := by simpa using c45))
                                        clear c45
                                        replace H := Option.bind_eq_some_iff.mp H
                                        obtain ⟨t304, A480, H⟩ := H
                                        replace H : (if t304 = 0 then (screelaw7_LogBack.j4 kj25 l0 l2 t273 false) else ((screelaw7_num.f t295).bind fun t305 => (screelaw7_LogBack.j4 kj25 l0 l2 t273 (t305 != 70)))) = some r := H
                                        have A48 := Aside0.mk A480
                                        clear A480
                                        by_cases c49 : t304 = 0
                                        · rw [if_pos c49] at H
                                          have c49b0 : (t304 == 0) = true := beq_iff_eq.mpr c49
                                          have c49b1 : (t304 != 0) = false := bne_eq_false_iff_eq.mpr c49
                                          have e303 : t303 = t304 := by have h_ := A44.out.symm.trans A48.out; injection h_
                                          have z1 : (t303 == 0) = true := by rw [e303]; exact c49b0
                                          have z2 : (t294 == x1_23) = true := by have h_ := c45b0; rw [z1] at h_; simpa using h_
                                          have z3 : (t303 = 0) = True := eq_true (by rw [e303]; exact beq_iff_eq.mp c49b0)
                                          have z4 : (t294 = x1_23) = True := eq_true (beq_iff_eq.mp z2)
                                          clear e303 c45b0; (try clear c45b1); (try clear c45b2); (try clear c45b3)
                                          clear c49
                                          have H' := Aside0.mk H
                                          clear H
                                          have q50 : (x13_25 : Int) ≤ ((l0.length : Int) : Int) := of_decide_eq_true (by first | (with_reducible assumption) | assumption)
                                          obtain ⟨i050, hi050, _, hsz50, _⟩ := info_parts info22
                                          have hroom50 : l0.length ≤ c0 := HC0.out
                                          have hC50 : Kd.C (Kd.slice 5 (Kd.int .u8)) _ A0 l0.length l0 := HR0.out
                                          have hcut50 := cut_to (P := Tryd.prog) 24 22 .i64 Tryd.underlying24 hi050 A0 l0.length c0 x13_25 (of_decide_eq_true (by first | (with_reducible assumption) | assumption)) q50 hroom50
                                          have hr50 := Kd.C_take (m := (x13_25 : Int).toNat) hC50 (by omega)
                                          have hy50 : y298.length = (x13_25 : Int).toNat := (by rw [Ny298.out, List.length_take]; omega)
                                          rw [← Ny298.out] at hr50
                                          rw [← hy50] at hcut50
                                          have HR301 := Aside0.mk hr50
                                          have HC301 := Aside0.mk (show y298.length ≤ c0 from by omega)
                                          clear hr50 hC50 hroom50 hi050 hsz50
                                          have KY50 := Aside0.mk hy50
                                          clear hy50
                                          replace q50 := eq_true q50
                                          obtain ⟨Ao51, co51, eo51⟩ := Kd.S_slice HO297.out
                                          subst eo51
                                          go_wp2_with (first | ((with_reducible refine gate_callee (f := 16) rfl ?_); refine goesL_ (some 97) rfl rfl Tryd.func16 (by kernel_rfl) rfl #[.slice Ao51 t293.length co51, .slice A0 y298.length c0] rfl (by (try simp only [List.map_toArray, List.map_cons, List.map_nil]); first | done | rfl | (simp only [List.length_drop, List.length_take]; rfl)) ?_; (with_reducible refine (screelaw7_sameRecords.calls kj25 _ _ t293 _ _ y298 true _ ?side1 ?side2 ?side3 ?side4 A41.out).mono ?_); (case side1 => repeat (first | exact (Kd.S_reads' HO297.out).2.2 | (with_reducible refine Kd.C_alloc ?_ _) | (with_reducible refine Kd.C_drewN ?_ _) | (with_reducible refine Kd.C_drew ?_))); (case side2 => exact (Kd.S_reads' HO297.out).2.1); (case side3 => repeat (first | exact (Kd.C_below HR301.out HB.out) | (with_reducible refine Kd.C_alloc ?_ _) | (with_reducible refine Kd.C_drewN ?_ _) | (with_reducible refine Kd.C_drew ?_))); (case side4 => exact HC301.out); rintro e w' ⟨rfl, ⟨nd, rfl⟩⟩; refine ⟨_, rfl, ?_⟩) | (go_at_call 18; (with_reducible refine (screelaw7_num.calls t295 t303 _ A44.out).mono ?_); rintro e w' ⟨rfl, ⟨nd, rfl⟩⟩) | (go_at_call 18; (with_reducible refine (screelaw7_num.calls t295 t304 _ A48.out).mono ?_); rintro e w' ⟨rfl, ⟨nd, rfl⟩⟩))
                                          go_meet
                                          case rel => exact ⟨_, (false), (by first | rfl | (simp; done) | (simp [*]; done)), H', ⟨by have := HJ9.out; have := HJ23.out; have := HJ25.out; first | omega | exact Nat.le_refl _⟩, ⟨by (with_reducible repeat (first | apply Kd.R_alloc | apply Kd.R_drewN | apply Kd.R_drew)); exact HO_7.out⟩, ⟨by repeat (first | (with_reducible exact HR292.out) | (with_reducible refine Kd.C_alloc ?_ _) | (with_reducible refine Kd.C_drewN ?_ _) | (with_reducible refine Kd.C_drew ?_) | exact HR292.out)⟩, ⟨by repeat (first | (with_reducible first | exact HB.out | apply below_alloc | apply pw_below_drewN | apply below_drew1) | exact HB.out)⟩⟩
                                        · rw [if_neg c49] at H
                                          have c49b0 : (t304 == 0) = false := beq_eq_false_iff_ne.mpr c49
                                          have c49b1 : (t304 != 0) = true := bne_iff_ne.mpr c49
                                          have e303 : t303 = t304 := by have h_ := A44.out.symm.trans A48.out; injection h_
                                          have z1 : (t303 == 0) = false := by rw [e303]; exact c49b0
                                          have z2 : (t294 == x1_23) = false := by have h_ := c45b0; rw [z1] at h_; simpa using h_
                                          have z3 : (t303 = 0) = False := eq_false (by rw [e303]; exact beq_eq_false_iff_ne.mp c49b0)
                                          have z4 : (t294 = x1_23) = False := eq_false (beq_eq_false_iff_ne.mp z2)
                                          clear e303 c45b0; (try clear c45b1); (try clear c45b2); (try clear c45b3)
                                          replace H := Option.bind_eq_some_iff.mp H
                                          obtain ⟨t305, A520, H⟩ := H
                                          replace H : (screelaw7_LogBack.j4 kj25 l0 l2 t273 (t305 != 70)) = some r := H
                                          have A52 := Aside0.mk A520
                                          clear A520
                                          have H' := Aside0.mk H
                                          clear H
                                          have q53 : (x13_25 : Int) ≤ ((l0.length : Int) : Int) := of_decide_eq_true (by first | (with_reducible assumption) | assumption)
                                          obtain ⟨i053, hi053, _, hsz53, _⟩ := info_parts info22
                                          have hroom53 : l0.length ≤ c0 := HC0.out
                                          have hC53 : Kd.C (Kd.slice 5 (Kd.int .u8)) _ A0 l0.length l0 := HR0.out
                                          have hcut53 := cut_to (P := Tryd.prog) 24 22 .i64 Tryd.underlying24 hi053 A0 l0.length c0 x13_25 (of_decide_eq_true (by first | (with_reducible assumption) | assumption)) q53 hroom53
                                          have hr53 := Kd.C_take (m := (x13_25 : Int).toNat) hC53 (by omega)
                                          have hy53 : y298.length = (x13_25 : Int).toNat := (by rw [Ny298.out, List.length_take]; omega)
                                          rw [← Ny298.out] at hr53
                                          rw [← hy53] at hcut53
                                          have HR301 := Aside0.mk hr53
                                          have HC301 := Aside0.mk (show y298.length ≤ c0 from by omega)
                                          clear hr53 hC53 hroom53 hi053 hsz53
                                          have KY53 := Aside0.mk hy53
                                          clear hy53
                                          replace q53 := eq_true q53
                                          obtain ⟨Ao54, co54, eo54⟩ := Kd.S_slice HO297.out
                                          subst eo54
                                          go_wp2_with (first | ((with_reducible refine gate_callee (f := 16) rfl ?_); refine goesL_ (some 97) rfl rfl Tryd.func16 (by kernel_rfl) rfl #[.slice Ao54 t293.length co54, .slice A0 y298.length c0] rfl (by (try simp only [List.map_toArray, List.map_cons, List.map_nil]); first | done | rfl | (simp only [List.length_drop, List.length_take]; rfl)) ?_; (with_reducible refine (screelaw7_sameRecords.calls kj25 _ _ t293 _ _ y298 true _ ?side1 ?side2 ?side3 ?side4 A41.out).mono ?_); (case side1 => repeat (first | exact (Kd.S_reads' HO297.out).2.2 | (with_reducible refine Kd.C_alloc ?_ _) | (with_reducible refine Kd.C_drewN ?_ _) | (with_reducible refine Kd.C_drew ?_))); (case side2 => exact (Kd.S_reads' HO297.out).2.1); (case side3 => repeat (first | exact (Kd.C_below HR301.out HB.out) | (with_reducible refine Kd.C_alloc ?_ _) | (with_reducible refine Kd.C_drewN ?_ _) | (with_reducible refine Kd.C_drew ?_))); (case side4 => exact HC301.out); rintro e w' ⟨rfl, ⟨nd, rfl⟩⟩; refine ⟨_, rfl, ?_⟩) | (go_at_call 18; (with_reducible refine (screelaw7_num.calls t295 t303 _ A44.out).mono ?_); rintro e w' ⟨rfl, ⟨nd, rfl⟩⟩) | (go_at_call 18; (with_reducible refine (screelaw7_num.calls t295 t304 _ A48.out).mono ?_); rintro e w' ⟨rfl, ⟨nd, rfl⟩⟩) | (go_at_call 18; (with_reducible refine (screelaw7_num.calls t295 t305 _ A52.out).mono ?_); rintro e w' ⟨rfl, ⟨nd, rfl⟩⟩))
                                          go_meet
                                          case rel => exact ⟨_, ((t305 != 70)), (by first | rfl | (have h_ := A44.out.symm.trans A52.out; injection h_ with h_; subst h_; (have z7 : (t303 != 0) = true := by rw [bne, z1]; rfl); rw [z7, Bool.true_and]) | (simp; done)), H', ⟨by have := HJ9.out; have := HJ23.out; have := HJ25.out; first | omega | exact Nat.le_refl _⟩, ⟨by (with_reducible repeat (first | apply Kd.R_alloc | apply Kd.R_drewN | apply Kd.R_drew)); exact HO_7.out⟩, ⟨by repeat (first | (with_reducible exact HR292.out) | (with_reducible refine Kd.C_alloc ?_ _) | (with_reducible refine Kd.C_drewN ?_ _) | (with_reducible refine Kd.C_drew ?_) | exact HR292.out)⟩, ⟨by repeat (first | (with_reducible first | exact HB.out | apply below_alloc | apply pw_below_drewN | apply below_drew1) | exact HB.out)⟩⟩
                                    · rw [if_neg c43] at H
                                      have c43b0 : (t294 == x14_25) = false := beq_eq_false_iff_ne.mpr c43
                                      have c43b1 : (t294 != x14_25) = true := bne_iff_ne.mpr c43
                                      (first | rw [c43b0] | (simp only [i64_w, i32_w]; rw [c43b0]) | skip)
                                      have H' := Aside0.mk H
                                      clear H
                                      have q55 : (x13_25 : Int) ≤ ((l0.length : Int) : Int) := of_decide_eq_true (by first | (with_reducible assumption) | assumption)
                                      obtain ⟨i055, hi055, _, hsz55, _⟩ := info_parts info22
                                      have hroom55 : l0.length ≤ c0 := HC0.out
                                      have hC55 : Kd.C (Kd.slice 5 (Kd.int .u8)) _ A0 l0.length l0 := HR0.out
                                      have hcut55 := cut_to (P := Tryd.prog) 24 22 .i64 Tryd.underlying24 hi055 A0 l0.length c0 x13_25 (of_decide_eq_true (by first | (with_reducible assumption) | assumption)) q55 hroom55
                                      have hr55 := Kd.C_take (m := (x13_25 : Int).toNat) hC55 (by omega)
                                      have hy55 : y298.length = (x13_25 : Int).toNat := (by rw [Ny298.out, List.length_take]; omega)
                                      rw [← Ny298.out] at hr55
                                      rw [← hy55] at hcut55
                                      have HR301 := Aside0.mk hr55
                                      have HC301 := Aside0.mk (show y298.length ≤ c0 from by omega)
                                      clear hr55 hC55 hroom55 hi055 hsz55
                                      have KY55 := Aside0.mk hy55
                                      clear hy55
                                      replace q55 := eq_true q55
                                      obtain ⟨Ao56, co56, eo56⟩ := Kd.S_slice HO297.out
                                      subst eo56
                                      go_wp2_with (first | ((with_reducible refine gate_callee (f := 16) rfl ?_); refine goesL_ (some 97) rfl rfl Tryd.func16 (by kernel_rfl) rfl #[.slice Ao56 t293.length co56, .slice A0 y298.length c0] rfl (by (try simp only [List.map_toArray, List.map_cons, List.map_nil]); first | done | rfl | (simp only [List.length_drop, List.length_take]; rfl)) ?_; (with_reducible refine (screelaw7_sameRecords.calls kj25 _ _ t293 _ _ y298 true _ ?side1 ?side2 ?side3 ?side4 A41.out).mono ?_); (case side1 => repeat (first | exact (Kd.S_reads' HO297.out).2.2 | (with_reducible refine Kd.C_alloc ?_ _) | (with_reducible refine Kd.C_drewN ?_ _) | (with_reducible refine Kd.C_drew ?_))); (case side2 => exact (Kd.S_reads' HO297.out).2.1); (case side3 => repeat (first | exact (Kd.C_below HR301.out HB.out) | (with_reducible refine Kd.C_alloc ?_ _) | (with_reducible refine Kd.C_drewN ?_ _) | (with_reducible refine Kd.C_drew ?_))); (case side4 => exact HC301.out); rintro e w' ⟨rfl, ⟨nd, rfl⟩⟩; refine ⟨_, rfl, ?_⟩))
                                      go_meet
                                      case rel => exact ⟨_, (true), (by first | rfl | (simp; done) | (simp [*]; done)), H', ⟨by have := HJ9.out; have := HJ23.out; have := HJ25.out; first | omega | exact Nat.le_refl _⟩, ⟨by (with_reducible repeat (first | apply Kd.R_alloc | apply Kd.R_drewN | apply Kd.R_drew)); exact HO_7.out⟩, ⟨by repeat (first | (with_reducible exact HR292.out) | (with_reducible refine Kd.C_alloc ?_ _) | (with_reducible refine Kd.C_drewN ?_ _) | (with_reducible refine Kd.C_drew ?_) | exact HR292.out)⟩, ⟨by repeat (first | (with_reducible first | exact HB.out | apply below_alloc | apply pw_below_drewN | apply below_drew1) | exact HB.out)⟩⟩
                                  · replace c42 := Bool.eq_false_iff.mpr c42
                                    subst c42
                                    have H1 : (screelaw7_LogBack.j4 kj25 l0 l2 t273 true) = some r := by rw [if_neg (show ¬ (false = true) by decide)] at H; exact H
                                    clear H
                                    have H := H1
                                    clear H1
                                    have H' := Aside0.mk H
                                    clear H
                                    have q57 : (x13_25 : Int) ≤ ((l0.length : Int) : Int) := of_decide_eq_true (by first | (with_reducible assumption) | assumption)
                                    obtain ⟨i057, hi057, _, hsz57, _⟩ := info_parts info22
                                    have hroom57 : l0.length ≤ c0 := HC0.out
                                    have hC57 : Kd.C (Kd.slice 5 (Kd.int .u8)) _ A0 l0.length l0 := HR0.out
                                    have hcut57 := cut_to (P := Tryd.prog) 24 22 .i64 Tryd.underlying24 hi057 A0 l0.length c0 x13_25 (of_decide_eq_true (by first | (with_reducible assumption) | assumption)) q57 hroom57
                                    have hr57 := Kd.C_take (m := (x13_25 : Int).toNat) hC57 (by omega)
                                    have hy57 : y298.length = (x13_25 : Int).toNat := (by rw [Ny298.out, List.length_take]; omega)
                                    rw [← Ny298.out] at hr57
                                    rw [← hy57] at hcut57
                                    have HR301 := Aside0.mk hr57
                                    have HC301 := Aside0.mk (show y298.length ≤ c0 from by omega)
                                    clear hr57 hC57 hroom57 hi057 hsz57
                                    have KY57 := Aside0.mk hy57
                                    clear hy57
                                    replace q57 := eq_true q57
                                    obtain ⟨Ao58, co58, eo58⟩ := Kd.S_slice HO297.out
                                    subst eo58
                                    go_wp2_with (first | ((with_reducible refine gate_callee (f := 16) rfl ?_); refine goesL_ (some 97) rfl rfl Tryd.func16 (by kernel_rfl) rfl #[.slice Ao58 t293.length co58, .slice A0 y298.length c0] rfl (by (try simp only [List.map_toArray, List.map_cons, List.map_nil]); first | done | rfl | (simp only [List.length_drop, List.length_take]; rfl)) ?_; (with_reducible refine (screelaw7_sameRecords.calls kj25 _ _ t293 _ _ y298 false _ ?side1 ?side2 ?side3 ?side4 A41.out).mono ?_); (case side1 => repeat (first | exact (Kd.S_reads' HO297.out).2.2 | (with_reducible refine Kd.C_alloc ?_ _) | (with_reducible refine Kd.C_drewN ?_ _) | (with_reducible refine Kd.C_drew ?_))); (case side2 => exact (Kd.S_reads' HO297.out).2.1); (case side3 => repeat (first | exact (Kd.C_below HR301.out HB.out) | (with_reducible refine Kd.C_alloc ?_ _) | (with_reducible refine Kd.C_drewN ?_ _) | (with_reducible refine Kd.C_drew ?_))); (case side4 => exact HC301.out); rintro e w' ⟨rfl, ⟨nd, rfl⟩⟩; refine ⟨_, rfl, ?_⟩))
                                    go_meet
                                    case rel => exact ⟨_, (true), (by first | rfl | (simp; done) | (simp [*]; done)), H', ⟨by have := HJ9.out; have := HJ23.out; have := HJ25.out; first | omega | exact Nat.le_refl _⟩, ⟨by (with_reducible repeat (first | apply Kd.R_alloc | apply Kd.R_drewN | apply Kd.R_drew)); exact HO_7.out⟩, ⟨by repeat (first | (with_reducible exact HR292.out) | (with_reducible refine Kd.C_alloc ?_ _) | (with_reducible refine Kd.C_drewN ?_ _) | (with_reducible refine Kd.C_drew ?_) | exact HR292.out)⟩, ⟨by repeat (first | (with_reducible first | exact HB.out | apply below_alloc | apply pw_below_drewN | apply below_drew1) | exact HB.out)⟩⟩
                                · rw [if_neg c40] at H
                                  exact absurd H (by simp)
                              · rw [if_neg c39] at H
                                exact absurd H (by simp)
                            case rest =>
                              clear HC36
                              try clear c1
                              try clear c2
                              try clear p2
                              try clear q2
                              try clear hx2
                              try clear c3
                              try clear q3
                              try clear c4
                              try clear c4b0
                              try clear c4b1
                              try clear q4
                              try clear q5
                              try clear c6
                              try clear p6
                              try clear c8
                              try clear c16
                              try clear c17
                              try clear c17b0
                              try clear c17b1
                              try clear c20
                              try clear c21
                              try clear c22
                              try clear c23
                              try clear c23b0
                              try clear c23b1
                              try clear c25
                              try clear c25b0
                              try clear c27
                              try clear c27b0
                              try clear c28
                              try clear c28b0
                              try clear p28
                              try clear q28
                              try clear hx28
                              try clear c29
                              try clear c29b0
                              try clear c33
                              try clear c33b0
                              try clear c33b1
                              try clear c34
                              try clear c34b0
                              try clear c34b1
                              try clear q37
                              try clear c39
                              try clear c39b0
                              try clear c39b1
                              try clear c40
                              try clear c40b0
                              try clear c40b1
                              try clear c42
                              try clear c43
                              try clear c43b0
                              try clear c43b1
                              try clear c45
                              try clear c45b0
                              try clear c45b1
                              try clear c45b2
                              try clear q46
                              try clear c49
                              try clear c49b0
                              try clear c49b1
                              try clear q50
                              try clear q53
                              try clear q55
                              try clear q57
                              try clear hx287_0
                              try clear hx288_0
                              try clear p2
                              try clear p28
                              try clear p287
                              try clear p288
                              try clear p6
                              try clear q2
                              try clear q28
                              try clear q287
                              try clear q288
                              try clear q37
                              try clear q46
                              try clear q50
                              try clear q53
                              try clear q55
                              try clear q57
                              obtain ⟨kq, x122_35, rfl, HA, HJ35, HO_7, HR292, HB⟩ := hcut
                              cases kq with
                              | zero => exact absurd HA.out (by simp [screelaw7_LogBack.j4])
                              | succ kj35 =>
                                have H := HA.out
                                clear HA
                                simp only [screelaw7_LogBack.j4] at H
                                by_cases c59 : x122_35 = true
                                · subst c59
                                  have H1 : (some false) = some r := by rw [if_pos rfl] at H; exact H
                                  clear H
                                  have H := H1
                                  clear H1
                                  obtain rfl := Option.some.inj H
                                  go_wp2
                                  go_ret
                                  exact ⟨by first | rfl | (simp [errW_none, errW_some] <;> rfl) | (simp [*, errW_none, errW_some] <;> rfl), by repeat (first | (with_reducible first | exact HB.out | apply below_alloc | apply pw_below_drewN | apply below_drew1) | exact HB.out)⟩
                                · replace c59 := Bool.eq_false_iff.mpr c59
                                  subst c59
                                  have H1 : (if ([] : List Int).length + t273.length < 140737488355328 then ((some (([] : List Int) ++ t273 : List Int)).bind fun y306 => (if y306.length + l2.length < 140737488355328 then ((log_Read.f (y306 ++ l2)).bind fun bt312 => (if (bt312.1.length : Int) ≥ (l0.length : Int) then (if 0 ≤ (l0.length : Int) then (if (l0.length : Int) ≤ (bt312.1.length : Int) then ((screelaw7_sameRecords.f kj35 (bt312.1.take ((l0.length : Int) : Int).toNat) l0).bind fun t321 => (if t321 = true then (some (decide (bt312.2.1 ≥ (t273.length : Int)))) else (some false))) else (none)) else (none)) else (some false))) else (none))) else (none)) = some r := by rw [if_neg (show ¬ (false = true) by decide)] at H; exact H
                                  clear H
                                  have H := H1
                                  clear H1
                                  by_cases c60 : ([] : List Int).length + t273.length < 140737488355328
                                  · rw [if_pos c60] at H
                                    have LMc60 := Aside0.mk c60
                                    clear c60
                                    obtain ⟨y306, hy306⟩ : ∃ y_ : List Int, y_ = (([] : List Int) ++ t273) := ⟨_, rfl⟩
                                    replace H : (if y306.length + l2.length < 140737488355328 then ((log_Read.f (y306 ++ l2)).bind fun bt312 => (if (bt312.1.length : Int) ≥ (l0.length : Int) then (if 0 ≤ (l0.length : Int) then (if (l0.length : Int) ≤ (bt312.1.length : Int) then ((screelaw7_sameRecords.f kj35 (bt312.1.take ((l0.length : Int) : Int).toNat) l0).bind fun t321 => (if t321 = true then (some (decide (bt312.2.1 ≥ (t273.length : Int)))) else (some false))) else (none)) else (none)) else (some false))) else (none)) = some r := by first | (rw [hy306]; with_reducible exact H) | (have H2_ := (Option.bind_some _ _).symm.trans H; rw [hy306]; with_reducible exact H2_) | (have H2_ := (Option.bind_some _ _).symm.trans H; with_reducible exact H2_) | with_reducible exact H | (rw [hy306]; exact H) | exact H
                                    have Ny306 := Aside0.mk hy306
                                    clear hy306
                                    by_cases c61 : y306.length + l2.length < 140737488355328
                                    · rw [if_pos c61] at H
                                      have LMc61 := Aside0.mk c61
                                      clear c61
                                      obtain ⟨y309, hy309⟩ : ∃ y_ : List Int, y_ = (y306 ++ l2) := ⟨_, rfl⟩
                                      replace H : ((log_Read.f y309).bind fun bt312 => (if (bt312.1.length : Int) ≥ (l0.length : Int) then (if 0 ≤ (l0.length : Int) then (if (l0.length : Int) ≤ (bt312.1.length : Int) then ((screelaw7_sameRecords.f kj35 (bt312.1.take ((l0.length : Int) : Int).toNat) l0).bind fun t321 => (if t321 = true then (some (decide (bt312.2.1 ≥ (t273.length : Int)))) else (some false))) else (none)) else (none)) else (some false))) = some r := by first | (rw [hy309]; with_reducible exact H) | (have H2_ := (Option.bind_some _ _).symm.trans H; rw [hy309]; with_reducible exact H2_) | (have H2_ := (Option.bind_some _ _).symm.trans H; with_reducible exact H2_) | with_reducible exact H | (rw [hy309]; exact H) | exact H
                                      have Ny309 := Aside0.mk hy309
                                      clear hy309
                                      replace H := Option.bind_eq_some_iff.mp H
                                      obtain ⟨⟨t312, t313, t314⟩, A620, H⟩ := H
                                      replace H : (if (t312.length : Int) ≥ (l0.length : Int) then (if 0 ≤ (l0.length : Int) then (if (l0.length : Int) ≤ (t312.length : Int) then ((screelaw7_sameRecords.f kj35 (t312.take ((l0.length : Int) : Int).toNat) l0).bind fun t321 => (if t321 = true then (some (decide (t313 ≥ (t273.length : Int)))) else (some false))) else (none)) else (none)) else (some false)) = some r := H
                                      have A62 := Aside0.mk A620
                                      clear A620
                                      by_cases c63 : (t312.length : Int) ≥ (l0.length : Int)
                                      · rw [if_pos c63] at H
                                        have c63b0 : decide ((l0.length : Int) ≤ (t312.length : Int)) = true := decide_eq_true c63
                                        have c63b1 : decide (l0.length ≤ t312.length) = true := decide_eq_true (Int.ofNat_le.mp c63)
                                        clear c63
                                        by_cases c64 : 0 ≤ (l0.length : Int)
                                        · rw [if_pos c64] at H
                                          have c64b0 := eq_true c64
                                          have c64b1 : decide (0 ≤ (l0.length : Int)) = true := decide_eq_true c64
                                          clear c64
                                          by_cases c65 : (l0.length : Int) ≤ (t312.length : Int)
                                          · rw [if_pos c65] at H
                                            have c65b0 := eq_true c65
                                            have c65b1 : decide ((l0.length : Int) ≤ (t312.length : Int)) = true := decide_eq_true c65
                                            clear c65
                                            obtain ⟨y317, hy317⟩ : ∃ y_ : List (List Int), y_ = (t312.take ((l0.length : Int) : Int).toNat) := ⟨_, rfl⟩
                                            replace H : ((screelaw7_sameRecords.f kj35 y317 l0).bind fun t321 => (if t321 = true then (some (decide (t313 ≥ (t273.length : Int)))) else (some false))) = some r := by first | (rw [hy317]; with_reducible exact H) | (have H2_ := (Option.bind_some _ _).symm.trans H; rw [hy317]; with_reducible exact H2_) | (have H2_ := (Option.bind_some _ _).symm.trans H; with_reducible exact H2_) | with_reducible exact H | (rw [hy317]; exact H) | exact H
                                            have Ny317 := Aside0.mk hy317
                                            clear hy317
                                            replace H := Option.bind_eq_some_iff.mp H
                                            obtain ⟨t321, A660, H⟩ := H
                                            replace H : (if t321 = true then (some (decide (t313 ≥ (t273.length : Int)))) else (some false)) = some r := H
                                            have A66 := Aside0.mk A660
                                            clear A660
                                            by_cases c67 : t321 = true
                                            · subst c67
                                              have H1 : (some (decide (t313 ≥ (t273.length : Int)))) = some r := by rw [if_pos rfl] at H; exact H
                                              clear H
                                              have H := H1
                                              clear H1
                                              obtain rfl := Option.some.inj H
                                              go_wp2_with (first | ((with_reducible refine gate_builtin (b := .append) (xs := #[.const (.slice none 0 0), .tmp 124]) rfl ?_); (try (refine gate_guard (by rfl) ?_; dsimp only)); at_builtin; refine Kd.R_append_rows (Kd.int .u8) (w0 := w) w.heap.size rfl (.const (.slice none 0 0)) (.tmp 124) 22 5 (.int .u8 0) 1 rfl Tryd.underlying22 info5 rfl (by decide) (by omega) (.slice none 0 0) ([] : List Int) t273 _ _ _ (fun k_ => some k_ ≠ (.slice Ao13 t273.length co13 : Value).ownBlock) (fun _ => False) rfl rfl ?aO ?aR (fun _ _ h => h) (fun _ h => h.elim) ?aF ?aB ?aS ?aL ?_; (case aR => repeat (first | exact (Kd.R_reads' HO_7.out).2.2 | (with_reducible refine Kd.C_alloc ?_ _) | (with_reducible refine Kd.C_drewN ?_ _) | (with_reducible refine Kd.C_drew ?_))); (case aB => exact (by repeat (first | (with_reducible first | exact HB.out | apply below_alloc | apply pw_below_drewN | apply below_drew1) | exact HB.out))); (case aF => exact (fun k_ hk => Kd.fresh' (Kd.R_lt (by (with_reducible repeat (first | apply Kd.R_alloc | apply Kd.R_drewN | apply Kd.R_drew)); exact HO_7.out)) k_ hk)); (case aO => exact ((Kd.R_nil _ _ _ _ (fun k_ => some k_ ≠ (.slice Ao13 t273.length co13 : Value).ownBlock)))); (case aS => exact (below_size (by repeat (first | (with_reducible first | exact HB.out | apply below_alloc | apply pw_below_drewN | apply below_drew1) | exact HB.out)))); (case aL => have := LMc60.out; omega); intro v307 w68 ho hb hg hat; rw [← Ny306.out] at ho; have n0_ := Aside0.mk (Kd.R_after (Kd.R_apart_nil (by (with_reducible repeat (first | apply Kd.R_alloc | apply Kd.R_drewN | apply Kd.R_drew)); exact HO_7.out)) hg hat); have n1_ := Aside0.mk (hb); have n2_ := Aside0.mk ((show Kd.C (Kd.int .u8) w68 Ao13 y289.length y289 from by rw [Ny289.out]; exact Kd.C_take (m := (x1_23 : Int).toNat) ((Kd.R_reads' (Kd.R_after (Kd.R_apart_nil (by (with_reducible repeat (first | apply Kd.R_alloc | apply Kd.R_drewN | apply Kd.R_drew)); exact HO_7.out)) hg hat)).2.2) KL37.out)); have n3_ := Aside0.mk (ho); clear HO_7; clear HB; clear HR292; have HO_7 := n0_; have HB := n1_; have HR292 := n2_; have HO308 := n3_; clear n0_ n1_ n2_ n3_; clear ho hb hg hat) | ((with_reducible refine gate_builtin (b := .append) (xs := #[.tmp 125, .tmp 126]) rfl ?_); (try (refine gate_guard (by rfl) ?_; dsimp only)); at_builtin; refine Kd.R_append_rows (Kd.int .u8) (w0 := w) w.heap.size rfl (.tmp 125) (.tmp 126) 22 5 (.int .u8 0) 1 rfl Tryd.underlying22 info5 rfl (by decide) (by omega) v307 y306 l2 _ _ _ (fun k_ => some k_ ≠ (.slice Ao13 t273.length co13 : Value).ownBlock) (fun _ => False) rfl rfl ?aO ?aR (fun _ _ h => h) (fun _ h => h.elim) ?aF ?aB ?aS ?aL ?_; (case aR => repeat (first | exact (Kd.C_below HR2.out HB.out) | (with_reducible refine Kd.C_alloc ?_ _) | (with_reducible refine Kd.C_drewN ?_ _) | (with_reducible refine Kd.C_drew ?_))); (case aB => exact (by repeat (first | (with_reducible first | exact HB.out | apply below_alloc | apply pw_below_drewN | apply below_drew1) | exact HB.out))); (case aF => exact (fun k_ hk => Kd.fresh' (Kd.R_lt (by (with_reducible repeat (first | apply Kd.R_alloc | apply Kd.R_drewN | apply Kd.R_drew)); exact HO_7.out)) k_ hk)); (case aO => exact (by (with_reducible repeat (first | apply Kd.R_alloc | apply Kd.R_drewN | apply Kd.R_drew)); exact HO308.out)); (case aS => exact (below_size (by repeat (first | (with_reducible first | exact HB.out | apply below_alloc | apply pw_below_drewN | apply below_drew1) | exact HB.out)))); (case aL => have := LMc61.out; omega); intro v310 w69 ho hb hg hat; rw [← Ny309.out] at ho; have n0_ := Aside0.mk (Kd.R_after (ok := (fun _ => True)) (by (with_reducible repeat (first | apply Kd.R_alloc | apply Kd.R_drewN | apply Kd.R_drew)); exact HO_7.out) hg hat); have n1_ := Aside0.mk (hb); have n2_ := Aside0.mk ((show Kd.C (Kd.int .u8) w69 Ao13 y289.length y289 from by rw [Ny289.out]; exact Kd.C_take (m := (x1_23 : Int).toNat) ((Kd.R_reads' (Kd.R_after (ok := (fun _ => True)) (by (with_reducible repeat (first | apply Kd.R_alloc | apply Kd.R_drewN | apply Kd.R_drew)); exact HO_7.out) hg hat)).2.2) KL37.out)); have n3_ := Aside0.mk (ho); clear HO_7; clear HB; clear HR292; clear HO308; have HO_7 := n0_; have HB := n1_; have HR292 := n2_; have HO311 := n3_; clear n0_ n1_ n2_ n3_; clear ho hb hg hat; obtain ⟨Ao70, co70, eo70⟩ := Kd.R_slice HO311.out; subst eo70) | ((with_reducible refine gate_callee (f := 17) rfl ?_); refine goesL_ (some 128) rfl rfl Tryd.func17 (by kernel_rfl) rfl #[.slice Ao70 y309.length co70] rfl (by (try simp only [List.map_toArray, List.map_cons, List.map_nil]); first | done | rfl | (simp only [List.length_drop, List.length_take]; rfl)) ?_; (with_reducible refine (log_Read.calls _ _ y309 t312 t313 t314 _ ?side1 ?side2 A62.out ?side3).mono ?_); (case side1 => repeat (first | exact (Kd.R_reads' HO311.out).2.2 | (with_reducible refine Kd.C_alloc ?_ _) | (with_reducible refine Kd.C_drewN ?_ _) | (with_reducible refine Kd.C_drew ?_))); (case side2 => exact (Kd.R_reads' HO311.out).2.1); (case side3 => first | (with_reducible exact HT_.out) | exact GT.below HT_.out (by repeat (first | (with_reducible first | exact HB.out | apply below_alloc | apply pw_below_drewN | apply below_drew1) | exact HB.out))); rintro e w71 ⟨v315, rfl, ho0, hb⟩; refine ⟨_, rfl, ?_⟩; have n0_ := Aside0.mk (Kd.R_below (by (with_reducible repeat (first | apply Kd.R_alloc | apply Kd.R_drewN | apply Kd.R_drew)); exact HO_7.out) hb); have n1_ := Aside0.mk (Kd.R_below (by (with_reducible repeat (first | apply Kd.R_alloc | apply Kd.R_drewN | apply Kd.R_drew)); exact HO311.out) hb); have n2_ := Aside0.mk (Kd.S_lower (Kd.S_new' (Kd.S_new' ho0 (Kd.R_lt (by (with_reducible repeat (first | apply Kd.R_alloc | apply Kd.R_drewN | apply Kd.R_drew)); exact HO_7.out))) (Kd.R_lt (by (with_reducible repeat (first | apply Kd.R_alloc | apply Kd.R_drewN | apply Kd.R_drew)); exact HO311.out))) (below_size (by repeat (first | (with_reducible first | exact HB.out | apply below_alloc | apply pw_below_drewN | apply below_drew1) | exact HB.out)))); have n3_ := Aside0.mk (Kd.C_below (by repeat (first | (with_reducible exact HR292.out) | (with_reducible refine Kd.C_alloc ?_ _) | (with_reducible refine Kd.C_drewN ?_ _) | (with_reducible refine Kd.C_drew ?_) | exact HR292.out)) hb); have n4_ := Aside0.mk (below_step (by repeat (first | (with_reducible first | exact HB.out | apply below_alloc | apply pw_below_drewN | apply below_drew1) | exact HB.out)) hb); clear HO_7; clear HO311; clear HR292; clear HB; have HO_7 := n0_; have HO311 := n1_; have HO316 := n2_; have HR292 := n3_; have HB := n4_; clear n0_ n1_ n2_ n3_ n4_; (try clear hb); (try clear hb2); (try clear hk); (try clear hi); (try clear ho0); obtain ⟨Ao72, co72, eo72⟩ := Kd.S_slice HO316.out; subst eo72; have q73 : ((l0.length : Int) : Int) ≤ ((t312.length : Int) : Int) := of_decide_eq_true (by first | (with_reducible assumption) | assumption); obtain ⟨i073, hi073, _, hsz73, _⟩ := info_parts info22; have hroom73 : t312.length ≤ co72 := (Kd.S_reads' HO316.out).2.1; have hC73 : Kd.C (Kd.slice 5 (Kd.int .u8)) _ Ao72 t312.length t312 := (Kd.S_reads' HO316.out).2.2; have hcut73 := cut_to (P := Tryd.prog) 24 22 .i64 Tryd.underlying24 hi073 Ao72 t312.length co72 (l0.length : Int) (of_decide_eq_true (by first | (with_reducible assumption) | assumption)) q73 hroom73; have hr73 := Kd.C_take (m := ((l0.length : Int) : Int).toNat) hC73 (by omega); have hy73 : y317.length = ((l0.length : Int) : Int).toNat := (by rw [Ny317.out, List.length_take]; omega); rw [← Ny317.out] at hr73; rw [← hy73] at hcut73; have HR320 := Aside0.mk hr73; have HC320 := Aside0.mk (show y317.length ≤ co72 from by omega); clear hr73 hC73 hroom73 hi073 hsz73; have KY73 := Aside0.mk hy73; clear hy73; have KL73 := Aside0.mk (show ((l0.length : Int) : Int).toNat ≤ t312.length from by omega); replace q73 := eq_true q73) | (go_at_call 16; (with_reducible refine (screelaw7_sameRecords.calls kj35 _ _ y317 _ _ l0 true _ ?side1 ?side2 ?side3 ?side4 A66.out).mono ?_); (case side1 => repeat (first | exact (by repeat (first | (with_reducible exact HR320.out) | (with_reducible refine Kd.C_alloc ?_ _) | (with_reducible refine Kd.C_drewN ?_ _) | (with_reducible refine Kd.C_drew ?_) | exact HR320.out)) | (with_reducible refine Kd.C_alloc ?_ _) | (with_reducible refine Kd.C_drewN ?_ _) | (with_reducible refine Kd.C_drew ?_))); (case side2 => exact HC320.out); (case side3 => repeat (first | exact (Kd.C_below HR0.out HB.out) | (with_reducible refine Kd.C_alloc ?_ _) | (with_reducible refine Kd.C_drewN ?_ _) | (with_reducible refine Kd.C_drew ?_))); (case side4 => exact HC0.out); rintro e w' ⟨rfl, ⟨nd, rfl⟩⟩))
                                              go_ret
                                              exact ⟨by first | rfl | (simp [errW_none, errW_some] <;> rfl) | (simp [*, errW_none, errW_some] <;> rfl), by repeat (first | (with_reducible first | exact HB.out | apply below_alloc | apply pw_below_drewN | apply below_drew1) | exact HB.out)⟩
                                            · replace c67 := Bool.eq_false_iff.mpr c67
                                              subst c67
                                              have H1 : (some false) = some r := by rw [if_neg (show ¬ (false = true) by decide)] at H; exact H
                                              clear H
                                              have H := H1
                                              clear H1
                                              obtain rfl := Option.some.inj H
                                              go_wp2_with (first | ((with_reducible refine gate_builtin (b := .append) (xs := #[.const (.slice none 0 0), .tmp 124]) rfl ?_); (try (refine gate_guard (by rfl) ?_; dsimp only)); at_builtin; refine Kd.R_append_rows (Kd.int .u8) (w0 := w) w.heap.size rfl (.const (.slice none 0 0)) (.tmp 124) 22 5 (.int .u8 0) 1 rfl Tryd.underlying22 info5 rfl (by decide) (by omega) (.slice none 0 0) ([] : List Int) t273 _ _ _ (fun k_ => some k_ ≠ (.slice Ao13 t273.length co13 : Value).ownBlock) (fun _ => False) rfl rfl ?aO ?aR (fun _ _ h => h) (fun _ h => h.elim) ?aF ?aB ?aS ?aL ?_; (case aR => repeat (first | exact (Kd.R_reads' HO_7.out).2.2 | (with_reducible refine Kd.C_alloc ?_ _) | (with_reducible refine Kd.C_drewN ?_ _) | (with_reducible refine Kd.C_drew ?_))); (case aB => exact (by repeat (first | (with_reducible first | exact HB.out | apply below_alloc | apply pw_below_drewN | apply below_drew1) | exact HB.out))); (case aF => exact (fun k_ hk => Kd.fresh' (Kd.R_lt (by (with_reducible repeat (first | apply Kd.R_alloc | apply Kd.R_drewN | apply Kd.R_drew)); exact HO_7.out)) k_ hk)); (case aO => exact ((Kd.R_nil _ _ _ _ (fun k_ => some k_ ≠ (.slice Ao13 t273.length co13 : Value).ownBlock)))); (case aS => exact (below_size (by repeat (first | (with_reducible first | exact HB.out | apply below_alloc | apply pw_below_drewN | apply below_drew1) | exact HB.out)))); (case aL => have := LMc60.out; omega); intro v307 w74 ho hb hg hat; rw [← Ny306.out] at ho; have n0_ := Aside0.mk (Kd.R_after (Kd.R_apart_nil (by (with_reducible repeat (first | apply Kd.R_alloc | apply Kd.R_drewN | apply Kd.R_drew)); exact HO_7.out)) hg hat); have n1_ := Aside0.mk (hb); have n2_ := Aside0.mk ((show Kd.C (Kd.int .u8) w74 Ao13 y289.length y289 from by rw [Ny289.out]; exact Kd.C_take (m := (x1_23 : Int).toNat) ((Kd.R_reads' (Kd.R_after (Kd.R_apart_nil (by (with_reducible repeat (first | apply Kd.R_alloc | apply Kd.R_drewN | apply Kd.R_drew)); exact HO_7.out)) hg hat)).2.2) KL37.out)); have n3_ := Aside0.mk (ho); clear HO_7; clear HB; clear HR292; have HO_7 := n0_; have HB := n1_; have HR292 := n2_; have HO308 := n3_; clear n0_ n1_ n2_ n3_; clear ho hb hg hat) | ((with_reducible refine gate_builtin (b := .append) (xs := #[.tmp 125, .tmp 126]) rfl ?_); (try (refine gate_guard (by rfl) ?_; dsimp only)); at_builtin; refine Kd.R_append_rows (Kd.int .u8) (w0 := w) w.heap.size rfl (.tmp 125) (.tmp 126) 22 5 (.int .u8 0) 1 rfl Tryd.underlying22 info5 rfl (by decide) (by omega) v307 y306 l2 _ _ _ (fun k_ => some k_ ≠ (.slice Ao13 t273.length co13 : Value).ownBlock) (fun _ => False) rfl rfl ?aO ?aR (fun _ _ h => h) (fun _ h => h.elim) ?aF ?aB ?aS ?aL ?_; (case aR => repeat (first | exact (Kd.C_below HR2.out HB.out) | (with_reducible refine Kd.C_alloc ?_ _) | (with_reducible refine Kd.C_drewN ?_ _) | (with_reducible refine Kd.C_drew ?_))); (case aB => exact (by repeat (first | (with_reducible first | exact HB.out | apply below_alloc | apply pw_below_drewN | apply below_drew1) | exact HB.out))); (case aF => exact (fun k_ hk => Kd.fresh' (Kd.R_lt (by (with_reducible repeat (first | apply Kd.R_alloc | apply Kd.R_drewN | apply Kd.R_drew)); exact HO_7.out)) k_ hk)); (case aO => exact (by (with_reducible repeat (first | apply Kd.R_alloc | apply Kd.R_drewN | apply Kd.R_drew)); exact HO308.out)); (case aS => exact (below_size (by repeat (first | (with_reducible first | exact HB.out | apply below_alloc | apply pw_below_drewN | apply below_drew1) | exact HB.out)))); (case aL => have := LMc61.out; omega); intro v310 w75 ho hb hg hat; rw [← Ny309.out] at ho; have n0_ := Aside0.mk (Kd.R_after (ok := (fun _ => True)) (by (with_reducible repeat (first | apply Kd.R_alloc | apply Kd.R_drewN | apply Kd.R_drew)); exact HO_7.out) hg hat); have n1_ := Aside0.mk (hb); have n2_ := Aside0.mk ((show Kd.C (Kd.int .u8) w75 Ao13 y289.length y289 from by rw [Ny289.out]; exact Kd.C_take (m := (x1_23 : Int).toNat) ((Kd.R_reads' (Kd.R_after (ok := (fun _ => True)) (by (with_reducible repeat (first | apply Kd.R_alloc | apply Kd.R_drewN | apply Kd.R_drew)); exact HO_7.out) hg hat)).2.2) KL37.out)); have n3_ := Aside0.mk (ho); clear HO_7; clear HB; clear HR292; clear HO308; have HO_7 := n0_; have HB := n1_; have HR292 := n2_; have HO311 := n3_; clear n0_ n1_ n2_ n3_; clear ho hb hg hat; obtain ⟨Ao76, co76, eo76⟩ := Kd.R_slice HO311.out; subst eo76) | ((with_reducible refine gate_callee (f := 17) rfl ?_); refine goesL_ (some 128) rfl rfl Tryd.func17 (by kernel_rfl) rfl #[.slice Ao76 y309.length co76] rfl (by (try simp only [List.map_toArray, List.map_cons, List.map_nil]); first | done | rfl | (simp only [List.length_drop, List.length_take]; rfl)) ?_; (with_reducible refine (log_Read.calls _ _ y309 t312 t313 t314 _ ?side1 ?side2 A62.out ?side3).mono ?_); (case side1 => repeat (first | exact (Kd.R_reads' HO311.out).2.2 | (with_reducible refine Kd.C_alloc ?_ _) | (with_reducible refine Kd.C_drewN ?_ _) | (with_reducible refine Kd.C_drew ?_))); (case side2 => exact (Kd.R_reads' HO311.out).2.1); (case side3 => first | (with_reducible exact HT_.out) | exact GT.below HT_.out (by repeat (first | (with_reducible first | exact HB.out | apply below_alloc | apply pw_below_drewN | apply below_drew1) | exact HB.out))); rintro e w77 ⟨v315, rfl, ho0, hb⟩; refine ⟨_, rfl, ?_⟩; have n0_ := Aside0.mk (Kd.R_below (by (with_reducible repeat (first | apply Kd.R_alloc | apply Kd.R_drewN | apply Kd.R_drew)); exact HO_7.out) hb); have n1_ := Aside0.mk (Kd.R_below (by (with_reducible repeat (first | apply Kd.R_alloc | apply Kd.R_drewN | apply Kd.R_drew)); exact HO311.out) hb); have n2_ := Aside0.mk (Kd.S_lower (Kd.S_new' (Kd.S_new' ho0 (Kd.R_lt (by (with_reducible repeat (first | apply Kd.R_alloc | apply Kd.R_drewN | apply Kd.R_drew)); exact HO_7.out))) (Kd.R_lt (by (with_reducible repeat (first | apply Kd.R_alloc | apply Kd.R_drewN | apply Kd.R_drew)); exact HO311.out))) (below_size (by repeat (first | (with_reducible first | exact HB.out | apply below_alloc | apply pw_below_drewN | apply below_drew1) | exact HB.out)))); have n3_ := Aside0.mk (Kd.C_below (by repeat (first | (with_reducible exact HR292.out) | (with_reducible refine Kd.C_alloc ?_ _) | (with_reducible refine Kd.C_drewN ?_ _) | (with_reducible refine Kd.C_drew ?_) | exact HR292.out)) hb); have n4_ := Aside0.mk (below_step (by repeat (first | (with_reducible first | exact HB.out | apply below_alloc | apply pw_below_drewN | apply below_drew1) | exact HB.out)) hb); clear HO_7; clear HO311; clear HR292; clear HB; have HO_7 := n0_; have HO311 := n1_; have HO316 := n2_; have HR292 := n3_; have HB := n4_; clear n0_ n1_ n2_ n3_ n4_; (try clear hb); (try clear hb2); (try clear hk); (try clear hi); (try clear ho0); obtain ⟨Ao78, co78, eo78⟩ := Kd.S_slice HO316.out; subst eo78; have q79 : ((l0.length : Int) : Int) ≤ ((t312.length : Int) : Int) := of_decide_eq_true (by first | (with_reducible assumption) | assumption); obtain ⟨i079, hi079, _, hsz79, _⟩ := info_parts info22; have hroom79 : t312.length ≤ co78 := (Kd.S_reads' HO316.out).2.1; have hC79 : Kd.C (Kd.slice 5 (Kd.int .u8)) _ Ao78 t312.length t312 := (Kd.S_reads' HO316.out).2.2; have hcut79 := cut_to (P := Tryd.prog) 24 22 .i64 Tryd.underlying24 hi079 Ao78 t312.length co78 (l0.length : Int) (of_decide_eq_true (by first | (with_reducible assumption) | assumption)) q79 hroom79; have hr79 := Kd.C_take (m := ((l0.length : Int) : Int).toNat) hC79 (by omega); have hy79 : y317.length = ((l0.length : Int) : Int).toNat := (by rw [Ny317.out, List.length_take]; omega); rw [← Ny317.out] at hr79; rw [← hy79] at hcut79; have HR320 := Aside0.mk hr79; have HC320 := Aside0.mk (show y317.length ≤ co78 from by omega); clear hr79 hC79 hroom79 hi079 hsz79; have KY79 := Aside0.mk hy79; clear hy79; have KL79 := Aside0.mk (show ((l0.length : Int) : Int).toNat ≤ t312.length from by omega); replace q79 := eq_true q79) | (go_at_call 16; (with_reducible refine (screelaw7_sameRecords.calls kj35 _ _ y317 _ _ l0 false _ ?side1 ?side2 ?side3 ?side4 A66.out).mono ?_); (case side1 => repeat (first | exact (by repeat (first | (with_reducible exact HR320.out) | (with_reducible refine Kd.C_alloc ?_ _) | (with_reducible refine Kd.C_drewN ?_ _) | (with_reducible refine Kd.C_drew ?_) | exact HR320.out)) | (with_reducible refine Kd.C_alloc ?_ _) | (with_reducible refine Kd.C_drewN ?_ _) | (with_reducible refine Kd.C_drew ?_))); (case side2 => exact HC320.out); (case side3 => repeat (first | exact (Kd.C_below HR0.out HB.out) | (with_reducible refine Kd.C_alloc ?_ _) | (with_reducible refine Kd.C_drewN ?_ _) | (with_reducible refine Kd.C_drew ?_))); (case side4 => exact HC0.out); rintro e w' ⟨rfl, ⟨nd, rfl⟩⟩))
                                              go_ret
                                              exact ⟨by first | rfl | (simp [errW_none, errW_some] <;> rfl) | (simp [*, errW_none, errW_some] <;> rfl), by repeat (first | (with_reducible first | exact HB.out | apply below_alloc | apply pw_below_drewN | apply below_drew1) | exact HB.out)⟩
                                          · rw [if_neg c65] at H
                                            exact absurd H (by simp)
                                        · rw [if_neg c64] at H
                                          exact absurd H (by simp)
                                      · rw [if_neg c63] at H
                                        have c63b0 : decide ((l0.length : Int) ≤ (t312.length : Int)) = false := decide_eq_false c63
                                        have c63b1 : decide (l0.length ≤ t312.length) = false := decide_eq_false (fun h => c63 (Int.ofNat_le.mpr h))
                                        clear c63
                                        obtain rfl := Option.some.inj H
                                        go_wp2_with (first | ((with_reducible refine gate_builtin (b := .append) (xs := #[.const (.slice none 0 0), .tmp 124]) rfl ?_); (try (refine gate_guard (by rfl) ?_; dsimp only)); at_builtin; refine Kd.R_append_rows (Kd.int .u8) (w0 := w) w.heap.size rfl (.const (.slice none 0 0)) (.tmp 124) 22 5 (.int .u8 0) 1 rfl Tryd.underlying22 info5 rfl (by decide) (by omega) (.slice none 0 0) ([] : List Int) t273 _ _ _ (fun k_ => some k_ ≠ (.slice Ao13 t273.length co13 : Value).ownBlock) (fun _ => False) rfl rfl ?aO ?aR (fun _ _ h => h) (fun _ h => h.elim) ?aF ?aB ?aS ?aL ?_; (case aR => repeat (first | exact (Kd.R_reads' HO_7.out).2.2 | (with_reducible refine Kd.C_alloc ?_ _) | (with_reducible refine Kd.C_drewN ?_ _) | (with_reducible refine Kd.C_drew ?_))); (case aB => exact (by repeat (first | (with_reducible first | exact HB.out | apply below_alloc | apply pw_below_drewN | apply below_drew1) | exact HB.out))); (case aF => exact (fun k_ hk => Kd.fresh' (Kd.R_lt (by (with_reducible repeat (first | apply Kd.R_alloc | apply Kd.R_drewN | apply Kd.R_drew)); exact HO_7.out)) k_ hk)); (case aO => exact ((Kd.R_nil _ _ _ _ (fun k_ => some k_ ≠ (.slice Ao13 t273.length co13 : Value).ownBlock)))); (case aS => exact (below_size (by repeat (first | (with_reducible first | exact HB.out | apply below_alloc | apply pw_below_drewN | apply below_drew1) | exact HB.out)))); (case aL => have := LMc60.out; omega); intro v307 w80 ho hb hg hat; rw [← Ny306.out] at ho; have n0_ := Aside0.mk (Kd.R_after (Kd.R_apart_nil (by (with_reducible repeat (first | apply Kd.R_alloc | apply Kd.R_drewN | apply Kd.R_drew)); exact HO_7.out)) hg hat); have n1_ := Aside0.mk (hb); have n2_ := Aside0.mk ((show Kd.C (Kd.int .u8) w80 Ao13 y289.length y289 from by rw [Ny289.out]; exact Kd.C_take (m := (x1_23 : Int).toNat) ((Kd.R_reads' (Kd.R_after (Kd.R_apart_nil (by (with_reducible repeat (first | apply Kd.R_alloc | apply Kd.R_drewN | apply Kd.R_drew)); exact HO_7.out)) hg hat)).2.2) KL37.out)); have n3_ := Aside0.mk (ho); clear HO_7; clear HB; clear HR292; have HO_7 := n0_; have HB := n1_; have HR292 := n2_; have HO308 := n3_; clear n0_ n1_ n2_ n3_; clear ho hb hg hat) | ((with_reducible refine gate_builtin (b := .append) (xs := #[.tmp 125, .tmp 126]) rfl ?_); (try (refine gate_guard (by rfl) ?_; dsimp only)); at_builtin; refine Kd.R_append_rows (Kd.int .u8) (w0 := w) w.heap.size rfl (.tmp 125) (.tmp 126) 22 5 (.int .u8 0) 1 rfl Tryd.underlying22 info5 rfl (by decide) (by omega) v307 y306 l2 _ _ _ (fun k_ => some k_ ≠ (.slice Ao13 t273.length co13 : Value).ownBlock) (fun _ => False) rfl rfl ?aO ?aR (fun _ _ h => h) (fun _ h => h.elim) ?aF ?aB ?aS ?aL ?_; (case aR => repeat (first | exact (Kd.C_below HR2.out HB.out) | (with_reducible refine Kd.C_alloc ?_ _) | (with_reducible refine Kd.C_drewN ?_ _) | (with_reducible refine Kd.C_drew ?_))); (case aB => exact (by repeat (first | (with_reducible first | exact HB.out | apply below_alloc | apply pw_below_drewN | apply below_drew1) | exact HB.out))); (case aF => exact (fun k_ hk => Kd.fresh' (Kd.R_lt (by (with_reducible repeat (first | apply Kd.R_alloc | apply Kd.R_drewN | apply Kd.R_drew)); exact HO_7.out)) k_ hk)); (case aO => exact (by (with_reducible repeat (first | apply Kd.R_alloc | apply Kd.R_drewN | apply Kd.R_drew)); exact HO308.out)); (case aS => exact (below_size (by repeat (first | (with_reducible first | exact HB.out | apply below_alloc | apply pw_below_drewN | apply below_drew1) | exact HB.out)))); (case aL => have := LMc61.out; omega); intro v310 w81 ho hb hg hat; rw [← Ny309.out] at ho; have n0_ := Aside0.mk (Kd.R_after (ok := (fun _ => True)) (by (with_reducible repeat (first | apply Kd.R_alloc | apply Kd.R_drewN | apply Kd.R_drew)); exact HO_7.out) hg hat); have n1_ := Aside0.mk (hb); have n2_ := Aside0.mk ((show Kd.C (Kd.int .u8) w81 Ao13 y289.length y289 from by rw [Ny289.out]; exact Kd.C_take (m := (x1_23 : Int).toNat) ((Kd.R_reads' (Kd.R_after (ok := (fun _ => True)) (by (with_reducible repeat (first | apply Kd.R_alloc | apply Kd.R_drewN | apply Kd.R_drew)); exact HO_7.out) hg hat)).2.2) KL37.out)); have n3_ := Aside0.mk (ho); clear HO_7; clear HB; clear HR292; clear HO308; have HO_7 := n0_; have HB := n1_; have HR292 := n2_; have HO311 := n3_; clear n0_ n1_ n2_ n3_; clear ho hb hg hat; obtain ⟨Ao82, co82, eo82⟩ := Kd.R_slice HO311.out; subst eo82) | ((with_reducible refine gate_callee (f := 17) rfl ?_); refine goesL_ (some 128) rfl rfl Tryd.func17 (by kernel_rfl) rfl #[.slice Ao82 y309.length co82] rfl (by (try simp only [List.map_toArray, List.map_cons, List.map_nil]); first | done | rfl | (simp only [List.length_drop, List.length_take]; rfl)) ?_; (with_reducible refine (log_Read.calls _ _ y309 t312 t313 t314 _ ?side1 ?side2 A62.out ?side3).mono ?_); (case side1 => repeat (first | exact (Kd.R_reads' HO311.out).2.2 | (with_reducible refine Kd.C_alloc ?_ _) | (with_reducible refine Kd.C_drewN ?_ _) | (with_reducible refine Kd.C_drew ?_))); (case side2 => exact (Kd.R_reads' HO311.out).2.1); (case side3 => first | (with_reducible exact HT_.out) | exact GT.below HT_.out (by repeat (first | (with_reducible first | exact HB.out | apply below_alloc | apply pw_below_drewN | apply below_drew1) | exact HB.out))); rintro e w83 ⟨v315, rfl, ho0, hb⟩; refine ⟨_, rfl, ?_⟩; have n0_ := Aside0.mk (Kd.R_below (by (with_reducible repeat (first | apply Kd.R_alloc | apply Kd.R_drewN | apply Kd.R_drew)); exact HO_7.out) hb); have n1_ := Aside0.mk (Kd.R_below (by (with_reducible repeat (first | apply Kd.R_alloc | apply Kd.R_drewN | apply Kd.R_drew)); exact HO311.out) hb); have n2_ := Aside0.mk (Kd.S_lower (Kd.S_new' (Kd.S_new' ho0 (Kd.R_lt (by (with_reducible repeat (first | apply Kd.R_alloc | apply Kd.R_drewN | apply Kd.R_drew)); exact HO_7.out))) (Kd.R_lt (by (with_reducible repeat (first | apply Kd.R_alloc | apply Kd.R_drewN | apply Kd.R_drew)); exact HO311.out))) (below_size (by repeat (first | (with_reducible first | exact HB.out | apply below_alloc | apply pw_below_drewN | apply below_drew1) | exact HB.out)))); have n3_ := Aside0.mk (Kd.C_below (by repeat (first | (with_reducible exact HR292.out) | (with_reducible refine Kd.C_alloc ?_ _) | (with_reducible refine Kd.C_drewN ?_ _) | (with_reducible refine Kd.C_drew ?_) | exact HR292.out)) hb); have n4_ := Aside0.mk (below_step (by repeat (first | (with_reducible first | exact HB.out | apply below_alloc | apply pw_below_drewN | apply below_drew1) | exact HB.out)) hb); clear HO_7; clear HO311; clear HR292; clear HB; have HO_7 := n0_; have HO311 := n1_; have HO316 := n2_; have HR292 := n3_; have HB := n4_; clear n0_ n1_ n2_ n3_ n4_; (try clear hb); (try clear hb2); (try clear hk); (try clear hi); (try clear ho0); obtain ⟨Ao84, co84, eo84⟩ := Kd.S_slice HO316.out; subst eo84))
                                        go_ret
                                        exact ⟨by first | rfl | (simp [errW_none, errW_some] <;> rfl) | (simp [*, errW_none, errW_some] <;> rfl), by repeat (first | (with_reducible first | exact HB.out | apply below_alloc | apply pw_below_drewN | apply below_drew1) | exact HB.out)⟩
                                    · rw [if_neg c61] at H
                                      exact absurd H (by simp)
                                  · rw [if_neg c60] at H
                                    exact absurd H (by simp)
                          · rw [if_neg c34] at H
                            exact absurd H (by simp)
                        · rw [if_neg c33] at H
                          exact absurd H (by simp)
      · replace c8 := Bool.eq_false_iff.mpr c8
        subst c8
        have H1 : (some true) = some r := by rw [if_neg (show ¬ (false = true) by decide)] at H; exact H
        clear H
        have H := H1
        clear H1
        obtain rfl := Option.some.inj H
        go_enter Tryd.func6, Tryd.ntmps6
        go_wp2_with (first | ((with_reducible refine gate_callee (f := 20) rfl ?_); refine goesL_ (some 24) rfl rfl Tryd.func20 (by kernel_rfl) rfl #[] rfl (by (try simp only [List.map_toArray, List.map_cons, List.map_nil]); first | done | rfl | (simp only [List.length_drop, List.length_take]; rfl)) ?_; (with_reducible refine (screelaw7_known.calls k  true _ A5.out ?side1).mono ?_); (case side1 => first | (with_reducible exact HT_.out) | exact GT.below HT_.out (by repeat (first | (with_reducible first | exact HB.out | apply below_alloc | apply pw_below_drewN | apply below_drew1) | exact HB.out))); rintro e w85 ⟨rfl, hb⟩; refine ⟨_, rfl, ?_⟩; have n0_ := Aside0.mk (below_step (by repeat (first | (with_reducible first | exact HB.out | apply below_alloc | apply pw_below_drewN | apply below_drew1) | exact HB.out)) hb); clear HB; have HB := n0_; clear n0_; (try clear hb); (try clear hb2); (try clear hk); (try clear hi)) | ((with_reducible refine gate_callee (f := 21) rfl ?_); refine goesL_ (some 28) rfl rfl Tryd.func21 (by kernel_rfl) rfl #[.slice A0 l0.length c0] rfl (by (try simp only [List.map_toArray, List.map_cons, List.map_nil]); first | done | rfl | (simp only [List.length_drop, List.length_take]; rfl)) ?_; (with_reducible refine (screelaw7_laid.calls k _ _ l0 t273 t274 false _ ?side1 ?side2 A7.out ?side3).mono ?_); (case side1 => repeat (first | exact (Kd.C_below HR0.out HB.out) | (with_reducible refine Kd.C_alloc ?_ _) | (with_reducible refine Kd.C_drewN ?_ _) | (with_reducible refine Kd.C_drew ?_))); (case side2 => exact HC0.out); (case side3 => first | (with_reducible exact HT_.out) | exact GT.below HT_.out (by repeat (first | (with_reducible first | exact HB.out | apply below_alloc | apply pw_below_drewN | apply below_drew1) | exact HB.out))); rintro e w86 ⟨v276, v278, rfl, ho0, ho1, hb⟩; refine ⟨_, rfl, ?_⟩; have n0_ := Aside0.mk (Kd.R_lower ho0 (below_size (by repeat (first | (with_reducible first | exact HB.out | apply below_alloc | apply pw_below_drewN | apply below_drew1) | exact HB.out)))); have n1_ := Aside0.mk (Kd.R_lower ho1 (below_size (by repeat (first | (with_reducible first | exact HB.out | apply below_alloc | apply pw_below_drewN | apply below_drew1) | exact HB.out)))); have n2_ := Aside0.mk (below_step (by repeat (first | (with_reducible first | exact HB.out | apply below_alloc | apply pw_below_drewN | apply below_drew1) | exact HB.out)) hb); clear HB; have HO277 := n0_; have HO279 := n1_; have HB := n2_; clear n0_ n1_ n2_; (try clear hb); (try clear hb2); (try clear hk); (try clear hi); (try clear ho0); (try clear ho1)))
        go_ret
        exact ⟨by first | rfl | (simp [errW_none, errW_some] <;> rfl) | (simp [*, errW_none, errW_some] <;> rfl), by repeat (first | (with_reducible first | exact HB.out | apply below_alloc | apply pw_below_drewN | apply below_drew1) | exact HB.out)⟩
    · replace c6 := Bool.eq_false_iff.mpr c6
      subst c6
      have H1 : (some false) = some r := by rw [if_neg (show ¬ (false = true) by decide)] at H; exact H
      clear H
      have H := H1
      clear H1
      obtain rfl := Option.some.inj H
      go_enter Tryd.func6, Tryd.ntmps6
      go_wp2_with (first | ((with_reducible refine gate_callee (f := 20) rfl ?_); refine goesL_ (some 24) rfl rfl Tryd.func20 (by kernel_rfl) rfl #[] rfl (by (try simp only [List.map_toArray, List.map_cons, List.map_nil]); first | done | rfl | (simp only [List.length_drop, List.length_take]; rfl)) ?_; (with_reducible refine (screelaw7_known.calls k  false _ A5.out ?side1).mono ?_); (case side1 => first | (with_reducible exact HT_.out) | exact GT.below HT_.out (by repeat (first | (with_reducible first | exact HB.out | apply below_alloc | apply pw_below_drewN | apply below_drew1) | exact HB.out))); rintro e w87 ⟨rfl, hb⟩; refine ⟨_, rfl, ?_⟩; have n0_ := Aside0.mk (below_step (by repeat (first | (with_reducible first | exact HB.out | apply below_alloc | apply pw_below_drewN | apply below_drew1) | exact HB.out)) hb); clear HB; have HB := n0_; clear n0_; (try clear hb); (try clear hb2); (try clear hk); (try clear hi)))
      go_ret
      exact ⟨by first | rfl | (simp [errW_none, errW_some] <;> rfl) | (simp [*, errW_none, errW_some] <;> rfl), by repeat (first | (with_reducible first | exact HB.out | apply below_alloc | apply pw_below_drewN | apply below_drew1) | exact HB.out)⟩

end Go.Proofs.YtnamanalacjhnaaDoor.QBk
/- What was laid is read again: the printed law (this claim's own lemmas). -/
namespace Go.Proofs.YtnamanalacjhnaaDoor.Pu
open Go.RowKit Go.Proofs.YtnamanalacjhnaaDoorW.PrintWords Go.Proofs.YtnamanalacjhnaaDoor.Own Go.Proofs.YtnamanalacjhnaaDoor.U Go.Proofs.YtnamanalacjhnaaDoor.QBk
open Go.Proofs.YtnamanalacjhnaaDoor.Lg Go.Proofs.YtnamanalacjhnaaDoor.Lr
set_option linter.unusedVariables false
theorem rdR (l : List (List Int)) (i : Nat) (h : i < l.length) : rd_L1 l (i : Int) = l[i] := by simp [rd_L1, List.getD_eq_getElem?_getD, h]
theorem records_loop (l : List (List Int)) (hl : l.length ≤ 4294967290) (hr : ∀ r ∈ l, r.length ≤ 9223372036854775807) (d : Nat) : ∀ i : Nat, i + d = l.length → Ev (fun k => screelaw7_sameRecords.l0 k l l (i : Int)) true := by
  induction d with
  | zero =>
    intro i hi
    exact Ev.step (f := fun _ => some true) (fun k => by rw [screelaw7_sameRecords.l0, if_neg (by omega)]) (Ev.now _)
  | succ d ih =>
    intro i hi
    have hlt : i < l.length := by omega
    refine Ev.step (fun k => ?_) (ih (i + 1) (by omega))
    rw [screelaw7_sameRecords.l0, if_pos (show (i : Int) < (l.length : Int) by omega), if_pos (show (0 : Int) ≤ (i : Int) by omega), if_pos (show (i : Int) < (l.length : Int) by omega), rdR l i hlt, same_eq _ _ (hr _ (List.getElem_mem hlt)), Option.bind_some, decide_eq_true rfl, if_pos rfl, show wrap64 ((i : Int) + 1) = ((i + 1 : Nat) : Int) by unfold wrap64; omega]
theorem records_ev (l : List (List Int)) (hl : l.length ≤ 4294967290) (hr : ∀ r ∈ l, r.length ≤ 9223372036854775807) : Ev (fun k => screelaw7_sameRecords.f k l l) true :=
  Ev.congr (fun k => by unfold screelaw7_sameRecords.f; rw [if_pos rfl]; rfl) (records_loop l hl hr l.length 0 (by omega))
theorem layAll_bytes (rs : List (List Int)) : ∀ b : List Int, Bytes b → (∀ r ∈ rs, Bytes r) → Bytes (layAll b rs) := by
  induction rs with
  | nil => intro b h _; exact h
  | cons r rs ih => intro b h hr; exact ih _ (app_bytes h (append_bytes _ _ (hr r (by simp)))) (fun y hy => hr y (by simp [hy]))
theorem layAll_many (rs : List (List Int)) : ∀ b : List Int, b.length + 7 * rs.length ≤ (layAll b rs).length := by
  induction rs with
  | nil => intro b; simp [layAll]
  | cons r rs ih =>
    intro b
    have h1 := ih (b ++ appendL (b.length : Int) r)
    have h2 := append_pos b.length r
    rw [List.length_append] at h1
    rw [layAll, List.length_cons]
    omega
theorem append_len (at' : Int) (r : List Int) : (appendL at' r).length ≤ 8 * r.length + 519 := by
  unfold appendL
  simp only
  split
  · rw [List.length_append, List.length_replicate]
    have := pieces_len r.length true 0 r (Nat.le_refl _) (by omega)
    omega
  · have := pieces_len r.length true ((max at' 0).toNat % 512) r (Nat.le_refl _) (by omega)
    omega
/-- The ends of a log's records, as numbers. -/
def endsI (rs : List (List Int)) : List Int := (endsL [] rs).map fun n : Nat => (n : Int)
theorem endsL_len (rs : List (List Int)) : ∀ b : List Int, (endsL b rs).length = rs.length := by
  induction rs with
  | nil => intro b; rfl
  | cons r rs ih => intro b; rw [endsL, List.length_cons, List.length_cons, ih]
theorem endsL_get (rs : List (List Int)) : ∀ (b : List Int) (i : Nat) (h : i < rs.length), (endsL b rs)[i]? = some (layAll b (rs.take (i + 1))).length := by
  induction rs with
  | nil => intro b i h; simp at h
  | cons r rs ih =>
    intro b i h
    cases i with
    | zero => rfl
    | succ i =>
      rw [endsL, List.getElem?_cons_succ, ih _ i (by simpa using h), List.take_succ_cons]
      rfl
theorem take_snoc (rs : List (List Int)) (i : Nat) (h : i < rs.length) : rs.take (i + 1) = rs.take i ++ [rs[i]] := List.take_succ_eq_append_getElem h
/-- What 'laid' answers: the log and its ends, or none (it is too great). -/
theorem laid_loop (rs : List (List Int)) (hb : ∀ r ∈ rs, Bytes r) (d : Nat) : ∀ i : Nat, i + d = rs.length → i ≤ 20000 → (∀ r ∈ rs.take i, r.length ≤ 65536) → (layAll [] (rs.take i)).length ≤ 1000000 →
    (Ev (fun k => screelaw7_laid.l0 k rs (layAll [] (rs.take i)) (endsI (rs.take i)) (i : Int)) (([] : List Int), ([] : List Int), false)) ∨
    (Ev (fun k => screelaw7_laid.l0 k rs (layAll [] (rs.take i)) (endsI (rs.take i)) (i : Int)) (layAll [] rs, endsI rs, true) ∧ (layAll [] rs).length ≤ 1000000 ∧ rs.length ≤ 200000 ∧ ∀ r ∈ rs, r.length ≤ 65536) := by
  induction d with
  | zero =>
    intro i hi hsm hok hlen
    rw [List.take_of_length_le (by omega)] at hok hlen ⊢
    exact .inr ⟨Ev.step (f := fun _ => some (layAll [] rs, endsI rs, true)) (fun k => by rw [screelaw7_laid.l0, if_neg (by omega)]) (Ev.now _), hlen, by omega, hok⟩
  | succ d ih =>
    intro i hi hsm hok hlen
    have hlt : i < rs.length := by omega
    have hbt : Bytes (layAll [] (rs.take i)) := layAll_bytes _ _ (fun _ h => by cases h) (fun r hr => hb r (List.mem_of_mem_take hr))
    by_cases h1 : (layAll [] (rs.take i)).length > 65536
    · exact .inl (Ev.step (f := fun _ => some (([] : List Int), ([] : List Int), false)) (fun k => by rw [screelaw7_laid.l0, if_pos (by omega), if_pos (by omega)]) (Ev.now _))
    · by_cases h2 : rs[i].length > 65536
      · exact .inl (Ev.step (f := fun _ => some (([] : List Int), ([] : List Int), false)) (fun k => by rw [screelaw7_laid.l0, if_pos (by omega), if_neg (by omega), if_pos (by omega), rdR _ _ hlt, if_pos (by omega)]) (Ev.now _))
      · have hal := append_len ((layAll [] (rs.take i)).length : Int) rs[i]
        have hA := append_eq (layAll [] (rs.take i)).length rs[i] (hb _ (List.getElem_mem hlt)) (by omega) (by omega)
        have hsn := layAll_snoc (rs.take i) rs[i] []
        have hse := endsL_snoc (rs.take i) rs[i] []
        rw [← take_snoc rs i hlt] at hsn hse
        have hei : endsI (rs.take (i + 1)) = endsI (rs.take i) ++ [((layAll [] (rs.take (i + 1))).length : Int)] := by unfold endsI; rw [hse, List.map_append]; rfl
        have hmany := layAll_many (rs.take i) []
        rw [List.length_take, List.length_nil] at hmany
        have hle : (endsI (rs.take i)).length < 17592186044416 := by unfold endsI; rw [List.length_map, endsL_len, List.length_take]; omega
        have step : ∀ k, screelaw7_laid.l0 (k + 1) rs (layAll [] (rs.take i)) (endsI (rs.take i)) (i : Int) = screelaw7_laid.l0 k rs (layAll [] (rs.take (i + 1))) (endsI (rs.take (i + 1))) ((i + 1 : Nat) : Int) := fun k => by
          rw [screelaw7_laid.l0, if_pos (show (i : Int) < (rs.length : Int) by omega), if_neg (show ¬ ((layAll [] (rs.take i)).length : Int) > 65536 by omega), if_pos (show (0 : Int) ≤ (i : Int) by omega), rdR _ _ hlt, if_neg (show ¬ (rs[i].length : Int) > 65536 by omega), hA, Option.bind_some, if_pos (by omega), Option.bind_some, if_pos hle, ← hsn, hei, show wrap64 ((i : Int) + 1) = ((i + 1 : Nat) : Int) by unfold wrap64; omega]
        have hnext := ih (i + 1) (by omega) (by omega) (by
          rw [take_snoc rs i hlt]
          intro r hr
          rcases List.mem_append.1 hr with hr | hr
          · exact hok r hr
          · rw [List.mem_singleton.1 hr]; omega) (by rw [hsn, List.length_append]; omega)
        rcases hnext with hn | ⟨hn, hrest⟩
        · exact .inl (Ev.step step hn)
        · exact .inr ⟨Ev.step step hn, hrest⟩
theorem laid_ev (rs : List (List Int)) (hb : ∀ r ∈ rs, Bytes r) : (Ev (fun k => screelaw7_laid.f k rs) (([] : List Int), ([] : List Int), false)) ∨ (Ev (fun k => screelaw7_laid.f k rs) (layAll [] rs, endsI rs, true) ∧ (layAll [] rs).length ≤ 1000000 ∧ rs.length ≤ 200000 ∧ ∀ r ∈ rs, r.length ≤ 65536) := by
  have h := laid_loop rs hb rs.length 0 (by omega) (by omega) (fun r hr => by simp at hr) (by simp [layAll])
  exact h
theorem layAll_le (rs : List (List Int)) (b : List Int) (i j : Nat) (h : i ≤ j) : (layAll b (rs.take i)).length ≤ (layAll b (rs.take j)).length := by
  induction rs generalizing b i j with
  | nil => simp
  | cons r rs ih =>
    cases i with
    | zero =>
      obtain ⟨q, hq⟩ := layAll_pre ((r :: rs).take j) b
      rw [List.take_zero, hq, show layAll b [] = b from rfl, List.length_append]
      omega
    | succ i =>
      obtain ⟨j, rfl⟩ : ∃ m, j = m + 1 := ⟨j - 1, by omega⟩
      rw [List.take_succ_cons, List.take_succ_cons]
      exact ih _ i j (by omega)
theorem num_eqB (e : Int) : screelaw7_num.f e = some e := rfl
section
variable {rs : List (List Int)} {more : List Int} (hb : ∀ r ∈ rs, Bytes r) (hm : Bytes more) (hml : more.length ≤ 65536) (hlen : (layAll [] rs).length ≤ 1000000) (hrl : rs.length ≤ 200000) (hr : ∀ r ∈ rs, r.length ≤ 65536)
include hb hm hml hlen hrl hr
theorem back_end : Ev (fun k => screelaw7_LogBack.j4 k rs more (layAll [] rs) false) true := by
  have hlb : Bytes (layAll [] rs) := layAll_bytes _ _ (fun _ h => by cases h) hb
  obtain ⟨s, hs1, hs2⟩ := read_more rs more
  have hR := read_eq (layAll [] rs ++ more) (app_bytes hlb hm) (by rw [List.length_append]; omega)
  refine Ev.step (f := fun k => (screelaw7_sameRecords.f k rs rs).bind fun t321 => if t321 = true then (some (decide (((readL (layAll [] rs ++ more)).2.1 : Int) ≥ ((layAll [] rs).length : Int)))) else (some false)) (fun k => ?_) (Ev.bind (records_ev rs (by omega) (fun r h => by have := hr r h; omega)) (Ev.congr (fun k => by rw [if_pos rfl, decide_eq_true (by omega)]) (Ev.now true)))
  rw [screelaw7_LogBack.j4, if_neg (by decide), if_pos (by simp; omega), Option.bind_some, List.nil_append, if_pos (by omega), hR, Option.bind_some]
  dsimp only
  rw [hs1, if_pos (by rw [List.length_append]; omega), if_pos (by omega), if_pos (by rw [List.length_append]; omega), Int.toNat_natCast, List.take_left]
theorem back_cut (cut : Nat) (hc : cut ≤ (layAll [] rs).length) : Ev (fun k => screelaw7_LogBack.l0 k rs (cut : Int) more (layAll [] rs) (endsI rs) 0 0) true := by
  have hlb : Bytes (layAll [] rs) := layAll_bytes _ _ (fun _ h => by cases h) hb
  obtain ⟨n, hn, h1, h2, h3⟩ := readE_cut rs [] [] cut (by simp) hc
  rw [List.nil_append, List.length_nil] at h3
  have hR := read_eq ((layAll [] rs).take cut) (fun x hx => hlb x (List.mem_of_mem_take hx)) (by rw [List.length_take]; omega)
  rw [readL_eq, h3] at hR
  have hend := back_end hb hm hml hlen hrl hr
  have hj3 : Ev (fun k => screelaw7_LogBack.j3 k rs (cut : Int) more (layAll [] rs) (n : Int) ((layAll [] (rs.take n)).length : Int)) true := by
    obtain ⟨L, hL⟩ : ∃ L, L = (layAll [] (rs.take n)).length := ⟨_, rfl⟩
    rw [← hL] at h1 hR ⊢
    have hsame := records_ev (rs.take n) (by rw [List.length_take]; omega) (fun r h => by have := hr r (List.mem_of_mem_take h); omega)
    have hstep : ∀ k, screelaw7_LogBack.j3 (k + 1) rs (cut : Int) more (layAll [] rs) (n : Int) (L : Int) = (screelaw7_sameRecords.f k (rs.take n) (rs.take n)).bind fun t302 => if t302 = true then screelaw7_LogBack.j4 k rs more (layAll [] rs) false else screelaw7_LogBack.j4 k rs more (layAll [] rs) true := fun k => by
      rw [screelaw7_LogBack.j3, if_pos (show (0 : Int) ≤ (cut : Int) by omega), if_pos (show (cut : Int) ≤ ((layAll [] rs).length : Int) by omega), Int.toNat_natCast, hR, Option.bind_some]
      dsimp only
      rw [if_pos (show (0 : Int) ≤ (n : Int) by omega), if_pos (show (n : Int) ≤ (rs.length : Int) by omega), Int.toNat_natCast, if_pos rfl]
      congr 1
      funext t
      congr 1
      simp only [num_eqB, Option.bind_some]
      by_cases he : L = cut
      · subst he
        rw [if_pos rfl, if_neg (by simp), if_pos rfl]
      · rw [if_neg he, if_neg (by
          have : ((L : Int) == (cut : Int)) = false := by rw [beq_eq_false_iff_ne]; omega
          rw [this]
          decide), if_neg (by decide)]
        rfl
    exact Ev.step hstep (Ev.bind hsame (Ev.congr (fun k => by rw [if_pos rfl]) hend))
  have hei : ∀ i, i < rs.length → rd (endsI rs) (i : Int) = ((layAll [] (rs.take (i + 1))).length : Int) := fun i hi => by
    have := endsL_get rs [] i hi
    simp only [rd, endsI, Int.toNat_natCast, List.getD_eq_getElem?_getD, List.getElem?_map, this, Option.map_some, Option.getD_some]
  have hel : (endsI rs).length = rs.length := by unfold endsI; rw [List.length_map, endsL_len]
  have hloop : ∀ d i : Nat, i + d = n → Ev (fun k => screelaw7_LogBack.l0 k rs (cut : Int) more (layAll [] rs) (endsI rs) (i : Int) ((layAll [] (rs.take i)).length : Int)) true := by
    intro d
    induction d with
    | zero =>
      intro i hi
      obtain rfl : i = n := by omega
      refine Ev.step (fun k => ?_) hj3
      by_cases hlt : i < rs.length
      · have hgt := h2 (i + 1) (by omega) (by omega)
        rw [screelaw7_LogBack.l0, hel, if_pos (by omega), if_pos (by omega), hei i hlt, if_neg (by omega)]
      · rw [screelaw7_LogBack.l0, hel, if_neg (by omega)]
    | succ d ih =>
      intro i hi
      have hlt : i < rs.length := by omega
      have hle := layAll_le rs [] (i + 1) n (by omega)
      refine Ev.step (fun k => ?_) (ih (i + 1) (by omega))
      rw [screelaw7_LogBack.l0, hel, if_pos (by omega), if_pos (by omega), hei i hlt, if_pos (by omega), show wrap64 ((i : Int) + 1) = ((i + 1 : Nat) : Int) by unfold wrap64; omega]
  exact hloop n 0 (by omega)
end
/-- LogBack is true. -/
theorem back_ev (rs : List (List Int)) (a : Int) (more : List Int) (hb : ∀ r ∈ rs, Bytes r) (hm : Bytes more) (ha0 : -9223372036854775808 ≤ a) (ha : a ≤ 9223372036854775807) : Ev (fun k => screelaw7_LogBack.f k rs a more) true := by
  unfold screelaw7_LogBack.f
  by_cases hml : (more.length : Int) > 65536
  · exact Ev.congr (fun k => by rw [if_pos hml]) (Ev.now true)
  · rcases laid_ev rs hb with hl | ⟨hl, hlen, hrl, hr⟩
    · refine Ev.congr (f := fun k => (screelaw7_known.f k).bind fun t272 => if t272 = true then ((screelaw7_laid.f k rs).bind _) else some false) (fun k => by rw [if_neg hml]) (Ev.bind known_ev (Ev.congr (f := fun k => (screelaw7_laid.f k rs).bind _) (fun k => by rw [if_pos rfl]) (Ev.bind hl (Ev.congr (fun k => by dsimp only; rw [if_neg (by decide)]) (Ev.now true)))))
    · have hlb : Bytes (layAll [] rs) := layAll_bytes _ _ (fun _ h => by cases h) hb
      have hR := read_eq (layAll [] rs) hlb (by omega)
      rw [read_back rs] at hR
      have hsame := records_ev rs (by omega) (fun r h => by have := hr r h; omega)
      refine Ev.congr (f := fun k => (screelaw7_known.f k).bind fun t272 => if t272 = true then ((screelaw7_laid.f k rs).bind _) else some false) (fun k => by rw [if_neg hml]) (Ev.bind known_ev (Ev.congr (f := fun k => (screelaw7_laid.f k rs).bind _) (fun k => by rw [if_pos rfl]) (Ev.bind hl ?_)))
      refine Ev.congr (f := fun k => (screelaw7_sameRecords.f k rs rs).bind fun t285 => if t285 = true then screelaw7_LogBack.j0 k rs a more (layAll [] rs) (endsI rs) false else screelaw7_LogBack.j0 k rs a more (layAll [] rs) (endsI rs) true) (fun k => ?_) (Ev.bind hsame (Ev.congr (f := fun k => screelaw7_LogBack.j0 k rs a more (layAll [] rs) (endsI rs) false) (fun k => by rw [if_pos rfl]) ?_))
      · dsimp only
        rw [if_pos rfl, hR, Option.bind_some]
        dsimp only
        rw [if_pos rfl]
        simp only [num_eqB, Option.bind_some]
        rfl
      · obtain ⟨m, hm'⟩ : ∃ m : Nat, m = (layAll [] rs).length := ⟨_, rfl⟩
        have hw : wrap64 (((layAll [] rs).length : Int) + 1) = ((m + 1 : Nat) : Int) := by rw [hm']; unfold wrap64; omega
        have hcut : ∀ c : Nat, c ≤ m → Ev (fun k => screelaw7_LogBack.j1 k rs (c : Int) more (layAll [] rs) (endsI rs)) true := fun c hc => Ev.step (fun k => by rw [screelaw7_LogBack.j1]) (back_cut hb hm (by omega) hlen hrl hr c (by omega))
        have htm := Int.tmod_lt_of_pos a (show (0 : Int) < ((m + 1 : Nat) : Int) by omega)
        have htl : -((m + 1 : Nat) : Int) < Int.tmod a ((m + 1 : Nat) : Int) := by
          have h1 := Int.tmod_lt_of_pos (-a) (show (0 : Int) < ((m + 1 : Nat) : Int) by omega)
          rw [Int.neg_tmod] at h1
          omega
        by_cases hneg : Int.tmod a ((m + 1 : Nat) : Int) < 0
        · obtain ⟨c, hc⟩ : ∃ c : Nat, Int.tmod a ((m + 1 : Nat) : Int) + (m : Int) + 1 = (c : Int) := ⟨(Int.tmod a ((m + 1 : Nat) : Int) + (m : Int) + 1).toNat, by omega⟩
          refine Ev.step (fun k => ?_) (hcut c (by omega))
          rw [screelaw7_LogBack.j0, if_neg (by decide), hw, if_neg (by omega), if_pos hneg, ← hm', show wrap64 (wrap64 (Int.tmod a ((m + 1 : Nat) : Int) + (m : Int)) + 1) = (c : Int) by unfold wrap64; omega]
        · obtain ⟨c, hc⟩ : ∃ c : Nat, Int.tmod a ((m + 1 : Nat) : Int) = (c : Int) := ⟨(Int.tmod a ((m + 1 : Nat) : Int)).toNat, by omega⟩
          refine Ev.step (fun k => ?_) (hcut c (by omega))
          rw [screelaw7_LogBack.j0, if_neg (by decide), hw, if_neg (by omega), if_neg hneg, hc]
end Go.Proofs.YtnamanalacjhnaaDoor.Pu
/- What the bound on bulk gives (this claim's own copy of the small lemmas). -/
namespace Go.Proofs.YtnamanalacjhnaaDoor
open Go.ChangeShapes Go.WideShapes Go.ChangeAt Go.RowKit
theorem part_one {H : Type} (d : DataW H) : 1 ≤ Rows.uptoBulk d := by
  cases d with
  | lit l => cases l <;> simp [Rows.uptoBulk]
  | nil => simp [Rows.uptoBulk]
  | ptr d => simp [Rows.uptoBulk]
  | slice elems spare => simp [Rows.uptoBulk]
  | agg parts => simp [Rows.uptoBulk]
  | iface t d => simp [Rows.uptoBulk]
  | map entries => simp [Rows.uptoBulk]
  | held h => simp [Rows.uptoBulk]
theorem part_le {H : Type} {d : DataW H} {l : List (DataW H)} (h : d ∈ l) : Rows.uptoBulk d ≤ Rows.uptoBulkAll l := by
  induction l with
  | nil => cases h
  | cons x r ih =>
    simp only [Rows.uptoBulkAll]
    cases List.mem_cons.1 h with
    | inl e => subst e; omega
    | inr e => have := ih e; omega
theorem length_bulk {H : Type} (l : List (DataW H)) : l.length ≤ Rows.uptoBulkAll l := by
  induction l with
  | nil => simp [Rows.uptoBulkAll]
  | cons x r ih => have := part_one x; simp only [Rows.uptoBulkAll, List.length_cons]; omega
theorem slice_bulk {H : Type} (elems spare : List (DataW H)) : elems.length ≤ Rows.uptoBulk (.slice elems spare) := by
  have h1 := length_bulk elems
  simp only [Rows.uptoBulk]
  omega
theorem bound {H : Type} {l : List (DataW H)} (hk : Rows.uptoSmall H l = true) : Rows.uptoBulkAll l ≤ 1048576 := of_decide_eq_true hk
theorem string_bulk {H : Type} (bytes : List UInt8) : bytes.length ≤ Rows.uptoBulk (DataW.lit (H := H) (.string bytes)) := by
  simp [Rows.uptoBulk]
theorem bulk_row {H : Type} {d : DataW H} {p r : List MemPlace} {len cap : Nat} {zs : List Int} {k : IntKind} (hx : (d, p) = (DataW.slice (lits k (zs.take len)) (lits k (zs.drop len)), r)) (hz : zs.length = cap) (hl : len ≤ cap) : len ≤ Rows.uptoBulk d := by
  obtain ⟨rfl, _⟩ := Prod.mk.inj hx
  have := slice_bulk (H := H) (lits k (zs.take len)) (lits k (zs.drop len))
  have hl2 : (lits (H := H) k (zs.take len)).length = len := by simp [lits]; omega
  rw [hl2] at this
  exact this
end Go.Proofs.YtnamanalacjhnaaDoor
/- Arguments that are lists, of lists or of structs, opened (this claim's own lemmas). -/
namespace Go.Proofs.YtnamanalacjhnaaDoor
namespace Opn
open Go.ChangeShapes Go.WideShapes Go.ChangeAt Go.RowKit Go.Deep
open YtnamanalacjhnaaDoorW.PrintWords
set_option linter.unusedVariables false
/-- The values of a type that came in, read as kind d: what holds of them; how much they bulk. -/
def Opens {H : Type} (enc : TypeId × Value → H) (P : Program) (W : World) (e : TypeId) {α : Type} (d : Kd α) (G : α → Prop) (wt : α → Nat) : Prop :=
  ∀ (base : Nat) (held : Bool) (fuel : Nat) (cs : List Value) (x : DataW H × List MemPlace), DataW.trod enc P W base (fun _ => true) held fuel e cs = some x → (∀ n ∈ x.1.weights P e, n ≤ 140737488351232) → ∃ v, d.K W v cs ∧ G v ∧ wt v ≤ Rows.uptoBulk x.1
section
variable {H : Type} {enc : TypeId × Value → H} {P : Program} {W : World} {t e : TypeId}
theorem opens_int {k : IntKind} (he : P.underlying e = some (.int k)) : Opens enc P W e (Kd.int k) (fun n => (Lit.int k n).wf = true) (fun _ => 1) := by
  intro base held fuel cs x h hw
  obtain ⟨n, rfl, rfl, hwf⟩ := DataW.trod_int he h
  exact ⟨n, rfl, hwf, by simp [Rows.uptoBulk]⟩
theorem opens_bool (he : P.underlying e = some .bool) : Opens enc P W e Kd.bool (fun _ => True) (fun _ => 1) := by
  intro base held fuel cs x h hw
  obtain ⟨n, rfl, rfl⟩ := DataW.trod_bool he h
  exact ⟨n, rfl, trivial, by simp [Rows.uptoBulk]⟩
theorem opens_str (he : P.underlying e = some .string) : Opens enc P W e Kd.string (fun s => s.size ≤ 140737488351232) (fun s => s.size + 1) := by
  intro base held fuel cs x h hw
  obtain ⟨s, rfl, rfl, hm⟩ := DataW.trod_string he h
  have hl : s.data.toList.length = s.size := Array.length_toList
  refine ⟨s, rfl, ?_, by simp only [Rows.uptoBulk, hl]; exact Nat.le_refl _⟩
  have := hw s.data.toList.length (by simp [DataW.weights])
  rw [hl] at this
  exact this
theorem list_of {α : Type} (n : Nat) (Q : Nat → α → Prop) (h : ∀ i, i < n → ∃ v, Q i v) : ∃ l : List α, l.length = n ∧ ∀ i v, l[i]? = some v → Q i v := by
  induction n with
  | zero => exact ⟨[], rfl, fun i v hv => by simp at hv⟩
  | succ n ih =>
    obtain ⟨l, hl, hq⟩ := ih (fun i hi => h i (by omega))
    obtain ⟨v, hv⟩ := h n (by omega)
    refine ⟨l ++ [v], by simp [hl], fun i u hu => ?_⟩
    by_cases hi : i < l.length
    · rw [List.getElem?_append_left hi] at hu
      exact hq i u hu
    · rw [List.getElem?_append_right (by omega)] at hu
      have h0 : i - l.length = 0 := by
        have := (List.getElem?_eq_some_iff.1 hu).1
        simp at this
        omega
      rw [h0] at hu
      simp at hu
      have hin : i = n := by omega
      subst hu
      subst hin
      exact hv
theorem bulk_all (l : List (DataW H)) : Rows.uptoBulkAll l = (l.map Rows.uptoBulk).sum := by
  induction l with
  | nil => simp [Rows.uptoBulkAll]
  | cons d l ih => simp [Rows.uptoBulkAll, ih]
theorem weights_all {d : DataW H} {l : List (DataW H)} (hd : d ∈ l) : ∀ n ∈ d.weights P e, n ∈ DataW.weightsAll P e l := by
  induction l with
  | nil => cases hd
  | cons y l ih =>
    intro n hn
    simp only [DataW.weightsAll, List.mem_append]
    rcases List.mem_cons.1 hd with rfl | hd
    · exact .inl hn
    · exact .inr (ih hd n hn)
theorem sum_bulk {α : Type} (wt : α → Nat) (l : List α) : ∀ (D : Nat → DataW H) (o : Nat), (∀ i v, l[i]? = some v → wt v ≤ Rows.uptoBulk (D (o + i))) → (l.map wt).sum ≤ (((List.range l.length).map fun i => D (o + i)).map Rows.uptoBulk).sum := by
  induction l with
  | nil => intro D o h; simp
  | cons x l ih =>
    intro D o h
    have h0 := h 0 x rfl
    have h1 := ih D (o + 1) (fun i v hv => by rw [Nat.add_assoc, Nat.add_comm 1]; exact h (i + 1) v (by simpa using hv))
    simp only [List.map_cons, List.sum_cons, List.length_cons, List.range_succ_eq_map, List.map_map]
    simp only [List.map_map] at h1
    have e : (Rows.uptoBulk ∘ (fun i => D (o + i)) ∘ Nat.succ) = (Rows.uptoBulk ∘ fun i => D (o + 1 + i)) := by
      funext i
      simp only [Function.comp]
      rw [show o + i.succ = o + 1 + i by omega]
    rw [e]
    simp only [Nat.add_zero] at h0 ⊢
    omega
theorem opens_slice {α : Type} {d : Kd α} {G : α → Prop} {wt : α → Nat} (ht : P.underlying t = some (.slice e)) (hc : P.cellsOf e = d.sz) (h : Opens enc P W e d G wt) :
    Opens enc P W t (Kd.slice e d) (fun l => l.length * P.bytesOf e ≤ 140737488351232 ∧ ∀ x ∈ l, G x) (fun l => (l.map wt).sum + 1) := by
  intro base held fuel cs x hx hw
  rcases open_slice ht hx with ⟨rfl, rfl⟩ | ⟨a, len, cap, m, n, D, Pl, rfl, hb, hl, hm, hmm, rfl, hi⟩
  · exact ⟨[], ⟨none, 0, rfl, Nat.le_refl _, Kd.C_nil _ _⟩, ⟨by simp, fun x hx => by cases hx⟩, by simp [Rows.uptoBulk]⟩
  · simp only [if_true] at hmm
    subst hmm
    have hwe : ∀ i, i < m → ∀ q ∈ (D i).weights P e, q ≤ 140737488351232 := by
      intro i him q hq
      refine hw q ?_
      simp only [DataW.weights, ht, List.mem_cons, List.mem_append]
      right
      by_cases hil : i < len
      · exact .inl (weights_all (List.mem_map.2 ⟨i, List.mem_range.2 hil, rfl⟩) q hq)
      · exact .inr (weights_all (List.mem_map.2 ⟨i - len, List.mem_range.2 (by omega), by rw [show len + (i - len) = i by omega]⟩) q hq)
    obtain ⟨l, hll, hq⟩ := list_of len (fun i v => ∃ cs', W.cells? base (a.add (i * P.cellsOf e)) (P.cellsOf e) = some cs' ∧ d.K W v cs' ∧ G v ∧ wt v ≤ Rows.uptoBulk (D i)) (fun i hil => by
      obtain ⟨cs', h1, h2⟩ := hi i (by omega)
      obtain ⟨v, k1, k2, k3⟩ := h base held n cs' (D i, Pl i) h2 (hwe i (by omega))
      exact ⟨v, cs', h1, k1, k2, k3⟩)
    refine ⟨l, ⟨some a, m, by rw [hll], by omega, rfl, by unfold maxLen at hm; omega, fun h0 => ⟨a, rfl, fun j p hp => ?_⟩⟩, ⟨?_, fun v hv => ?_⟩, ?_⟩
    · obtain ⟨cs', h1, k1, k2, k3⟩ := hq j p hp
      obtain ⟨_, hcl, hat⟩ := World.cells?_some h1
      rw [hc] at hcl hat
      refine ⟨cs', hcl, k1, fun i u hu => ?_⟩
      have hil : i < d.sz := by rw [← hcl]; exact (List.getElem?_eq_some_iff.1 hu).1
      have := hat i hil
      rw [hu, Go.Deep.add_add] at this
      exact this
    · have := hw ((len + (m - len)) * P.bytesOf e) (by simp [DataW.weights, ht])
      rw [hll]
      refine Nat.le_trans (Nat.mul_le_mul_right _ ?_) this
      omega
    · obtain ⟨i, hiv⟩ := List.getElem?_of_mem hv
      obtain ⟨cs', h1, k1, k2, k3⟩ := hq i v hiv
      exact k2
    · have hs := sum_bulk wt l D 0 (fun i v hv => by
        obtain ⟨cs', h1, k1, k2, k3⟩ := hq i v hv
        rw [Nat.zero_add]
        exact k3)
      simp only [Nat.zero_add] at hs
      rw [hll] at hs
      have e0 : (fun i => D i) = D := rfl
      rw [e0] at hs
      simp only [Rows.uptoBulk, bulk_all]
      omega
theorem field_at {fs : Array Field} {cs : List Value} (hone : oneCellFields P fs = true) (hcl : cs.length = fs.size) {xs : List (DataW H × List MemPlace)} {n base : Nat} {held : Bool}
    (hf : ∀ (i : Nat) (f : Field), fs[i]? = some f → DataW.trod enc P W base (fun _ => true) held n f.type ((cs.drop f.offset).take (P.cellsOf f.type)) = xs[i]?) (j : Nat) (f : Field) (hj : fs[j]? = some f) : ∃ v, cs[j]? = some v ∧ DataW.trod enc P W base (fun _ => true) held n f.type [v] = xs[j]? := by
  obtain ⟨ho, hk⟩ := hone_of hone j f hj
  have hjl : j < cs.length := by rw [hcl]; exact (Array.getElem?_eq_some_iff.1 hj).1
  have h1 := hf j f hj
  rw [ho, hk, List.drop_eq_getElem_cons hjl] at h1
  exact ⟨cs[j], List.getElem?_eq_getElem hjl, h1⟩
theorem each_mem {ts : List TypeId} {ds : List (DataW H)} {j : Nat} {u : TypeId} {d : DataW H} (ht : ts[j]? = some u) (hd : ds[j]? = some d) (hw : ∀ n ∈ DataW.weightsEach P ts ds, n ≤ 140737488351232) : ∀ n ∈ d.weights P u, n ≤ 140737488351232 := fun n hn => hw n (DataW.weights_mem_each ht hd n hn)
/-- A struct of a text, a bool, a text. -/
theorem opens_sbs {α : Type} {d : Kd α} {f0 f1 f2 : Field} {mk : ByteArray → Bool → ByteArray → α} {G : α → Prop} {wt : α → Nat} (ht : P.underlying t = some (.struct #[f0, f1, f2])) (hone : oneCellFields P #[f0, f1, f2] = true) (hC : P.cellsOf t = 3)
    (h0 : P.underlying f0.type = some .string) (h1 : P.underlying f1.type = some .bool) (h2 : P.underlying f2.type = some .string) (hK : ∀ a b c, d.K W (mk a b c) [.string a, .bool b, .string c])
    (hG : ∀ a b c, a.size ≤ 140737488351232 → c.size ≤ 140737488351232 → G (mk a b c)) (hwt : ∀ a b c, wt (mk a b c) ≤ a.size + c.size + 4) : Opens enc P W t d G wt := by
  intro base held fuel cs x hx hw
  obtain ⟨xs, n, _, rfl, hcl, hxl, hf⟩ := DataW.trod_struct ht hx
  rw [hC] at hcl
  obtain ⟨v0, e0, g0⟩ := field_at hone hcl hf 0 f0 rfl
  obtain ⟨v1, e1, g1⟩ := field_at hone hcl hf 1 f1 rfl
  obtain ⟨v2, e2, g2⟩ := field_at hone hcl hf 2 f2 rfl
  have hxl' : xs.length = 3 := hxl
  match xs, hxl' with
  | [y0, y1, y2], _ =>
    match cs, hcl with
    | [c0, c1, c2], _ =>
      simp only [List.getElem?_cons_zero, List.getElem?_cons_succ, Option.some.injEq] at e0 e1 e2 g0 g1 g2
      subst e0 e1 e2
      simp only [List.map_cons, List.map_nil, DataW.weights, ht] at hw
      have w0 := each_mem (P := P) (j := 0) (ts := [f0.type, f1.type, f2.type]) (ds := [y0.1, y1.1, y2.1]) rfl rfl hw
      have w2 := each_mem (P := P) (j := 2) (ts := [f0.type, f1.type, f2.type]) (ds := [y0.1, y1.1, y2.1]) rfl rfl hw
      obtain ⟨s0, hk0, q0, b0⟩ := opens_str h0 base held n [c0] y0 g0 w0
      obtain ⟨s1, hk1, q1, b1⟩ := opens_bool h1 base held n [c1] y1 g1 (fun n hn => by
        obtain ⟨b, _, hy⟩ := DataW.trod_bool h1 g1
        rw [hy] at hn
        simp [DataW.weights] at hn)
      obtain ⟨s2, hk2, q2, b2⟩ := opens_str h2 base held n [c2] y2 g2 w2
      have k0 : c0 = .string s0 := List.cons.inj hk0 |>.1
      have k1 : c1 = .bool s1 := List.cons.inj hk1 |>.1
      have k2 : c2 = .string s2 := List.cons.inj hk2 |>.1
      subst k0 k1 k2
      refine ⟨mk s0 s1 s2, hK _ _ _, hG _ _ _ q0 q2, ?_⟩
      have := hwt s0 s1 s2
      dsimp only at b0 b1 b2
      simp only [List.map_cons, List.map_nil, Rows.uptoBulk, Rows.uptoBulkAll]
      omega
/-- A slice that is an argument. -/
theorem slice_arg {α : Type} {d : Kd α} {G : List α → Prop} {wt : List α → Nat} {base : Nat} {held : Bool} {a : Option Addr} {len cap : Nat} {da : DataW H} {ps : List MemPlace} {ts : List TypeId} {ds : List (DataW H)} {j : Nat} (ho : Opens enc P W t (Kd.slice e d) G wt)
    (hsz : (DataW.weightsEach P ts ds).all (· ≤ reachBytes) = true) (hts : ts[j]? = some t) (hds : ds[j]? = some da) (h : DataW.Trod enc P W base (fun _ => true) held t (.slice a len cap) da ps) :
    ∃ l : List α, len = l.length ∧ d.C W a l.length l ∧ l.length ≤ cap ∧ G l ∧ wt l ≤ Rows.uptoBulk da := by
  obtain ⟨fuel, hf⟩ := h
  obtain ⟨l, ⟨A, c, he, hlc, hC⟩, hg, hb⟩ := ho base held fuel _ _ hf (fun n hn => by
    exact of_decide_eq_true (List.all_eq_true.1 hsz n (DataW.weights_mem_each hts hds n hn)))
  simp only [Value.cells, List.cons.injEq, and_true, Value.slice.injEq] at he
  obtain ⟨rfl, rfl, rfl⟩ := he
  exact ⟨l, rfl, hC, hlc, hg, hb⟩
end
end Opn
end Go.Proofs.YtnamanalacjhnaaDoor
/- Groups of batches, and lists of bytes, that came in (this claim's own lemmas). -/
namespace Go.Proofs.YtnamanalacjhnaaDoor
namespace Opn
open Go.ChangeShapes Go.WideShapes Go.ChangeAt Go.RowKit
open YtnamanalacjhnaaDoorW.PrintWords
set_option linter.unusedVariables false
section
variable {H : Type} {enc : TypeId × Value → H} {W : World}
abbrev Wr := QBk.S67
abbrev kW : Kd Wr := QBk.k67
def wtW (x : Wr) : Nat := x.f0.size + x.f2.size + 4
def wtB (l : List Wr) : Nat := (l.map wtW).sum + 1
def wtG (g : List (List Wr)) : Nat := (g.map wtB).sum + 1
def GW (x : Wr) : Prop := x.f0.size ≤ 140737488351232 ∧ x.f2.size ≤ 140737488351232
theorem opens_write : Opens enc Tryd.prog W 67 kW GW wtW :=
  opens_sbs (mk := fun a b c => ⟨a, b, c⟩) Tryd.underlying67 (by kernel_rfl) (by kernel_rfl) Tryd.underlying9 Tryd.underlying4 Tryd.underlying9 (fun a b c => QBk.k67_mk W ⟨a, b, c⟩) (fun a b c h0 h2 => ⟨h0, h2⟩) (fun a b c => by show a.size + c.size + 4 ≤ _; omega)
theorem opens_writes : Opens enc Tryd.prog W 65 (Kd.slice 67 kW) (fun l => l.length * Tryd.prog.bytesOf 67 ≤ 140737488351232 ∧ ∀ x ∈ l, GW x) wtB := opens_slice Tryd.underlying65 (by kernel_rfl) opens_write
theorem opens_groups : Opens enc Tryd.prog W 31 (Kd.slice 65 (Kd.slice 67 kW)) (fun g => g.length * Tryd.prog.bytesOf 65 ≤ 140737488351232 ∧ ∀ l ∈ g, l.length * Tryd.prog.bytesOf 67 ≤ 140737488351232 ∧ ∀ x ∈ l, GW x) wtG := opens_slice Tryd.underlying31 (by kernel_rfl) opens_writes
theorem bytesW : Tryd.prog.bytesOf 67 = 40 := by kernel_rfl
theorem bytesWs : Tryd.prog.bytesOf 65 = 24 := by kernel_rfl
def GG (g : List (List Wr)) : Prop := g.length ≤ 140737488351232 ∧ (∀ l ∈ g, l.length ≤ 140737488351232) ∧ ∀ l ∈ g, ∀ x ∈ l, GW x
theorem groups_arg {base : Nat} {held : Bool} {a : Option Addr} {len cap : Nat} {da : DataW H} {ps : List MemPlace} {ts : List TypeId} {ds : List (DataW H)} {j : Nat}
    (hsz : (DataW.weightsEach Tryd.prog ts ds).all (· ≤ reachBytes) = true) (hts : ts[j]? = some 31) (hds : ds[j]? = some da) (h : DataW.Trod enc Tryd.prog W base (fun _ => true) held 31 (.slice a len cap) da ps) :
    ∃ l : List (List Wr), len = l.length ∧ (Kd.slice 67 kW).C W a l.length l ∧ l.length ≤ cap ∧ GG l ∧ wtG l ≤ Rows.uptoBulk da := by
  obtain ⟨l, h1, h2, h3, ⟨h4, h5⟩, h6⟩ := slice_arg opens_groups hsz hts hds h
  rw [bytesWs] at h4
  refine ⟨l, h1, h2, h3, ⟨by omega, fun r hr => ?_, fun r hr => (h5 r hr).2⟩, h6⟩
  have := (h5 r hr).1
  rw [bytesW] at this
  omega
def wtR (l : List Int) : Nat := (l.map fun _ => 1).sum + 1
def wtRs (g : List (List Int)) : Nat := (g.map wtR).sum + 1
theorem opens_bytes : Opens enc Tryd.prog W 22 (Kd.slice 5 (Kd.int .u8)) (fun l => l.length * Tryd.prog.bytesOf 5 ≤ 140737488351232 ∧ ∀ x ∈ l, (Lit.int .u8 x).wf = true) wtR := opens_slice Tryd.underlying22 (by kernel_rfl) (opens_int Tryd.underlying5)
theorem opens_chunks : Opens enc Tryd.prog W 24 (Kd.slice 22 (Kd.slice 5 (Kd.int .u8))) (fun g => g.length * Tryd.prog.bytesOf 22 ≤ 140737488351232 ∧ ∀ l ∈ g, l.length * Tryd.prog.bytesOf 5 ≤ 140737488351232 ∧ ∀ x ∈ l, (Lit.int .u8 x).wf = true) wtRs := opens_slice Tryd.underlying24 (by kernel_rfl) opens_bytes
theorem bytesU : Tryd.prog.bytesOf 5 = 1 := by kernel_rfl
theorem bytesUs : Tryd.prog.bytesOf 22 = 24 := by kernel_rfl
def GR (g : List (List Int)) : Prop := g.length ≤ 5864062014634 ∧ (∀ l ∈ g, l.length ≤ 140737488351232) ∧ ∀ l ∈ g, ∀ x ∈ l, (Lit.int .u8 x).wf = true
theorem chunks_arg {base : Nat} {held : Bool} {a : Option Addr} {len cap : Nat} {da : DataW H} {ps : List MemPlace} {ts : List TypeId} {ds : List (DataW H)} {j : Nat}
    (hsz : (DataW.weightsEach Tryd.prog ts ds).all (· ≤ reachBytes) = true) (hts : ts[j]? = some 24) (hds : ds[j]? = some da) (h : DataW.Trod enc Tryd.prog W base (fun _ => true) held 24 (.slice a len cap) da ps) :
    ∃ l : List (List Int), len = l.length ∧ (Kd.slice 5 (Kd.int .u8)).C W a l.length l ∧ l.length ≤ cap ∧ GR l ∧ wtRs l ≤ Rows.uptoBulk da := by
  obtain ⟨l, h1, h2, h3, ⟨h4, h5⟩, h6⟩ := slice_arg opens_chunks hsz hts hds h
  rw [bytesUs] at h4
  refine ⟨l, h1, h2, h3, ⟨by omega, fun r hr => ?_, fun r hr => (h5 r hr).2⟩, h6⟩
  have := (h5 r hr).1
  rw [bytesU] at this
  omega
end
end Opn
end Go.Proofs.YtnamanalacjhnaaDoor
/- The walk of LogBack (this claim's own lemmas). -/
namespace Go.Proofs.YtnamanalacjhnaaDoor.LogBack
open Go.RowKit Go.Proofs.YtnamanalacjhnaaDoorW.PrintWords Go.Proofs.YtnamanalacjhnaaDoor.Own Go.Proofs.YtnamanalacjhnaaDoor.QBk
set_option linter.unusedVariables false
theorem walk (A0 : Option Addr) (c0 : Nat) (l0 : List (List Int)) {w' : World} (hr0 : (Kd.slice 5 (Kd.int .u8)).C w' A0 l0.length l0) (hc0 : l0.length ≤ c0) (hg0 : Opn.GR l0) (up0 : Opn.wtRs l0 ≤ 1048576) (a1 : Int) (w1 : (Lit.int .i64 a1).wf = true) (A2 : Option Addr) (c2 : Nat) (l2 : List Int) (hr2 : (Kd.int .u8).C w' A2 l2.length l2) (hc2 : l2.length ≤ c2) (hw2 : ∀ x ∈ l2, (Lit.int .u8 x).wf = true) (y2 : l2.length * 1 ≤ 140737488351232) (up2 : l2.length ≤ 1048576) (w : World) (hT : GT w) (e : w' = w := by rfl) :
    Calls Tryd.prog 6 #[.slice A0 l0.length c0, .int .i64 a1, .slice A2 l2.length c2] w fun e w' => e = .returned (.bool true) ∧ Below w.heap.size w w' := by
  subst e
  have x1 : -9223372036854775808 ≤ a1 ∧ a1 ≤ 9223372036854775807 := by simpa [Lit.wf, IntKind.min, IntKind.max, IntKind.signed, IntKind.bits] using w1
  obtain ⟨k, hk⟩ := (Pu.back_ev l0 a1 l2 (fun r hr => bytes_wf (hg0.2.2 r hr)) (bytes_wf hw2) x1.1 x1.2).rounds
  exact screelaw7_LogBack.calls k A0 c0 l0 a1 A2 c2 l2 true _ hr0 hc0 hr2 hc2 hk hT
end Go.Proofs.YtnamanalacjhnaaDoor.LogBack
namespace Go.Proofs.YtnamanalacjhnaaDoor.logBack
open Go.ChangeShapes Go.WideShapes Go.ChangeAt Go.RowKit
open Go.ChangeMaps (open_string shut_string)
set_option linter.unusedVariables false
theorem own : ownKnob Tryd.prog.godebug = none := by kernel_rfl
theorem laidOut : laidOutB Tryd.prog = true := by kernel_rfl
def IsRow (k : IntKind) (w : World) (a : Option Addr) (len cap : Nat) (zs : List Int) : Prop :=
  (a = none ∧ len = 0 ∧ cap = 0 ∧ zs = []) ∨
  ∃ x, a = some x ∧ len ≤ cap ∧ cap ≤ maxLen ∧ zs.length = cap ∧ (∀ i, i < zs.length → w.cell? (x.add i) = some (.int k (zs.getD i 0))) ∧ ∀ n ∈ zs, (Lit.int k n).wf = true
theorem gTab : Tryd.prog.globalNamed "scree/codec.nibbles" = some 0 := by kernel_rfl
theorem gTabType : (Tryd.prog.globals[0]?).map (·.type) = some 141 := by kernel_rfl
theorem cellsA : Tryd.prog.cellsOf 141 = 16 := by kernel_rfl
theorem cellsE : Tryd.prog.cellsOf 79 = 1 := by kernel_rfl
theorem table {W : World} (h : laidMetH Tryd.prog Rows.logBackUptoRow.laid W) : Lib.TabIs Tryd.prog W "scree/codec.nibbles" .u32 Own.nibs :=
  Lib.tabIs_of_head (rest := []) gTab gTabType Tryd.underlying141 Tryd.underlying79 cellsE cellsA h
theorem gt {W : World} (h : laidMetH Tryd.prog Rows.logBackUptoRow.laid W) : Own.GT W := fun i hi => by
  have hl : i < Own.nibs.length := by simpa [Own.nibs] using hi
  have := (table h).cell gTab i hl
  simpa [List.getD_eq_getElem?_getD, hl] using this
set_option maxRecDepth 100000 in
theorem contract (H : Type) (enc : TypeId × Value → H) (W : World) (base : Nat) (args : Array Value) (ds gs : List (DataW H)) (before : List MemPlace)
    (hval : ∀ (j : Nat) t v, Tryd.f6.params[j]? = some t → args[j]? = some v → Value.okWide Tryd.prog W .any base t v)
    (hW : DataW.Whole enc Tryd.prog Tryd.f6.params.toList Rows.logBackSpec.vars false W args.toList ds gs before)
    (hsz0 : (DataW.weightsEach Tryd.prog (Tryd.f6.params.toList ++ Rows.logBackSpec.plain.varTypes Tryd.prog) (ds ++ gs)).all (· ≤ reachBytes) = true) (hk : Rows.uptoSmall H (ds ++ gs) = true) (hL : laidMetH Tryd.prog Rows.logBackUptoRow.laid W) :
    Calls Tryd.prog 6 args W fun e W' => ∃ v, e = .returned v ∧ Rows.logBackSpec.post enc Tryd.prog Tryd.f6 false true false false W args v W' := by
  have hW' := hW
  have hsz := hsz0
  obtain ⟨p, q, hA0, hV, rfl, hfz, hnd⟩ := hW
  have hA : DataW.TrodAll enc Tryd.prog W 0 (fun _ => true) true Tryd.f6.params.toList args.toList ds p := hA0
  rw [Tryd.params6] at hA hval hsz
  obtain ⟨v0, vs0, d0, ds0, p0, q0, hargs, rfl, rfl, h0, r0⟩ := trodAll_cons hA
  obtain ⟨v1, vs1, d1, ds1, p1, q1, rfl, rfl, rfl, h1, r1⟩ := trodAll_cons r0
  obtain ⟨v2, vs2, d2, ds2, p2, q2, rfl, rfl, rfl, h2, r2⟩ := trodAll_cons r1
  obtain ⟨rfl, rfl, rfl⟩ := trodAll_nil r2
  obtain rfl : args = #[v0, v1, v2] := by cases args; simp_all
  obtain ⟨rfl, rfl⟩ := trodVars_none hV
  obtain ⟨a0, len0, cap0, rfl⟩ := okWide_slice Tryd.underlying24 (hval 0 24 v0 rfl rfl)
  have k0 := h0
  have lt0 : ∀ x ∈ p0, x.block < W.heap.size := by obtain ⟨m, hm⟩ := k0; exact DataW.trod_lt m _ _ _ hm
  obtain ⟨l0, el0, hr0, hc0, hg0, dz0⟩ := Opn.chunks_arg (j := 0) hsz rfl rfl h0
  subst el0
  obtain ⟨a1, rfl, rfl, rfl, w1⟩ := open_int Tryd.underlying3 (hval 1 3 v1 rfl rfl) h1
  obtain ⟨a2, len2, cap2, rfl⟩ := okWide_slice Tryd.underlying22 (hval 2 22 v2 rfl rfl)
  have k2 := h2
  have lt2 : ∀ x ∈ p2, x.block < W.heap.size := by obtain ⟨m, hm⟩ := k2; exact DataW.trod_lt m _ _ _ hm
  obtain ⟨z2, w2, dz2⟩ : ∃ zs, IsRow .u8 W a2 len2 cap2 zs ∧ len2 ≤ Rows.uptoBulk d2 := by
    obtain ⟨fuel, hf⟩ := h2
    rcases open_ints Tryd.underlying22 Tryd.underlying5 (by kernel_rfl) hf with ⟨hcs, hx⟩ | ⟨x, l, c, zs, hcs, _, hl, hm, hz, hx, hcell, hwz⟩
    · simp [Value.cells] at hcs
      obtain ⟨rfl, rfl, rfl⟩ := hcs
      exact ⟨[], .inl ⟨rfl, rfl, rfl, rfl⟩, Nat.zero_le _⟩
    · simp [Value.cells] at hcs
      obtain ⟨rfl, rfl, rfl⟩ := hcs
      exact ⟨zs, .inr ⟨_, rfl, hl, hm, by simpa using hz, hcell, hwz⟩, bulk_row hx (by simpa using hz) hl⟩
  have y2 : len2 * 1 ≤ 140737488351232 := YtnamanalacjhnaaDoorW.PrintWords.sized_ints hsz (j := 2) (t := 22) rfl rfl Tryd.underlying22 Tryd.underlying5 (by kernel_rfl) (by kernel_rfl) h2
  obtain ⟨l2, rfl, hr2, hm2, hw2, hc2⟩ := YtnamanalacjhnaaDoorW.PrintWords.ReadsInt.ofRowC w2
  have hbk := bound hk
  have up0 : Opn.wtRs l0 ≤ 1048576 := by have h1_ := part_le (d := d0) (l := [d0, .lit (.int .i64 a1), d2] ++ []) (by simp); omega
  have up2 : l2.length ≤ 1048576 := by have h1_ := part_le (d := d2) (l := [d0, .lit (.int .i64 a1), d2] ++ []) (by simp); omega
  refine (LogBack.walk a0 cap0 l0 hr0 hc0 hg0 up0 a1 w1 a2 cap2 l2 (YtnamanalacjhnaaDoorW.PrintWords.Kd.C_of_reads (enc := Value.int .u8) (d := (0 : Int)) (h1 := fun _ => rfl) hr2) hc2 hw2 y2 (up2) W (gt hL)).mono fun e W' ⟨he, bel⟩ => ?_
  subst he
  exact ⟨_, rfl, _, _, _, [], _, [], hW', trodAll_mk1 (shut_bool Tryd.underlying4 _), (trodAll_cons_mk (Below.trod laidOut (by kernel_rfl) (of_decide_eq_true (by kernel_rfl)) k0 bel lt0) (trodAll_cons_mk (shut_int Tryd.underlying3 w1) (trodAll_cons_mk (Below.trod laidOut (by kernel_rfl) (of_decide_eq_true (by kernel_rfl)) k2 bel lt2) trodAll_mk0))), rfl, bel.frame _, fun h => by cases h⟩
noncomputable def laidWorld (os : Os) : World :=
  { World.holding Tryd.prog os ⟨#[], #[], []⟩ with heap := (World.holding Tryd.prog os ⟨#[], #[], []⟩).heap.modify 0 fun
      | .cells _ t frozen => .cells #[.int .u32 0, .int .u32 274646895, .int .u32 549293790, .int .u32 820201905, .int .u32 1098587580, .int .u32 1361435347, .int .u32 1640403810, .int .u32 1905808397, .int .u32 2197175160, .int .u32 2460548119, .int .u32 2722870694, .int .u32 2987750089, .int .u32 3280807620, .int .u32 3553878443, .int .u32 3811616794, .int .u32 4084100981] t frozen
      | o => o }
theorem laid_met (os : Os) : laidMet Tryd.prog Rows.logBackUptoRow.laid ((laidWorld os).forCall (fun _ _ => 0) ⟨#[], #[.slice none 0 0, .int .i64 0, .slice none 0 0], []⟩).memory :=
  laidMet_of_run' 8 (by kernel_rfl) (by kernel_rfl)
theorem reads (os : Os) {H : Type} (enc : TypeId × Value → H) : ∃ places, DataW.whole enc Tryd.prog ((laidWorld os).forCall (fun _ _ => 0) ⟨#[], #[.slice none 0 0, .int .i64 0, .slice none 0 0], []⟩).memory Tryd.f6.params.toList Rows.logBackSpec.vars false #[.slice none 0 0, .int .i64 0, .slice none 0 0].toList 8 = some ([.nil, .lit (.int .i64 0), .nil], [], places) :=
  ⟨[], by kernel_rfl⟩
set_option maxRecDepth 100000 in
theorem lifted (os : Os) (started : os.Started) (H : Type) (enc : TypeId × Value → H) (F : Stop.Interp) :
    ReturnsInHanded {} Tryd.checked os 6 .any ((Rows.OpenSpec.upto Rows.logBackSpec).preRow enc Tryd.prog Tryd.f6 Rows.logBackUptoRow.domain false Rows.logBackUptoRow.laid) (((Rows.OpenSpec.upto Rows.logBackSpec).at F).post enc Tryd.prog Tryd.f6 false true false false) := by
  obtain ⟨places, hx⟩ := reads os enc
  refine returnsInHanded_of_row (C := Tryd.checked) (s := Rows.OpenSpec.upto Rows.logBackSpec) own started (by kernel_rfl) Tryd.func6
    (witness_row_at (enc := enc) (C := Tryd.checked) false (laidWorld os) #[.slice none 0 0, .int .i64 0, .slice none 0 0] rfl (by kernel_rfl) (by kernel_rfl) (by kernel_rfl)
      (OpenSpec.preRow_of_cond 8 hx (by kernel_rfl) (fun k hk => by cases hk; kernel_rfl) (by kernel_rfl) (laid_met os))) ?_
  intro W base args ds gs before hval hW _ hcond hsz hL _ _
  exact contract H enc W base args ds gs before hval hW hsz (hcond _ rfl) hL
theorem said : Rows.LogBackUptoSaid :=
  OpenClaim.holds_of_cond 6 Tryd.f6 rfl rfl rfl rfl rfl rfl rfl ⟨rfl, rfl, rfl, rfl, rfl⟩ rfl rfl rfl rfl rfl (by kernel_rfl) Tryd.func6 (by kernel_rfl)
    (of_decide_eq_true (by kernel_rfl)) (by unfold Func.isWrapper; first | (rw [if_pos (by decide +kernel)]; kernel_rfl) | (rw [if_neg (by decide +kernel)]; exact ⟨rfl, rfl⟩))
    (fun os started H enc _ F => by rw [OpenClaim.pre_eq_preRow]; exact lifted os started H enc F)
theorem plain (f : FuncId) (fn : Func) (hf : Tryd.pinned.checked.prog.funcNamed "scree/screelaw7.LogBack" = some f) (hfn : Tryd.pinned.checked.prog.funcs[f]? = some fn) :
    false = Tryd.pinned.checked.prog.looks [] ∧ ∀ (j : Nat) t, fn.params[j]? = some t → Tryd.pinned.checked.prog.wantsStandIn t = false := by
  obtain rfl : f = 6 := Option.some.inj ((show Tryd.prog.funcNamed "scree/screelaw7.LogBack" = some 6 by kernel_rfl).symm.trans hf) |>.symm
  obtain rfl : fn = Tryd.f6 := (Option.some.inj (Tryd.func6.symm.trans hfn)).symm
  refine ⟨by kernel_rfl, fun j t ht => ?_⟩
  rw [Tryd.params6] at ht
  have hm : t ∈ [24, 3, 22] := by have := Array.mem_of_getElem? ht; simpa using this
  have hall : ([24, 3, 22].all fun u => !Tryd.prog.wantsStandIn u) = true := by kernel_rfl
  exact (show Tryd.prog.wantsStandIn t = false by simpa using List.all_eq_true.1 hall t hm)
theorem proved : Rows.LogBackUptoCardSaid :=
  Claim7.holds_tied_plain_at .later [] _ _ _ _ said (fun _ h => by cases h) (by kernel_rfl) (fun _ h => by cases h) logBackUpto_row_tie rfl ⟨rfl, rfl⟩ (by kernel_rfl) rfl plain (by kernel_rfl)
#print axioms proved
end Go.Proofs.YtnamanalacjhnaaDoor.logBack
