-- Printed by a program of this claim's own out of the translation.
import Derived.Test.YtnamanalacjhnaaDoorQApx0
import Derived.Test.YtnamanalacjhnaaDoorQApx1
import Derived.Test.YtnamanalacjhnaaDoorQApx2
namespace Go.Proofs.YtnamanalacjhnaaDoor.QAp
open Go.Proofs.YtnamanalacjhnaaDoor.Own
open Go.RowKit Go.Proofs.YtnamanalacjhnaaDoorW.PrintWords Go.Proofs.YtnamanalacjhnaaDoorW.PrintLast Go.Proofs.YtnamanalacjhnaaDoorW.PrintMore
attribute [local go_sem] max2_int min2_int max_two min_two max_three min_three max_four min_four   -- for this text's walks alone
set_option linter.unusedVariables false
set_option linter.unusedSimpArgs false

/-! ### screeref7_Append: function 12 -/
open Go.Proofs.YtnamanalacjhnaaDoor.Lg Go.Proofs.YtnamanalacjhnaaDoor.G
theorem ref_chunk (G : List Int → Option (List Int)) (x1 x6 : List Int) (f n : Nat) (kd : Int) (hk : 0 ≤ kd ∧ kd ≤ 255) (hf : f + n ≤ x1.length) (hl : x1.length ≤ 1073741824) (hb : Bytes x1) (h6 : x6.length ≤ 17179869184) :
    ((some (([((n : Nat) : Int) % 256, (((n : Nat) : Int) / 256) % 256, kd] : List Int) : List Int)).bind fun y => (if 0 ≤ ((f : Nat) : Int) then (if ((f : Nat) : Int) ≤ (wrap64 (((f : Nat) : Int) + ((n : Nat) : Int))) then (if (wrap64 (((f : Nat) : Int) + ((n : Nat) : Int))) ≤ (x1.length : Int) then (if y.length + ((x1.take ((wrap64 (((f : Nat) : Int) + ((n : Nat) : Int))) : Int).toNat).drop (((f : Nat) : Int) : Int).toNat).length < 140737488355328 then ((some (y ++ ((x1.take ((wrap64 (((f : Nat) : Int) + ((n : Nat) : Int))) : Int).toNat).drop (((f : Nat) : Int) : Int).toNat) : List Int)).bind fun y2 => ((screeref2_Sum.f y2).bind fun t => ((screeref2_Four.f t).bind fun t2 => (if x6.length + t2.length < 140737488355328 then ((some (x6 ++ t2 : List Int)).bind fun y3 => (if y3.length + y2.length < 140737488355328 then G (y3 ++ y2) else (none))) else (none))))) else (none)) else (none)) else (none)) else (none))) = G (x6 ++ pieceL kd ((x1.take (f + n)).drop f)) := by
  have hw : wrap64 ((f : Int) + (n : Int)) = ((f + n : Nat) : Int) := by unfold wrap64; omega
  have hpl : ((x1.take (f + n)).drop f).length = n := by rw [List.length_drop, List.length_take]; omega
  have hbp : Bytes ((x1.take (f + n)).drop f) := bytes_drop (bytes_take hb _) _
  have hB := body_bytes hk hbp
  have hf4 := four_eq (sumF_range hB)
  have e1 : (n : Int) % 256 = ((n % 256 : Nat) : Int) := by omega
  have e2 : (n : Int) / 256 % 256 = ((n / 256 % 256 : Nat) : Int) := by omega
  have hlt3 : ([(n : Int) % 256, (n : Int) / 256 % 256, kd] : List Int).length + ((x1.take (f + n)).drop f).length < 140737488355328 := by rw [hpl]; simp; omega
  rw [Option.bind_some, hw, Int.toNat_natCast, Int.toNat_natCast, if_pos (by omega), if_pos (by omega), if_pos (by omega), if_pos hlt3, Option.bind_some, e1, e2]
  have hbody : ([((n % 256 : Nat) : Int), ((n / 256 % 256 : Nat) : Int), kd] : List Int) ++ (x1.take (f + n)).drop f = bodyL kd ((x1.take (f + n)).drop f) := by unfold bodyL; rw [hpl]
  rw [hbody]
  have hs : screeref2_Sum.f (bodyL kd ((x1.take (f + n)).drop f)) = some (sumF (bodyL kd ((x1.take (f + n)).drop f))) := by
    unfold screeref2_Sum.f
    rw [if_pos ⟨okB_iff.2 hB, by rw [body_len, hpl]; omega⟩]
  have hq : screeref2_Four.f (sumF (bodyL kd ((x1.take (f + n)).drop f))) = some (fourL (sumF (bodyL kd ((x1.take (f + n)).drop f)))) := by
    unfold screeref2_Four.f
    rw [hf4]
  rw [hs, Option.bind_some, hq, Option.bind_some, if_pos (by rw [four_len]; omega), Option.bind_some, if_pos (by rw [List.length_append, four_len, body_len, hpl]; omega)]
  unfold pieceL
  rw [List.append_assoc]
theorem ref_done (x1 out : List Int) (place : Int) (f : Nat) (hf : f = x1.length) : Ev (fun k => screeref7_Append_p.l1 k x1 place out (f : Int) false) out := by
  refine Ev.step (f := fun k => screeref7_Append_p.j4 k x1 place out (f : Int) false false) (fun k => ?_) (Ev.step (f := fun _ => some out) (fun k => ?_) (Ev.now _))
  · simp only [screeref7_Append_p.l1]
    rw [if_neg (by decide), decide_eq_false (by omega)]
  · simp only [screeref7_Append_p.j4]
    rw [if_neg (by decide)]
theorem ref_step (x1 : List Int) (hl : x1.length ≤ 1073741824) (hb : Bytes x1) (f : Nat) (first : Bool) (place : Nat) (out : List Int) (hfl : f ≤ x1.length) (hor : first = true ∨ f < x1.length) (hp : place ≤ 504) (ho : out.length + 8 * (x1.length - f) ≤ 8589935104)
    (next : 505 - place < x1.length - f → Ev (fun k => screeref7_Append_p.l1 k x1 ((0 : Nat) : Int) (out ++ pieceL (kindL first false) ((x1.take (f + (505 - place))).drop f)) ((f + (505 - place) : Nat) : Int) false) ((out ++ pieceL (kindL first false) ((x1.take (f + (505 - place))).drop f)) ++ piecesL false 0 (x1.drop (f + (505 - place))))) :
    Ev (fun k => screeref7_Append_p.l1 k x1 (place : Int) out (f : Int) first) (out ++ piecesL first place (x1.drop f)) := by
  obtain ⟨n, hn⟩ : ∃ n, n = min (x1.length - f) (505 - place) := ⟨_, rfl⟩
  have hw : wrap64 ((f : Int) + (n : Int)) = ((f + n : Nat) : Int) := by unfold wrap64; omega
  obtain ⟨last, hlast⟩ : ∃ last : Bool, last = (wrap64 ((f : Int) + (n : Int)) == (x1.length : Int)) := ⟨_, rfl⟩
  have hle : last = decide (x1.length - f ≤ 505 - place) := by
    rw [hlast, hw]
    by_cases h : x1.length - f ≤ 505 - place
    · rw [decide_eq_true h, beq_iff_eq]; omega
    · rw [decide_eq_false h, beq_eq_false_iff_ne]; omega
  have hres : ∀ g : Ev (fun k => screeref7_Append_p.l1 k x1 0 (out ++ pieceL (kindL first last) ((x1.take (f + n)).drop f)) (wrap64 ((f : Int) + (n : Int))) false) (out ++ piecesL first place (x1.drop f)), Ev (fun k => screeref7_Append_p.l1 k x1 (place : Int) out (f : Int) first) (out ++ piecesL first place (x1.drop f)) := by
    intro g
    refine Ev.step (f := fun k => screeref7_Append_p.j4 k x1 (place : Int) out (f : Int) first true) (fun k => ?_) (Ev.step (f := fun k => screeref7_Append_p.j5 k x1 out (f : Int) first (n : Int)) (fun k => ?_) (Ev.step (f := fun k => screeref7_Append_p.j6 k x1 out (f : Int) first (n : Int) last 3 (first && last)) (fun k => ?_) (Ev.step (fun k => ?_) g)))
    · simp only [screeref7_Append_p.l1]
      rcases hor with rfl | h
      · rw [if_pos rfl]
      · split
        · rfl
        · rw [decide_eq_true (by omega)]
    · simp only [screeref7_Append_p.j4]
      have h1 : wrap64 ((x1.length : Int) - (f : Int)) = ((x1.length - f : Nat) : Int) := by unfold wrap64; omega
      have h2 : wrap64 (wrap64 (512 - (place : Int)) - 7) = ((505 - place : Nat) : Int) := by unfold wrap64; omega
      simp only [if_true]
      rw [h1, h2]
      split
      · rw [hn, Nat.min_eq_left (by omega)]
      · rw [hn, Nat.min_eq_right (by omega)]
    · simp only [screeref7_Append_p.j5]
      rw [← hlast]
      cases first
      · rw [if_neg (by decide)]; rfl
      · rw [if_pos rfl]; rfl
    · simp only [screeref7_Append_p.j6]
      have e3 : (3 : Int) % 256 = 3 := by decide
      rw [e3]
      cases first <;> cases last
      · rw [if_neg (by decide), if_neg (by decide), if_neg (by decide)]
        exact ref_chunk (fun z => screeref7_Append_p.l1 k x1 0 z (wrap64 ((f : Int) + (n : Int))) false) x1 out f n 3 (by decide) (by omega) hl hb (by omega)
      · rw [if_neg (by decide), if_neg (by decide), if_pos rfl]
        exact ref_chunk (fun z => screeref7_Append_p.l1 k x1 0 z (wrap64 ((f : Int) + (n : Int))) false) x1 out f n 4 (by decide) (by omega) hl hb (by omega)
      · rw [if_neg (by decide), if_pos rfl]
        exact ref_chunk (fun z => screeref7_Append_p.l1 k x1 0 z (wrap64 ((f : Int) + (n : Int))) false) x1 out f n 2 (by decide) (by omega) hl hb (by omega)
      · rw [if_pos rfl]
        exact ref_chunk (fun z => screeref7_Append_p.l1 k x1 0 z (wrap64 ((f : Int) + (n : Int))) false) x1 out f n 1 (by decide) (by omega) hl hb (by omega)
  refine hres ?_
  rw [hw]
  by_cases h : x1.length - f ≤ 505 - place
  · have hnn : f + n = x1.length := by omega
    have hd := ref_done x1 (out ++ pieceL (kindL first last) ((x1.take (f + n)).drop f)) 0 (f + n) hnn
    rw [pieces_last (by rw [List.length_drop]; exact h)]
    rw [hle, decide_eq_true h, hnn, List.take_length] at hd
    rw [hle, decide_eq_true h, hnn, List.take_length]
    exact hd
  · have hnn : n = 505 - place := by omega
    have hx := next (by omega)
    rw [hle, decide_eq_false h, hnn]
    rw [pieces_more (by rw [List.length_drop]; omega) hp, List.drop_drop, ← List.append_assoc]
    have e : (x1.drop f).take (505 - place) = (x1.take (f + (505 - place))).drop f := by rw [List.drop_take, show f + (505 - place) - f = 505 - place by omega]
    rw [e]
    exact hx
theorem ref_ev (x1 : List Int) (hl : x1.length ≤ 1073741824) (hb : Bytes x1) (d : Nat) : ∀ (f : Nat) (first : Bool) (place : Nat) (out : List Int), x1.length - f ≤ d → f ≤ x1.length → (first = true ∨ f < x1.length) → place ≤ 504 → out.length + 8 * (x1.length - f) ≤ 8589935104 →
    Ev (fun k => screeref7_Append_p.l1 k x1 (place : Int) out (f : Int) first) (out ++ piecesL first place (x1.drop f)) := by
  induction d with
  | zero =>
    intro f first place out hd hfl hor hp ho
    exact ref_step x1 hl hb f first place out hfl hor hp ho (fun h => absurd h (by omega))
  | succ d ih =>
    intro f first place out hd hfl hor hp ho
    exact ref_step x1 hl hb f first place out hfl hor hp ho (fun h => ih _ _ _ _ (by omega) (by omega) (.inr (by omega)) (by omega) (by rw [List.length_append, piece_len, List.length_drop, List.length_take]; omega))
theorem zeros_ev (x1 : List Int) (r : List Int) (d : Nat) : ∀ (p : Nat) (out : List Int), p + d = 512 → out.length + d ≤ 1024 → Ev (fun k => screeref7_Append_p.j2 k x1 0 (out ++ List.replicate d 0)) r → Ev (fun k => screeref7_Append_p.l0 k x1 (p : Int) out) r := by
  induction d with
  | zero =>
    intro p out hp ho h
    rw [List.replicate_zero, List.append_nil] at h
    refine Ev.step (fun k => ?_) h
    simp only [screeref7_Append_p.l0]
    rw [if_neg (by omega)]
  | succ d ih =>
    intro p out hp ho h
    refine Ev.step (fun k => ?_) (ih (p + 1) (out ++ [0]) (by omega) (by rw [List.length_append]; simp; omega) (by rw [List.append_assoc]; exact h))
    simp only [screeref7_Append_p.l0]
    rw [if_pos (by omega), if_pos (by omega), show wrap64 ((p : Int) + 1) = ((p + 1 : Nat) : Int) by unfold wrap64; omega]
def screeref7_Append.f (a0 : Int) (l1 : List Int) : Option (List Int) := if okB l1 = true ∧ l1.length ≤ 1073741824 ∧ a0 ≤ 9223372036854775807 then some (appendL a0 l1) else none
theorem ref_rounds (a0 : Int) (l1 : List Int) (hb : Bytes l1) (hl : l1.length ≤ 1073741824) (ha : a0 ≤ 9223372036854775807) : ∃ k, screeref7_Append_p.f k a0 l1 = some (appendL a0 l1) := by
  obtain ⟨a, hA⟩ : ∃ a, a = (max a0 0).toNat := ⟨_, rfl⟩
  have hj : Ev (fun k => screeref7_Append_p.j0 k (a : Int) l1) (appendL a0 l1) := by
    unfold appendL
    rw [← hA]
    have ht : Int.tmod (a : Int) 512 = ((a % 512 : Nat) : Int) := rfl
    have hw : wrap64 (512 - ((a % 512 : Nat) : Int)) = ((512 - a % 512 : Nat) : Int) := by unfold wrap64; omega
    by_cases h5 : 505 ≤ a % 512
    · simp only [if_pos h5]
      refine Ev.step (f := fun k => screeref7_Append_p.l0 k l1 ((a % 512 : Nat) : Int) []) (fun k => ?_) (zeros_ev l1 _ (512 - a % 512) (a % 512) [] (by omega) (by simp; omega) ?_)
      · simp only [screeref7_Append_p.j0]
        rw [ht, hw, if_pos (by omega)]
      · refine Ev.step (fun k => ?_) (ref_ev l1 hl hb l1.length 0 true 0 ([] ++ List.replicate (512 - a % 512) 0) (by omega) (by omega) (.inl rfl) (by omega) (by simp; omega))
        simp only [screeref7_Append_p.j2]
        rfl
    · simp only [if_neg h5]
      refine Ev.step (f := fun k => screeref7_Append_p.j2 k l1 ((a % 512 : Nat) : Int) []) (fun k => ?_) (Ev.step (fun k => ?_) (ref_ev l1 hl hb l1.length 0 true (a % 512) [] (by omega) (by omega) (.inl rfl) (by omega) (by simp; omega)))
      · simp only [screeref7_Append_p.j0]
        rw [ht, hw, if_neg (by omega)]
      · simp only [screeref7_Append_p.j2]
        rfl
  obtain ⟨k, hk⟩ := hj.rounds
  refine ⟨k, ?_⟩
  unfold screeref7_Append_p.f
  by_cases h : a0 < 0
  · rw [if_pos h]
    have : (a : Int) = 0 := by omega
    rw [this] at hk
    exact hk
  · rw [if_neg h]
    have : (a : Int) = a0 := by omega
    rw [this] at hk
    exact hk
theorem screeref7_Append.calls (a0 : Int) (A1 : Option Addr) (c1 : Nat) (l1 : List Int) (r : List Int) (w : World) (hr1 : Kd.C (Kd.int .u8) w A1 l1.length l1) (hc1 : l1.length ≤ c1) (h : screeref7_Append.f a0 l1 = some r) :
    Calls Tryd.prog 12 #[.int .i64 a0, .slice A1 l1.length c1] w fun e w' => ∃ v0_ : Value, e = .returned (v0_) ∧ Kd.R (Kd.int .u8) 5 w' w.heap.size (fun _ => True) v0_ r ∧ Below w.heap.size w w' := by
  unfold screeref7_Append.f at h
  split at h
  · rename_i hh
    obtain ⟨hb, hl, ha⟩ := hh
    obtain ⟨k, hk⟩ := ref_rounds a0 l1 (okB_iff.1 hb) hl ha
    exact screeref7_Append_p.calls k a0 A1 c1 l1 r w hr1 hc1 (by rw [← h]; exact hk)
  · cases h

-- NOT PRINTED: function 33 (screeroom_Room_holdBytes)

-- NOT PRINTED: function 34 (screeroom_Room_holdInts)

-- NOT PRINTED: function 35 (screeroom_Room_holdNums)

/-! ### screeroom_word: function 63 -/
def screeroom_word.f (a0 : Int) : Option (ByteArray) := if (Int.tmod a0 2) = 0 then (some (⟨#[60, 111, 110, 101, 62]⟩ : ByteArray)) else (some (⟨#[60, 116, 119, 111, 62]⟩ : ByteArray))
set_option maxHeartbeats 8000000 in
set_option maxRecDepth 100000 in
theorem screeroom_word.calls (a0 : Int) (r : ByteArray) (w : World) (h : screeroom_word.f a0 = some r) :
    Calls Tryd.prog 63 #[.int .i64 a0] w fun e w' => e = .returned (.string r) ∧ Drawn0 w w' := by
  have H : (if (Int.tmod a0 2) = 0 then (some (⟨#[60, 111, 110, 101, 62]⟩ : ByteArray)) else (some (⟨#[60, 116, 119, 111, 62]⟩ : ByteArray))) = some r := h
  clear h
  by_cases c2 : (Int.tmod a0 2) = 0
  · rw [if_pos c2] at H
    have c2b0 : ((Int.tmod a0 2) == 0) = true := beq_iff_eq.mpr c2
    have c2b1 : ((Int.tmod a0 2) != 0) = false := bne_eq_false_iff_eq.mpr c2
    clear c2
    obtain rfl := Option.some.inj H
    go_enter Tryd.func63, Tryd.ntmps63
    go_wp2
    go_ret
    exact ⟨by first | rfl | (simp; done) | (simp [*]; done), by repeat (first | exact Drawn0.refl _ | apply Drawn0.step)⟩
  · rw [if_neg c2] at H
    have c2b0 : ((Int.tmod a0 2) == 0) = false := beq_eq_false_iff_ne.mpr c2
    have c2b1 : ((Int.tmod a0 2) != 0) = true := bne_iff_ne.mpr c2
    obtain rfl := Option.some.inj H
    go_enter Tryd.func63, Tryd.ntmps63
    go_wp2
    go_ret
    exact ⟨by first | rfl | (simp; done) | (simp [*]; done), by repeat (first | exact Drawn0.refl _ | apply Drawn0.step)⟩

-- NOT PRINTED: function 36 (screeroom_Room_holdTexts)

-- NOT PRINTED: function 37 (screeroom_Room_holdEntries)

-- NOT PRINTED: function 38 (screeroom_Room_holdPairs)

-- NOT PRINTED: function 39 (screeroom_Room_holdWrites)

-- NOT PRINTED: function 40 (screeroom_Room_holdTables)

-- NOT PRINTED: function 41 (screeroom_Room_holdPlaces)

-- NOT PRINTED: function 42 (screeroom_Room_holdPlaceds)

-- NOT PRINTED: function 43 (screeroom_Room_holdChunks)

-- NOT PRINTED: function 44 (screeroom_Room_holdGroups)

-- NOT PRINTED: function 45 (screeroom_Room_holdFiles)

-- NOT PRINTED: function 46 (screeroom_Room_holdSteps)

-- NOT PRINTED: function 13 (screeroom_Room_Hold)

-- NOT PRINTED: function 3 (screelaw7_LogAppends)

end Go.Proofs.YtnamanalacjhnaaDoor.QAp
