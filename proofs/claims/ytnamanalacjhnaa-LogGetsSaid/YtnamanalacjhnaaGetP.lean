/- How a record is read (plain functions; this claim's own definitions). -/
import Derived.Test.YtnamanalacjhnaaQGtx4
namespace Go.Proofs.Ytnamanalacjhnaa.Gt
open Go.RowKit Go.Proofs.YtnamanalacjhnaaW.PrintWords Go.Proofs.Ytnamanalacjhnaa.Own Go.Proofs.Ytnamanalacjhnaa.Wk Go.Proofs.Ytnamanalacjhnaa.QGt
set_option linter.unusedVariables false
abbrev Wr := S64
/-- What is left of a record, and the first thing that was wrong. -/
abbrev St := List Int × Nat
def numS (s : St) : Nat × St := if s.2 ≠ 0 then (0, s) else ((uintN s.1).1, (s.1.drop (uintN s.1).2.1, (uintN s.1).2.2))
def textS (m : Int) (s : St) : ByteArray × St := if s.2 ≠ 0 then ((⟨#[]⟩ : ByteArray), s) else ((textL s.1 m).1, (s.1.drop (textL s.1 m).2.1.toNat, (textL s.1 m).2.2.toNat))
def delS (s : St) : Bool × St := if s.2 ≠ 0 then (false, s) else if s.1.length = 0 then (false, (s.1, 20)) else if rd s.1 0 > 1 then (false, (s.1, 21)) else (rd s.1 0 == 1, (s.1.drop 1, 0))
def keyS (s : St) : ByteArray × St := let t := textS 64 s; if t.2.2 = 0 ∧ t.1.toList = ([] : List UInt8) then (t.1, (t.2.1, 21)) else t
def writeS (s : St) : Wr × St :=
  let d := delS s
  let t := keyS d.2
  if d.1 = true then (⟨t.1, true, (⟨#[]⟩ : ByteArray)⟩, t.2) else (⟨t.1, false, (textS 512 t.2).1⟩, (textS 512 t.2).2)
def writesS : Nat → St → List Wr × St
  | 0, s => ([], s)
  | n + 1, s => if s.2 ≠ 0 then ([], s) else ((writeS s).1 :: (writesS n (writeS s).2).1, (writesS n (writeS s).2).2)
def countS (s : St) : Nat × St := let n := numS s; if n.2.2 = 0 ∧ n.1 > 16 then (n.1, (n.2.1, 22)) else n
def batchS (s : St) : List Wr × St := writesS (countS s).1 (countS s).2
def batchesS : Nat → Nat → St → List (List Wr) × St
  | 0, _, s => ([], s)
  | f + 1, n, s => if n = 0 ∨ s.2 ≠ 0 then ([], s) else ((batchS s).1 :: (batchesS f (n - 1) (batchS s).2).1, (batchesS f (n - 1) (batchS s).2).2)
def total (g : List (List Wr)) : Nat := (g.map List.length).sum
/-- How the record ends. -/
def finS (a : Nat) (g : List (List Wr)) (s : St) : Int × List (List Wr) × Int :=
  if s.2 ≠ 0 then (0, [], (s.2 : Int)) else if s.1.length > 0 then (0, [], 21)
  else if total g > 0 ∧ (a > 72057594037927935 ∨ total g - 1 > 72057594037927935 - a) then (0, [], 22) else ((a : Int), g, 0)
def getL (l : List Int) : Int × List (List Wr) × Int :=
  let a := numS (l, 0)
  let b := numS a.2
  let g := batchesS (l.length + 1) b.1 b.2
  finS a.1 g.1 g.2
/-- A step of the reader: bytes stay bytes, nothing grows, what was wrong stays wrong. -/
def Good (s s' : St) : Prop := (Bytes s.1 → Bytes s'.1) ∧ s'.1.length ≤ s.1.length ∧ (s'.2 = 0 → s.2 = 0)
theorem Good.refl (s : St) : Good s s := ⟨id, Nat.le_refl _, id⟩
theorem Good.trans {a b c : St} (h : Good a b) (h' : Good b c) : Good a c := ⟨fun x => h'.1 (h.1 x), Nat.le_trans h'.2.1 h.2.1, fun x => h.2.2 (h'.2.2 x)⟩
theorem bytes_drop {l : List Int} (n : Nat) (h : Bytes l) : Bytes (l.drop n) := fun x hx => h x (List.mem_of_mem_drop hx)
theorem Good.cut {s : St} (k e : Nat) (h : s.2 = 0) : Good s (s.1.drop k, e) := ⟨bytes_drop k, by simp [List.length_drop], fun _ => h⟩
theorem uintR_pos (l : List Int) : ∀ i a, (uintR l i a).2.2 = 0 → i + 1 ≤ (uintR l i a).2.1 ∧ (uintR l i a).2.1 ≤ l.length + i := by
  induction l with
  | nil => intro i a h; simp [uintR] at h
  | cons c r ih =>
    intro i a h
    simp only [uintR] at h ⊢
    split at h
    · simp at h
    · rename_i h1
      rw [if_neg h1]
      split at h
      · rename_i h2
        rw [if_pos h2]
        simp only [List.length_cons]
        omega
      · rename_i h2
        rw [if_neg h2]
        have := ih _ _ h
        simp only [List.length_cons]
        omega
theorem numS_good (s : St) : Good s (numS s).2 := by
  unfold numS
  by_cases h : s.2 = 0
  · rw [if_neg (by omega)]; exact Good.cut _ _ h
  · rw [if_pos h]; exact Good.refl _
theorem numS_less {s : St} (h : (numS s).2.2 = 0) : (numS s).2.1.length < s.1.length := by
  have h0 := (numS_good s).2.2 h
  unfold numS at h ⊢
  rw [if_neg (by omega)] at h ⊢
  have := uintR_pos s.1 0 0 h
  simp only [List.length_drop]
  unfold uintN
  omega
theorem numS_lt {s : St} (hb : Bytes s.1) : (numS s).1 < 18446744073709551616 := by
  unfold numS
  by_cases h : s.2 = 0
  · rw [if_neg (by omega)]; exact (uintN_spec s.1 hb).1
  · rw [if_pos h]; exact (by decide : (0 : Nat) < 18446744073709551616)
theorem textL_form (l : List Int) (m : Int) : ∃ (b : ByteArray) (K e : Nat), textL l m = (b, (K : Int), (e : Int)) ∧ K ≤ l.length := by
  unfold textL
  simp only
  split
  · exact ⟨_, 0, _, rfl, Nat.zero_le _⟩
  · rename_i h
    split
    · exact ⟨_, 0, 22, rfl, Nat.zero_le _⟩
    · split
      · exact ⟨_, 0, 20, rfl, Nat.zero_le _⟩
      · rename_i h2 h3
        refine ⟨_, _, 0, rfl, ?_⟩
        have h4 : (uintN l).2.2 = 0 := by omega
        have := uintR_pos l 0 0 h4
        unfold uintN at h3 ⊢
        omega
theorem textS_good (m : Int) (s : St) : Good s (textS m s).2 := by
  unfold textS
  by_cases h : s.2 = 0
  · rw [if_neg (by omega)]; exact Good.cut _ _ h
  · rw [if_pos h]; exact Good.refl _
theorem delS_good (s : St) : Good s (delS s).2 := by
  unfold delS
  by_cases h : s.2 = 0
  · rw [if_neg (by omega)]
    split
    · exact ⟨id, Nat.le_refl _, fun _ => h⟩
    · split
      · exact ⟨id, Nat.le_refl _, fun _ => h⟩
      · exact Good.cut _ _ h
  · rw [if_pos h]; exact Good.refl _
theorem keyS_good (s : St) : Good s (keyS s).2 := by
  unfold keyS
  simp only
  split
  · have := textS_good 64 s
    exact ⟨this.1, this.2.1, fun h => absurd h (Nat.succ_ne_zero _)⟩
  · exact textS_good 64 s
theorem writeS_good (s : St) : Good s (writeS s).2 := by
  unfold writeS
  simp only
  split
  · exact (delS_good s).trans (keyS_good _)
  · exact ((delS_good s).trans (keyS_good _)).trans (textS_good 512 _)
theorem writesS_good : ∀ (n : Nat) (s : St), Good s (writesS n s).2
  | 0, s => Good.refl s
  | n + 1, s => by
    unfold writesS
    split
    · exact Good.refl s
    · exact (writeS_good s).trans (writesS_good n _)
theorem writesS_len : ∀ (n : Nat) (s : St), (writesS n s).2.2 = 0 → (writesS n s).1.length = n
  | 0, s, _ => rfl
  | n + 1, s, h => by
    unfold writesS at h ⊢
    split at h
    · rename_i h1; exact absurd h h1
    · rename_i h1
      rw [if_neg h1]
      simp only [List.length_cons, writesS_len n _ h]
theorem writesS_le : ∀ (n : Nat) (s : St), (writesS n s).1.length ≤ n
  | 0, s => Nat.le_refl _
  | n + 1, s => by
    unfold writesS
    split
    · exact Nat.zero_le _
    · simp only [List.length_cons]; have := writesS_le n (writeS s).2; omega
theorem writesS_bad (n : Nat) {s : St} (h : s.2 ≠ 0) : writesS n s = ([], s) := by
  cases n with
  | zero => rfl
  | succ n => unfold writesS; rw [if_pos h]
theorem countS_good (s : St) : Good s (countS s).2 := by
  unfold countS
  simp only
  split
  · have := numS_good s
    exact ⟨this.1, this.2.1, fun h => absurd h (Nat.succ_ne_zero _)⟩
  · exact numS_good s
theorem countS_ok {s : St} (h : (countS s).2.2 = 0) : countS s = numS s ∧ (numS s).1 ≤ 16 ∧ (numS s).2.2 = 0 := by
  unfold countS at h ⊢
  simp only at h ⊢
  split at h
  · exact absurd h (Nat.succ_ne_zero _)
  · rename_i h1
    rw [if_neg h1]
    refine ⟨rfl, ?_, h⟩
    omega
theorem batchS_good (s : St) : Good s (batchS s).2 := (countS_good s).trans (writesS_good _ _)
theorem batchS_less {s : St} (h : (batchS s).2.2 = 0) : (batchS s).2.1.length < s.1.length := by
  have h1 := (writesS_good (countS s).1 (countS s).2)
  have h2 := countS_ok (h1.2.2 h)
  have h3 := numS_less h2.2.2
  have h4 := h1.2.1
  rw [h2.1] at h4
  unfold batchS
  rw [h2.1]
  omega
theorem batchS_len {s : St} (h : (batchS s).2.2 = 0) : (batchS s).1.length = (numS s).1 ∧ (numS s).1 ≤ 16 ∧ (numS s).2.2 = 0 := by
  have h1 := (writesS_good (countS s).1 (countS s).2)
  have h2 := countS_ok (h1.2.2 h)
  have h3 := writesS_len _ _ h
  unfold batchS
  rw [h2.1] at h3 ⊢
  exact ⟨h3, h2.2⟩
theorem batchesS_good : ∀ (f n : Nat) (s : St), Good s (batchesS f n s).2
  | 0, n, s => Good.refl s
  | f + 1, n, s => by
    unfold batchesS
    split
    · exact Good.refl s
    · exact (batchS_good s).trans (batchesS_good f _ _)
end Go.Proofs.Ytnamanalacjhnaa.Gt
