/- Lemmas of this claim's own, put together: LrP, LrL, RdP, RdW, RdR, RdA, DGetW, DGetB, DGetG, QBky0, QBky1, QBky2, QBky3, QBky4, QBky5. -/
import Derived.Test.YtnamanalacjhnaaDoorZBack1
import Derived.BigQuiet
import Derived.Deep.QuietTactic
import Derived.Deep.DeepCutAuto
import Derived.Test.YtnamanalacjhnaaDoorZBack2
import Derived.Test.YtnamanalacjhnaaDoorProg
import Derived.Below
import Derived.Deep.Draws
import Derived.Deep.AppendLies
import Derived.Maps.AppendAt
import Derived.OwnWalk
import Derived.Laws.BytesArg
import Derived.Laws.MakeOwn
import Derived.Laws.OwnMore
import Derived.Deep.OwnRows
import Derived.Tactics
import Derived.Lib.ConvBytes
import Derived.Laws.Slices
import Derived.WalkKit
import Derived.KernelRfl
import Derived.RowKit3
import Derived.Deep.LoopGhost
import Derived.WideLaws
import Derived.Deep.CutBlock
import Derived.Deep.RegionHeld3
import Derived.Laws.Rows
import Derived.Lib.AppendStr
import Derived.ArgAppend
import Derived.Laws.IdiomCopy
import Derived.OrdersHeld
import Derived.Laws.BitsLemmas
import Derived.RowKit
import Derived.Test.YtnamanalacjhnaaDoorWWords
import Derived.Test.YtnamanalacjhnaaDoorWLast
import Derived.Test.YtnamanalacjhnaaDoorWTab
import Derived.Test.YtnamanalacjhnaaDoorWFour
import Derived.Test.YtnamanalacjhnaaDoorWQPut
import Derived.Test.YtnamanalacjhnaaDoorWApart
import Derived.Test.YtnamanalacjhnaaDoorWArr
import Derived.Test.YtnamanalacjhnaaDoorWZeros
import Derived.Test.YtnamanalacjhnaaDoorWFoot
import Derived.Test.YtnamanalacjhnaaDoorWKept
import Derived.Test.YtnamanalacjhnaaDoorWShare
import Derived.Test.YtnamanalacjhnaaDoorWN
import Derived.Test.YtnamanalacjhnaaDoorWFootNe
import Derived.Test.YtnamanalacjhnaaDoorWAt
import Derived.Test.YtnamanalacjhnaaDoorWEqStruct
import Derived.Test.YtnamanalacjhnaaDoorWRepsOne
import Derived.Test.YtnamanalacjhnaaDoorWInv
import Derived.Test.YtnamanalacjhnaaDoorWInvWords
import Derived.Test.YtnamanalacjhnaaDoorWGuard
import Derived.Test.YtnamanalacjhnaaDoorWNEv
import Derived.Test.YtnamanalacjhnaaDoorWMore
/- How a log is read (plain functions and laws; this claim's own definitions; no program in sight). -/
namespace Go.Proofs.YtnamanalacjhnaaDoor.Lr
open Go.RowKit Go.Proofs.YtnamanalacjhnaaDoorW.PrintWords Go.Proofs.YtnamanalacjhnaaDoor.Own Go.Proofs.YtnamanalacjhnaaDoor.G Go.Proofs.YtnamanalacjhnaaDoor.Lg
set_option linter.unusedVariables false
/-- The piece that stands at a place: its kind and its part. -/
def readP (l : List Int) (a : Nat) : Option (Nat × List Int) :=
  if l.length - a < 7 then none
  else
    let n := (rd l ((a + 4 : Nat) : Int) + 256 * rd l ((a + 5 : Nat) : Int)).toNat
    let k := (rd l ((a + 6 : Nat) : Int)).toNat
    if 7 + n > 512 - a % 512 ∨ 7 + n > l.length - a ∨ k < 1 ∨ k > 4 then none
    else if fourL (sumF ((l.take (a + 7 + n)).drop (a + 4))) = (l.take (a + 4)).drop a then some (k, (l.take (a + 7 + n)).drop (a + 7)) else none
theorem readP_some {l : List Int} {a k : Nat} {p : List Int} (h : readP l a = some (k, p)) : 1 ≤ k ∧ k ≤ 4 ∧ a + 7 + p.length ≤ l.length ∧ a % 512 + 7 + p.length ≤ 512 ∧ p = (l.take (a + 7 + p.length)).drop (a + 7) := by
  unfold readP at h
  simp only at h
  generalize (rd l ((a + 4 : Nat) : Int) + 256 * rd l ((a + 5 : Nat) : Int)).toNat = n at h
  generalize (rd l ((a + 6 : Nat) : Int)).toNat = k' at h
  split at h
  · cases h
  · rename_i h0
    split at h
    · cases h
    · rename_i h1
      split at h
      · injection h with h
        injection h with h2 h3
        subst h2
        have hp : p.length = n := by rw [← h3, List.length_drop, List.length_take]; omega
        refine ⟨by omega, by omega, by omega, by omega, ?_⟩
        rw [hp, h3]
      · cases h
/-- A record's pieces, from a place on. -/
def piecesR (l : List Int) : Nat → Bool → Nat → List Int → Option (List Int × Nat)
  | 0, _, _, _ => none
  | f + 1, begun, a, acc =>
    match readP l a with
    | none => none
    | some (k, p) =>
      if begun ≠ (k == 3 || k == 4) then none
      else if k = 1 ∨ (k = 4 ∧ 0 < p.length) then some (acc ++ p, a + 7 + p.length)
      else if k = 4 ∨ (a + 7 + p.length) % 512 ≠ 0 then none
      else piecesR l f true (a + 7 + p.length) (acc ++ p)
/-- Where a record's pieces begin: zeros ahead of them are passed over. -/
def startL (l : List Int) (a : Nat) : Option Nat :=
  if 505 ≤ a % 512 then
    if a + (512 - a % 512) > l.length then none
    else if ((l.take (a + (512 - a % 512))).drop a).all (· == 0) then some (a + (512 - a % 512)) else none
  else some a
def recordL (l : List Int) (a : Nat) : Option (List Int × Nat) :=
  match startL l a with
  | none => none
  | some b => piecesR l (l.length + 1) false b []
/-- A log's records from a place on: they, where they end, and whether others stand behind them. -/
def readR (l : List Int) : Nat → Nat → List (List Int) → List (List Int) × Nat × Int
  | 0, a, acc => (acc, a, 70)
  | f + 1, a, acc =>
    if a < l.length then
      match recordL l a with
      | none => (acc, a, 70)
      | some (r, b) => readR l f b (acc ++ [r])
    else (acc, a, 0)
def readL (l : List Int) : List (List Int) × Nat × Int := readR l (l.length + 1) 0 []
theorem piecesR_ends (l : List Int) : ∀ (f : Nat) (begun : Bool) (a : Nat) (acc r : List Int) (b : Nat), piecesR l f begun a acc = some (r, b) → a + 7 ≤ b ∧ b ≤ l.length ∧ r.length + a ≤ acc.length + b := by
  intro f
  induction f with
  | zero => intro _ _ _ _ _ h; cases h
  | succ f ih =>
    intro begun a acc r b h
    unfold piecesR at h
    split at h
    · cases h
    · rename_i k p hp
      have hs := readP_some hp
      split at h
      · cases h
      · split at h
        · injection h with h
          injection h with h2 h3
          subst h2 h3
          simp only [List.length_append]
          omega
        · split at h
          · cases h
          · have := ih _ _ _ _ _ h
            simp only [List.length_append] at this
            omega
/-- More rounds answer the same. -/
theorem piecesR_more (l : List Int) : ∀ (f : Nat) (begun : Bool) (a : Nat) (acc : List Int), l.length - a < f → ∀ g, f ≤ g → piecesR l g begun a acc = piecesR l f begun a acc := by
  intro f
  induction f with
  | zero => intro _ _ _ h; omega
  | succ f ih =>
    intro begun a acc h g hg
    obtain ⟨g, rfl⟩ : ∃ m, g = m + 1 := ⟨g - 1, by omega⟩
    unfold piecesR
    split
    · rfl
    · rename_i k p hp
      have hs := readP_some hp
      split
      · rfl
      · split
        · rfl
        · split
          · rfl
          · exact ih _ _ _ (by omega) g (by omega)
theorem startL_some {l : List Int} {a b : Nat} (h : startL l a = some b) : a ≤ b ∧ b % 512 ≤ 504 ∧ (b ≤ l.length ∨ b = a) := by
  unfold startL at h
  split at h
  · split at h
    · cases h
    · split at h
      · injection h with h
        omega
      · cases h
  · injection h with h
    omega
theorem recordL_ends {l r : List Int} {a b : Nat} (h : recordL l a = some (r, b)) : a + 7 ≤ b ∧ b ≤ l.length ∧ r.length + a ≤ b := by
  unfold recordL at h
  split at h
  · cases h
  · rename_i c hc
    have h1 := startL_some hc
    have h2 := piecesR_ends l _ _ _ _ _ _ h
    simp only [List.length_nil] at h2
    omega
theorem readR_more (l : List Int) : ∀ (f a : Nat) (acc : List (List Int)), l.length - a < f → ∀ g, f ≤ g → readR l g a acc = readR l f a acc := by
  intro f
  induction f with
  | zero => intro _ _ h; omega
  | succ f ih =>
    intro a acc h g hg
    obtain ⟨g, rfl⟩ : ∃ m, g = m + 1 := ⟨g - 1, by omega⟩
    unfold readR
    split
    · split
      · rfl
      · rename_i r b hr
        have hs := recordL_ends hr
        exact ih _ _ (by omega) g (by omega)
    · rfl
theorem bytes_mid {l : List Int} (h : Bytes l) (i j : Nat) : Bytes ((l.take j).drop i) := fun x hx => h x (List.mem_of_mem_take (List.mem_of_mem_drop hx))
theorem piecesR_bytes {l : List Int} (hl : Bytes l) : ∀ (f : Nat) (begun : Bool) (a : Nat) (acc r : List Int) (b : Nat), Bytes acc → piecesR l f begun a acc = some (r, b) → Bytes r := by
  intro f
  induction f with
  | zero => intro _ _ _ _ _ _ h; cases h
  | succ f ih =>
    intro begun a acc r b ha h
    unfold piecesR at h
    split at h
    · cases h
    · rename_i k p hp
      have hs := readP_some hp
      have hpb : Bytes p := by rw [hs.2.2.2.2]; exact bytes_mid hl _ _
      split at h
      · cases h
      · split at h
        · injection h with h
          injection h with h2 h3
          subst h2
          exact bytes_app ha hpb
        · split at h
          · cases h
          · exact ih _ _ _ _ _ (bytes_app ha hpb) h
theorem recordL_bytes {l r : List Int} {a b : Nat} (hl : Bytes l) (h : recordL l a = some (r, b)) : Bytes r := by
  unfold recordL at h
  split at h
  · cases h
  · exact piecesR_bytes hl _ _ _ _ _ _ (fun _ hx => by cases hx) h
end Go.Proofs.YtnamanalacjhnaaDoor.Lr
/- What was laid in a log is read again (plain laws; no program in sight). -/
namespace Go.Proofs.YtnamanalacjhnaaDoor.Lr
open Go.RowKit Go.Proofs.YtnamanalacjhnaaDoorW.PrintWords Go.Proofs.YtnamanalacjhnaaDoor.Own Go.Proofs.YtnamanalacjhnaaDoor.G Go.Proofs.YtnamanalacjhnaaDoor.Lg
set_option linter.unusedVariables false
theorem mid_app (p x q : List Int) (i j : Nat) (hi : i = p.length) (hj : j = p.length + x.length) : ((p ++ (x ++ q)).take j).drop i = x := by
  subst hi hj
  rw [← List.append_assoc, List.take_left' (by simp), List.drop_left' rfl]
theorem rd_app (p l : List Int) (k i : Nat) (hi : i = p.length + k) : rd (p ++ l) (i : Int) = rd l (k : Int) := by
  subst hi
  simp only [rd, Int.toNat_natCast, List.getD_eq_getElem?_getD]
  rw [List.getElem?_append_right (by omega), Nat.add_sub_cancel_left]
theorem rd_take (l : List Int) (m k : Nat) (h : k < m) : rd (l.take m) (k : Int) = rd l (k : Int) := by
  simp only [rd, Int.toNat_natCast, List.getD_eq_getElem?_getD, List.getElem?_take, h, if_true]
theorem piece_split (kd : Int) (part : List Int) : pieceL kd part = fourL (sumF (bodyL kd part)) ++ bodyL kd part := rfl
theorem readP_piece (p part q : List Int) (kd a : Nat) (ha : a = p.length) (hk : 1 ≤ kd ∧ kd ≤ 4) (hl : a % 512 + 7 + part.length ≤ 512) : readP (p ++ (pieceL kd part ++ q)) a = some (kd, part) := by
  have h4 : rd (p ++ (pieceL kd part ++ q)) ((a + 4 : Nat) : Int) = ((part.length % 256 : Nat) : Int) := by rw [rd_app _ _ 4 _ (by omega)]; rfl
  have h5 : rd (p ++ (pieceL kd part ++ q)) ((a + 5 : Nat) : Int) = ((part.length / 256 % 256 : Nat) : Int) := by rw [rd_app _ _ 5 _ (by omega)]; rfl
  have h6 : rd (p ++ (pieceL kd part ++ q)) ((a + 6 : Nat) : Int) = (kd : Int) := by rw [rd_app _ _ 6 _ (by omega)]; rfl
  have hlen : (p ++ (pieceL kd part ++ q)).length = a + 7 + part.length + q.length := by simp only [List.length_append, piece_len]; omega
  unfold readP
  rw [h4, h5, h6, hlen]
  simp only
  rw [show ((((part.length % 256 : Nat) : Int) + 256 * ((part.length / 256 % 256 : Nat) : Int))).toNat = part.length by omega, Int.toNat_natCast, if_neg (by omega), if_neg (by omega)]
  have e1 : ((p ++ (pieceL kd part ++ q)).take (a + 7 + part.length)).drop (a + 4) = bodyL kd part := by
    rw [piece_split, List.append_assoc, ← List.append_assoc p]
    exact mid_app _ _ _ _ _ (by rw [List.length_append, four_len]; omega) (by rw [List.length_append, four_len, body_len]; omega)
  have e2 : ((p ++ (pieceL kd part ++ q)).take (a + 4)).drop a = fourL (sumF (bodyL kd part)) := by
    rw [piece_split, List.append_assoc]
    exact mid_app _ _ _ _ _ ha (by rw [four_len]; omega)
  have e3 : ((p ++ (pieceL kd part ++ q)).take (a + 7 + part.length)).drop (a + 7) = part := by
    rw [show p ++ (pieceL kd part ++ q) = (p ++ (fourL (sumF (bodyL kd part)) ++ [((part.length % 256 : Nat) : Int), ((part.length / 256 % 256 : Nat) : Int), (kd : Int)])) ++ (part ++ q) by simp [pieceL, bodyL]]
    exact mid_app _ _ _ _ _ (by simp [fourL]; omega) (by simp [fourL]; omega)
  rw [e1, e2, e3, if_pos rfl]
theorem readP_cut (p part : List Int) (kd : Int) (a m : Nat) (ha : a = p.length) (hl : part.length ≤ 505) (hm : m < 7 + part.length) : readP (p ++ (pieceL kd part).take m) a = none := by
  have hlen : (p ++ (pieceL kd part).take m).length = a + m := by simp only [List.length_append, List.length_take, piece_len]; omega
  unfold readP
  rw [hlen]
  by_cases h7 : m < 7
  · rw [if_pos (by omega)]
  have h4 : rd (p ++ (pieceL kd part).take m) ((a + 4 : Nat) : Int) = ((part.length % 256 : Nat) : Int) := by rw [rd_app _ _ 4 _ (by omega), rd_take _ _ _ (by omega)]; rfl
  have h5 : rd (p ++ (pieceL kd part).take m) ((a + 5 : Nat) : Int) = ((part.length / 256 % 256 : Nat) : Int) := by rw [rd_app _ _ 5 _ (by omega), rd_take _ _ _ (by omega)]; rfl
  rw [h4, h5]
  simp only
  rw [show ((((part.length % 256 : Nat) : Int) + 256 * ((part.length / 256 % 256 : Nat) : Int))).toNat = part.length by omega, if_neg (by omega), if_pos (by omega)]
def kindN (first last : Bool) : Nat := if first then (if last then 1 else 2) else if last then 4 else 3
theorem kindN_eq (f l : Bool) : kindL f l = (kindN f l : Int) := by cases f <;> cases l <;> rfl
theorem kindN_range (f l : Bool) : 1 ≤ kindN f l ∧ kindN f l ≤ 4 := by cases f <;> cases l <;> decide
theorem piecesR_pieces (n : Nat) : ∀ (first : Bool) (place : Nat) (rec p q : List Int) (a : Nat) (acc : List Int) (f : Nat), rec.length ≤ n → place ≤ 504 → (first = true ∨ 0 < rec.length) → a = p.length → a % 512 = place → (piecesL first place rec).length ≤ f →
    piecesR (p ++ (piecesL first place rec ++ q)) f (!first) a acc = some (acc ++ rec, a + (piecesL first place rec).length) := by
  induction n with
  | zero =>
    intro first place rec p q a acc f hn hp hf ha hpl hlen
    obtain rfl : first = true := by rcases hf with h | h; exact h; omega
    rw [pieces_last (by omega)] at hlen ⊢
    rw [piece_len] at hlen ⊢
    obtain ⟨f, rfl⟩ : ∃ m, f = m + 1 := ⟨f - 1, by omega⟩
    unfold piecesR
    rw [kindN_eq, readP_piece p rec q _ a ha (kindN_range _ _) (by omega)]
    simp [kindN]
    omega
  | succ n ih =>
    intro first place rec p q a acc f hn hp hf ha hpl hlen
    by_cases hl : rec.length ≤ 505 - place
    · rw [pieces_last hl] at hlen ⊢
      rw [piece_len] at hlen ⊢
      obtain ⟨f, rfl⟩ : ∃ m, f = m + 1 := ⟨f - 1, by omega⟩
      unfold piecesR
      rw [kindN_eq, readP_piece p rec q _ a ha (kindN_range _ _) (by omega)]
      cases first with
      | true => simp [kindN]; omega
      | false =>
        have : 0 < rec.length := by rcases hf with h | h; cases h; exact h
        simp [kindN]
        omega
    · have hpm := pieces_more (first := first) (place := place) (rec := rec) (by omega) hp
      have hlt : (rec.take (505 - place)).length = 505 - place := by rw [List.length_take]; omega
      have hld : (rec.drop (505 - place)).length = rec.length - (505 - place) := List.length_drop
      rw [hpm] at hlen ⊢
      rw [List.length_append, piece_len, hlt] at hlen ⊢
      obtain ⟨f, rfl⟩ : ∃ m, f = m + 1 := ⟨f - 1, by omega⟩
      unfold piecesR
      rw [List.append_assoc, kindN_eq, readP_piece p (rec.take (505 - place)) _ _ a ha (kindN_range _ _) (by omega)]
      have h0 : (a + 7 + (rec.take (505 - place)).length) % 512 = 0 := by rw [hlt]; omega
      have hr := ih false 0 (rec.drop (505 - place)) (p ++ pieceL (kindN first false) (rec.take (505 - place))) q (a + 7 + (rec.take (505 - place)).length) (acc ++ rec.take (505 - place)) f (by omega) (by omega) (.inr (by omega)) (by rw [List.length_append, piece_len]; omega) h0 (by omega)
      rw [List.append_assoc, List.append_assoc, List.take_append_drop] at hr
      cases first with
      | true =>
        have hkk : kindN true false = 2 := rfl
        rw [hkk] at hr ⊢
        dsimp only
        rw [if_neg (by decide), if_neg (by omega), if_neg (by omega)]
        refine hr.trans ?_
        rw [hlt]
        congr 2
        omega
      | false =>
        have hkk : kindN false false = 3 := rfl
        rw [hkk] at hr ⊢
        dsimp only
        rw [if_neg (by decide), if_neg (by omega), if_neg (by omega)]
        refine hr.trans ?_
        rw [hlt]
        congr 2
        omega
theorem piecesR_cut (n : Nat) : ∀ (first : Bool) (place : Nat) (rec p : List Int) (a : Nat) (acc : List Int) (f m : Nat), rec.length ≤ n → place ≤ 504 → a = p.length → a % 512 = place → m < (piecesL first place rec).length →
    piecesR (p ++ (piecesL first place rec).take m) f (!first) a acc = none := by
  induction n with
  | zero =>
    intro first place rec p a acc f m hn hp ha hpl hlen
    rw [pieces_last (by omega)] at hlen ⊢
    rw [piece_len] at hlen
    cases f with
    | zero => rfl
    | succ f =>
      unfold piecesR
      rw [readP_cut p rec _ a m ha (by omega) (by omega)]
  | succ n ih =>
    intro first place rec p a acc f m hn hp ha hpl hlen
    cases f with
    | zero => rfl
    | succ f =>
      by_cases hl : rec.length ≤ 505 - place
      · rw [pieces_last hl] at hlen ⊢
        rw [piece_len] at hlen
        unfold piecesR
        rw [readP_cut p rec _ a m ha (by omega) (by omega)]
      · have hpm := pieces_more (first := first) (place := place) (rec := rec) (by omega) hp
        have hlt : (rec.take (505 - place)).length = 505 - place := by rw [List.length_take]; omega
        have hld : (rec.drop (505 - place)).length = rec.length - (505 - place) := List.length_drop
        rw [hpm] at hlen ⊢
        rw [List.length_append, piece_len, hlt] at hlen
        by_cases hm : m < 7 + (505 - place)
        · unfold piecesR
          rw [List.take_append_of_le_length (by rw [piece_len]; omega), readP_cut p (rec.take (505 - place)) _ a m ha (by omega) (by omega)]
        · have ht : (pieceL (kindL first false) (rec.take (505 - place)) ++ piecesL false 0 (rec.drop (505 - place))).take m = pieceL (kindN first false) (rec.take (505 - place)) ++ (piecesL false 0 (rec.drop (505 - place))).take (m - (7 + (505 - place))) := by
            rw [List.take_append, List.take_of_length_le (by rw [piece_len]; omega), piece_len, hlt, kindN_eq, Nat.add_comm 7]
          rw [ht]
          unfold piecesR
          rw [readP_piece p (rec.take (505 - place)) _ _ a ha (kindN_range _ _) (by omega)]
          have h0 : (a + 7 + (rec.take (505 - place)).length) % 512 = 0 := by rw [hlt]; omega
          have hr := ih false 0 (rec.drop (505 - place)) (p ++ pieceL (kindN first false) (rec.take (505 - place))) (a + 7 + (rec.take (505 - place)).length) (acc ++ rec.take (505 - place)) f (m - (7 + (505 - place))) (by omega) (by omega) (by rw [List.length_append, piece_len]; omega) h0 (by omega)
          rw [List.append_assoc] at hr
          cases first with
          | true =>
            have hkk : kindN true false = 2 := rfl
            rw [hkk] at hr ⊢
            dsimp only
            rw [if_neg (by decide), if_neg (by omega), if_neg (by omega)]
            exact hr
          | false =>
            have hkk : kindN false false = 3 := rfl
            rw [hkk] at hr ⊢
            dsimp only
            rw [if_neg (by decide), if_neg (by omega), if_neg (by omega)]
            exact hr
theorem append_nat (a : Nat) (rec : List Int) : appendL (a : Int) rec = if 505 ≤ a % 512 then List.replicate (512 - a % 512) 0 ++ piecesL true 0 rec else piecesL true (a % 512) rec := by
  unfold appendL
  rw [show (max (a : Int) 0).toNat = a by omega]
theorem pieces_pos (first : Bool) (place : Nat) (rec : List Int) (hp : place ≤ 504) : 7 ≤ (piecesL first place rec).length := by
  by_cases hl : rec.length ≤ 505 - place
  · rw [pieces_last hl, piece_len]; omega
  · rw [pieces_more (by omega) hp, List.length_append, piece_len]; omega
theorem append_pos (a : Nat) (rec : List Int) : 7 ≤ (appendL (a : Int) rec).length := by
  rw [append_nat]
  split
  · rw [List.length_append]; have := pieces_pos true 0 rec (by omega); omega
  · exact pieces_pos _ _ _ (by omega)
theorem zeros_all (n : Nat) : (List.replicate n (0 : Int)).all (· == 0) = true := by simp
theorem recordL_append (p q rec : List Int) (a : Nat) (ha : a = p.length) : recordL (p ++ (appendL (a : Int) rec ++ q)) a = some (rec, a + (appendL (a : Int) rec).length) := by
  rw [append_nat]
  unfold recordL startL
  by_cases h : 505 ≤ a % 512
  · rw [if_pos h, if_pos h]
    obtain ⟨z, hz⟩ : ∃ z, 512 - a % 512 = z := ⟨_, rfl⟩
    rw [hz]
    have h1 : (p ++ (List.replicate z (0 : Int) ++ piecesL true 0 rec ++ q)).length = a + z + (piecesL true 0 rec).length + q.length := by simp only [List.length_append, List.length_replicate]; omega
    have h2 : ((p ++ (List.replicate z (0 : Int) ++ piecesL true 0 rec ++ q)).take (a + z)).drop a = List.replicate z 0 := by rw [List.append_assoc]; exact mid_app _ _ _ _ _ ha (by rw [List.length_replicate, ha])
    rw [h1, h2, if_neg (by omega), zeros_all, if_pos rfl]
    simp only
    have hr := piecesR_pieces rec.length true 0 rec (p ++ List.replicate z 0) q (a + z) [] (a + z + (piecesL true 0 rec).length + q.length + 1) (Nat.le_refl _) (by omega) (.inl rfl) (by rw [List.length_append, List.length_replicate, ha]) (by omega) (by omega)
    rw [show p ++ (List.replicate z (0 : Int) ++ piecesL true 0 rec ++ q) = (p ++ List.replicate z 0) ++ (piecesL true 0 rec ++ q) by simp]
    refine hr.trans ?_
    rw [List.length_append, List.length_replicate, List.nil_append, Nat.add_assoc]
  · rw [if_neg h, if_neg h]
    simp only
    have hr := piecesR_pieces rec.length true (a % 512) rec p q a [] ((p ++ (piecesL true (a % 512) rec ++ q)).length + 1) (Nat.le_refl _) (by omega) (.inl rfl) ha rfl (by simp only [List.length_append]; omega)
    exact hr
theorem recordL_cut (p rec : List Int) (a m : Nat) (ha : a = p.length) (hm : m < (appendL (a : Int) rec).length) : recordL (p ++ (appendL (a : Int) rec).take m) a = none := by
  rw [append_nat] at hm ⊢
  unfold recordL startL
  by_cases h : 505 ≤ a % 512
  · rw [if_pos h] at hm ⊢
    rw [if_pos h]
    obtain ⟨z, hz⟩ : ∃ z, 512 - a % 512 = z := ⟨_, rfl⟩
    rw [hz] at hm ⊢
    rw [List.length_append, List.length_replicate] at hm
    have h1 : (p ++ (List.replicate z (0 : Int) ++ piecesL true 0 rec).take m).length = a + m := by simp only [List.length_append, List.length_take, List.length_replicate]; omega
    rw [h1]
    by_cases hmz : m < z
    · rw [if_pos (by omega)]
    · rw [if_neg (by omega)]
      have ht : (List.replicate z (0 : Int) ++ piecesL true 0 rec).take m = List.replicate z 0 ++ (piecesL true 0 rec).take (m - z) := by rw [List.take_append, List.take_of_length_le (by rw [List.length_replicate]; omega), List.length_replicate]
      rw [ht, mid_app _ _ _ _ _ ha (by rw [List.length_replicate, ha]), zeros_all, if_pos rfl]
      simp only
      have hr := piecesR_cut rec.length true 0 rec (p ++ List.replicate z 0) (a + z) [] (a + m + 1) (m - z) (Nat.le_refl _) (by omega) (by rw [List.length_append, List.length_replicate, ha]) (by omega) (by omega)
      rw [List.append_assoc] at hr
      exact hr
  · rw [if_neg h] at hm ⊢
    rw [if_neg h]
    simp only
    exact piecesR_cut rec.length true (a % 512) rec p a [] _ m (Nat.le_refl _) (by omega) ha rfl hm
/-- A log's records from a place on, with rounds enough. -/
def readE (l : List Int) (a : Nat) (acc : List (List Int)) : List (List Int) × Nat × Int := readR l (l.length - a + 1) a acc
theorem readE_some {l r : List Int} {a b : Nat} {acc : List (List Int)} (ha : a < l.length) (h : recordL l a = some (r, b)) : readE l a acc = readE l b (acc ++ [r]) := by
  have hs := recordL_ends h
  unfold readE
  rw [readR, if_pos ha, h]
  exact readR_more l _ _ _ (by omega) _ (by omega)
theorem readE_none {l : List Int} {a : Nat} {acc : List (List Int)} (ha : a < l.length) (h : recordL l a = none) : readE l a acc = (acc, a, 70) := by
  unfold readE
  rw [readR, if_pos ha, h]
theorem readE_end {l : List Int} {a : Nat} {acc : List (List Int)} (ha : l.length ≤ a) : readE l a acc = (acc, a, 0) := by
  unfold readE
  rw [readR, if_neg (by omega)]
theorem readL_eq (l : List Int) : readL l = readE l 0 [] := rfl
/-- A log of records behind these bytes. -/
def layAll (b : List Int) : List (List Int) → List Int
  | [] => b
  | r :: rs => layAll (b ++ appendL (b.length : Int) r) rs
/-- Where each of them ends. -/
def endsL (b : List Int) : List (List Int) → List Nat
  | [] => []
  | r :: rs => (b ++ appendL (b.length : Int) r).length :: endsL (b ++ appendL (b.length : Int) r) rs
theorem layAll_pre (rs : List (List Int)) : ∀ b : List Int, ∃ q, layAll b rs = b ++ q := by
  induction rs with
  | nil => intro b; exact ⟨[], by simp [layAll]⟩
  | cons r rs ih =>
    intro b
    obtain ⟨q, hq⟩ := ih (b ++ appendL (b.length : Int) r)
    exact ⟨appendL (b.length : Int) r ++ q, by rw [layAll, hq, List.append_assoc]⟩
theorem layAll_snoc (rs : List (List Int)) (r : List Int) : ∀ b : List Int, layAll b (rs ++ [r]) = layAll b rs ++ appendL ((layAll b rs).length : Int) r := by
  induction rs with
  | nil => intro b; rfl
  | cons x rs ih => intro b; exact ih _
theorem endsL_snoc (rs : List (List Int)) (r : List Int) : ∀ b : List Int, endsL b (rs ++ [r]) = endsL b rs ++ [(layAll b (rs ++ [r])).length] := by
  induction rs with
  | nil => intro b; rfl
  | cons x rs ih => intro b; simp only [List.cons_append, endsL, layAll, ih]
theorem readE_lay (rs : List (List Int)) : ∀ (b q : List Int) (acc : List (List Int)), readE (layAll b rs ++ q) b.length acc = readE (layAll b rs ++ q) (layAll b rs).length (acc ++ rs) := by
  induction rs with
  | nil => intro b q acc; simp [layAll]
  | cons r rs ih =>
    intro b q acc
    obtain ⟨s, hs⟩ := layAll_pre rs (b ++ appendL (b.length : Int) r)
    have hp := append_pos b.length r
    have h1 : layAll b (r :: rs) ++ q = b ++ (appendL (b.length : Int) r ++ (s ++ q)) := by rw [layAll, hs]; simp
    have h2 := recordL_append b (s ++ q) r b.length rfl
    rw [← h1] at h2
    rw [readE_some (by rw [h1]; simp only [List.length_append]; omega) h2, ← List.length_append]
    have h3 := ih (b ++ appendL (b.length : Int) r) q (acc ++ [r])
    rw [List.append_assoc acc, List.singleton_append] at h3
    exact h3
/-- All of them are read. -/
theorem read_back (rs : List (List Int)) : readL (layAll [] rs) = (rs, (layAll [] rs).length, 0) := by
  have h := readE_lay rs [] [] []
  rw [List.append_nil, List.nil_append, List.length_nil] at h
  rw [readL_eq, h, readE_end (Nat.le_refl _)]
theorem readR_pre (l : List Int) : ∀ (f a : Nat) (acc : List (List Int)), ∃ s, (readR l f a acc).1 = acc ++ s ∧ a ≤ (readR l f a acc).2.1 := by
  intro f
  induction f with
  | zero => intro a acc; exact ⟨[], by simp [readR], Nat.le_refl _⟩
  | succ f ih =>
    intro a acc
    unfold readR
    split
    · split
      · exact ⟨[], by simp, Nat.le_refl _⟩
      · rename_i r b hr
        obtain ⟨s, h1, h2⟩ := ih b (acc ++ [r])
        have := recordL_ends hr
        exact ⟨r :: s, by rw [h1]; simp, by omega⟩
    · exact ⟨[], by simp, Nat.le_refl _⟩
/-- With other bytes behind them at least these. -/
theorem read_more (rs : List (List Int)) (q : List Int) : ∃ s, (readL (layAll [] rs ++ q)).1 = rs ++ s ∧ (layAll [] rs).length ≤ (readL (layAll [] rs ++ q)).2.1 := by
  have h := readE_lay rs [] q []
  rw [List.nil_append, List.length_nil] at h
  rw [readL_eq, h]
  exact readR_pre _ _ _ _
/-- Of a first part the records that lie wholly in it. -/
theorem readE_cut (rs : List (List Int)) : ∀ (b : List Int) (acc : List (List Int)) (cut : Nat), b.length ≤ cut → cut ≤ (layAll b rs).length →
    ∃ k, k ≤ rs.length ∧ (layAll b (rs.take k)).length ≤ cut ∧ (∀ j, k < j → j ≤ rs.length → cut < (layAll b (rs.take j)).length) ∧ readE ((layAll b rs).take cut) b.length acc = (acc ++ rs.take k, (layAll b (rs.take k)).length, if (layAll b (rs.take k)).length = cut then 0 else 70) := by
  induction rs with
  | nil =>
    intro b acc cut h1 h2
    simp only [layAll] at h2 ⊢
    obtain rfl : cut = b.length := by omega
    refine ⟨0, Nat.le_refl _, by simp [layAll], fun j h1 h2 => by simp at h2; omega, ?_⟩
    rw [List.take_length, readE_end (Nat.le_refl _)]
    simp [layAll]
  | cons r rs ih =>
    intro b acc cut h1 h2
    obtain ⟨s, hs⟩ := layAll_pre rs (b ++ appendL (b.length : Int) r)
    have hp := append_pos b.length r
    have hl : layAll b (r :: rs) = b ++ (appendL (b.length : Int) r ++ s) := by rw [layAll, hs]; simp
    have htl : ((layAll b (r :: rs)).take cut).length = cut := by rw [List.length_take]; omega
    by_cases hc : cut < b.length + (appendL (b.length : Int) r).length
    · refine ⟨0, Nat.zero_le _, by simpa [layAll] using h1, fun j hj hj2 => ?_, ?_⟩
      · obtain ⟨j, rfl⟩ : ∃ m, j = m + 1 := ⟨j - 1, by omega⟩
        obtain ⟨s', hs'⟩ := layAll_pre (rs.take j) (b ++ appendL (b.length : Int) r)
        rw [List.take_succ_cons, layAll, hs']
        simp only [List.length_append]
        omega
      · have ht : (layAll b (r :: rs)).take cut = b ++ (appendL (b.length : Int) r).take (cut - b.length) := by
          rw [hl, List.take_append, List.take_of_length_le h1, List.take_append_of_le_length (by omega)]
        rw [List.take_zero, List.append_nil, show layAll b [] = b from rfl]
        by_cases he : b.length = cut
        · rw [if_pos he, readE_end (by omega)]
        · rw [if_neg he, readE_none (by omega) (by rw [ht]; exact recordL_cut b r b.length _ rfl (by omega))]
    · obtain ⟨k, hk, h3, h4, h5⟩ := ih (b ++ appendL (b.length : Int) r) (acc ++ [r]) cut (by rw [List.length_append]; omega) h2
      refine ⟨k + 1, by simpa using hk, by simpa [layAll] using h3, fun j hj hj2 => ?_, ?_⟩
      · obtain ⟨j, rfl⟩ : ∃ m, j = m + 1 := ⟨j - 1, by omega⟩
        rw [List.take_succ_cons, layAll]
        exact h4 j (by omega) (by simpa using hj2)
      · have ht : (layAll b (r :: rs)).take cut = b ++ (appendL (b.length : Int) r ++ s.take (cut - (b.length + (appendL (b.length : Int) r).length))) := by
          rw [hl, ← List.append_assoc, List.take_append, List.take_of_length_le (by rw [List.length_append]; omega), List.length_append, List.append_assoc]
        have hr := recordL_append b (s.take (cut - (b.length + (appendL (b.length : Int) r).length))) r b.length rfl
        rw [← ht] at hr
        rw [readE_some (by omega) hr, ← List.length_append]
        refine h5.trans ?_
        simp only [List.take_succ_cons, layAll, List.append_assoc, List.singleton_append]
end Go.Proofs.YtnamanalacjhnaaDoor.Lr
/- Bytes and texts (this claim's own lemmas). -/
namespace Go.Proofs.YtnamanalacjhnaaDoor.Lr
open Go.RowKit Go.Proofs.YtnamanalacjhnaaDoorW.PrintWords Go.Proofs.YtnamanalacjhnaaDoor.Own Go.Proofs.YtnamanalacjhnaaDoor.Wk Go.Proofs.YtnamanalacjhnaaDoor.G Go.Proofs.YtnamanalacjhnaaDoor.Lg
set_option linter.unusedVariables false
theorem nums_inj (l : List Int) : ∀ f : List Int, Bytes l → Bytes f → (l.map fun n => UInt8.ofNat n.toNat) = (f.map fun n => UInt8.ofNat n.toNat) → l = f := by
  induction l with
  | nil =>
    intro f _ _ he
    cases f with
    | nil => rfl
    | cons => simp at he
  | cons a l ih =>
    intro f hl hf he
    cases f with
    | nil => simp at he
    | cons b f =>
      simp only [List.map_cons, List.cons.injEq] at he
      have ha := hl a (by simp)
      have hb := hf b (by simp)
      rw [ih f (fun y hy => hl y (by simp [hy])) (fun y hy => hf y (by simp [hy])) he.2]
      have h1 := congrArg UInt8.toNat he.1
      simp only [UInt8.toNat_ofNat'] at h1
      congr 1
      omega
theorem nums_eq {l f : List Int} (hl : Bytes l) (hf : Bytes f) : (strOfNums l == strOfNums f) = decide (l = f) := by
  rw [beq_toListBytes, ByteArray.toList_eq, ByteArray.toList_eq, strOfNums_data, strOfNums_data]
  rw [Bool.eq_iff_iff, beq_iff_eq, decide_eq_true_iff]
  exact ⟨nums_inj l f hl hf, fun h => by rw [h]⟩
theorem nums_ne {l f : List Int} (hl : Bytes l) (hf : Bytes f) (h : l ≠ f) : strOfNums l ≠ strOfNums f := fun e => by
  have h1 := congrArg (fun s : ByteArray => s.data.toList) e
  simp only [strOfNums_data] at h1
  exact h (nums_inj l f hl hf h1)
end Go.Proofs.YtnamanalacjhnaaDoor.Lr
/- log.read (this claim's own lemmas). -/
namespace Go.Proofs.YtnamanalacjhnaaDoor.Lr
open Go.RowKit Go.Proofs.YtnamanalacjhnaaDoorW.PrintWords Go.Proofs.YtnamanalacjhnaaDoor.Own Go.Proofs.YtnamanalacjhnaaDoor.Wk Go.Proofs.YtnamanalacjhnaaDoor.G Go.Proofs.YtnamanalacjhnaaDoor.Lg Go.Proofs.YtnamanalacjhnaaDoor.QBk
set_option linter.unusedVariables false
theorem infoU : (Tryd.prog.info? 5).map (fun i => (i.zero, i.size, i.bytes)) = some (some (.int .u8 0), 1, 1) := by kernel_rfl
theorem i64_nat {n : Nat} (h : n < 9223372036854775808) : IntKind.i64.wrap (n : Int) = (n : Int) := by
  simp [IntKind.wrap, IntKind.bits, IntKind.signed]
  omega
theorem wraps4 (a p : Nat) (h : a + 4 = p) (hp : p ≤ 4294967296) : IntKind.i64.wrap ((a : Int) + 4) = (p : Int) ∧ IntKind.i64.wrap (p : Int) = (p : Int) ∧ wrap64 (p : Int) = (p : Int) := by
  have h1 : IntKind.i64.wrap (p : Int) = (p : Int) := i64_nat (by omega)
  refine ⟨?_, h1, by unfold wrap64; omega⟩
  rw [show (a : Int) + 4 = (p : Int) by omega]
  exact h1
theorem beq_str (s1 s2 : ByteArray) : (s1 == s2) = (s1.toList == s2.toList) := by rw [beq_toListBytes]
theorem cSum {w : World} {A : Option Addr} {n c : Nat} {l : List Int} (h : Rd (Kd.int .u8) w A n c l) (hb : Bytes l) (hT : GT w) : Calls Tryd.prog 62 #[.slice A n c] w (fun e w' => e = .returned (.int .u32 (sumF l)) ∧ w' = w) := by
  obtain ⟨rfl, a2, a3⟩ := h
  exact codec_Sum.calls A c l (sumF l) w a3 a2 (by unfold codec_Sum.f; rw [if_pos (okB_iff.2 hb)]) hT
theorem cFour {w : World} {x : Int} (hx : U32 x) : Calls Tryd.prog 61 #[.int .u32 x] w (Made (Kd.int .u8) 5 w (fourL x)) :=
  (log_four.calls x (fourL x) w (by unfold log_four.f; rw [four_eq hx])).mono fun _ _ h => Made.of h
/-- What 'read' answers. -/
def ReadPost (w : World) (r : Option (Nat × List Int)) (e : Ending) (w' : World) : Prop :=
  (match r with
  | none => e = .returned (.tuple #[.int .i64 0, .slice none 0 0, .bool false])
  | some (k, p) => ∃ A n c, e = .returned (.tuple #[.int .i64 (k : Int), .slice A n c, .bool true]) ∧ Rd (Kd.int .u8) w A n c p) ∧ Below w.heap.size w w'
set_option maxHeartbeats 4000000 in
set_option maxRecDepth 100000 in
theorem read_calls {w : World} {A : Option Addr} {m c : Nat} {l : List Int} {a : Nat} (h : Rd (Kd.int .u8) w A m c l) (hb : Bytes l) (hl : l.length ≤ 2147483647) (ha : a ≤ m) (hT : GT w) :
    Calls Tryd.prog 66 #[.slice A m c, .int .i64 (a : Int)] w (ReadPost w (readP l a)) := by
  have hm := h.1
  subst hm
  have HR := Aside0.mk h
  have HB := Aside0.mk hb
  have HT := Aside0.mk hT
  clear h hT
  by_cases c1 : l.length - a < 7
  · have d1 : decide ((l.length : Int) - (a : Int) < 7) = true := decide_eq_true (by omega)
    have HE : Aside0 (readP l a = none) := ⟨by unfold readP; rw [if_pos c1]⟩
    clear c1 hb
    go_enter Tryd.func66, Tryd.ntmps66
    go_wp2_with fail
    go_ret3
    rw [HE.out]
    exact ⟨rfl, Below.refl _ _⟩
  have d1 : decide ((l.length : Int) - (a : Int) < 7) = false := decide_eq_false (by omega)
  obtain ⟨p4, hp4⟩ : ∃ p4 : Nat, a + 4 = p4 := ⟨_, rfl⟩
  obtain ⟨p5, hp5⟩ : ∃ p5 : Nat, a + 5 = p5 := ⟨_, rfl⟩
  obtain ⟨p6, hp6⟩ : ∃ p6 : Nat, a + 6 = p6 := ⟨_, rfl⟩
  obtain ⟨p7, hp7⟩ : ∃ p7 : Nat, a + 7 = p7 := ⟨_, rfl⟩
  have e4 : (a : Int) + 4 = (p4 : Int) := by omega
  have W4 := Aside0.mk (wraps4 a p4 hp4 (by omega))
  have e5 : (a : Int) + 5 = (p5 : Int) := by omega
  have e6 : (a : Int) + 6 = (p6 : Int) := by omega
  have e7 : (a : Int) + 7 = (p7 : Int) := by omega
  obtain ⟨ad, hA, x4⟩ := Kd.at_int HR.out.2.2 (p4 : Int) (by omega) (by omega)
  subst hA
  obtain ⟨ad5, hA5, x5⟩ := Kd.at_int HR.out.2.2 (p5 : Int) (by omega) (by omega)
  obtain rfl := Option.some.inj hA5
  obtain ⟨ad6, hA6, x6⟩ := Kd.at_int HR.out.2.2 (p6 : Int) (by omega) (by omega)
  obtain rfl := Option.some.inj hA6
  rw [Int.toNat_natCast] at x4 x5 x6
  have l4 : (p4 < l.length) = True := eq_true (by omega)
  have l5 : (p5 < l.length) = True := eq_true (by omega)
  have l6 : (p6 < l.length) = True := eq_true (by omega)
  have B4 : 0 ≤ rd l (p4 : Int) ∧ rd l (p4 : Int) ≤ 255 := bytes_rd HB.out p4 (by omega)
  have B5 : 0 ≤ rd l (p5 : Int) ∧ rd l (p5 : Int) ≤ 255 := bytes_rd HB.out p5 (by omega)
  have B6 : 0 ≤ rd l (p6 : Int) ∧ rd l (p6 : Int) ≤ 255 := bytes_rd HB.out p6 (by omega)
  obtain ⟨b4, hb4⟩ : ∃ b4 : Nat, rd l (p4 : Int) = (b4 : Int) := ⟨(rd l (p4 : Int)).toNat, by omega⟩
  obtain ⟨b5, hb5⟩ : ∃ b5 : Nat, rd l (p5 : Int) = (b5 : Int) := ⟨(rd l (p5 : Int)).toNat, by omega⟩
  obtain ⟨kd, hb6⟩ : ∃ kd : Nat, rd l (p6 : Int) = (kd : Int) := ⟨(rd l (p6 : Int)).toNat, by omega⟩
  rw [hb4] at x4
  rw [hb5] at x5
  rw [hb6] at x6
  clear hA5 hA6
  obtain ⟨n, hn⟩ : ∃ n : Nat, b4 + b5 * 256 = n := ⟨_, rfl⟩
  obtain ⟨n7, hn7⟩ : ∃ n7 : Nat, 7 + n = n7 := ⟨_, rfl⟩
  have en : (b4 : Int) + (b5 : Int) * 256 = (n : Int) := by omega
  have en7 : (7 : Int) + (n : Int) = (n7 : Int) := by omega
  have HP : Aside0 (readP l a = if 7 + n > 512 - a % 512 ∨ 7 + n > l.length - a ∨ kd < 1 ∨ kd > 4 then none else if fourL (sumF ((l.take (p7 + n)).drop p4)) = (l.take p4).drop a then some (kd, (l.take (p7 + n)).drop p7) else none) := ⟨by
    unfold readP
    rw [if_neg c1]
    simp only
    rw [hp4, hp5, hp6, hp7, hb4, hb5, hb6, show ((b4 : Int) + 256 * (b5 : Int)).toNat = n by omega, Int.toNat_natCast]⟩
  obtain ⟨rm, hrm⟩ : ∃ rm : Nat, 512 - a % 512 = rm := ⟨_, rfl⟩
  have HRM : Aside0 (log_room.f (a : Int) = some (rm : Int)) := ⟨by rw [← hrm]; exact room_eq (a : Int) (a % 512) (by rw [Int.tmod_eq_emod_of_nonneg (by omega)]; omega) (by omega)⟩
  go_enter Tryd.func66, Tryd.ntmps66
  go_wp2_with fail
  repeat (go_quiet (fail); try (go_wp2_with fail))
  refine (log_room.calls (a : Int) (rm : Int) _ HRM.out).mono ?_
  rintro e w1 ⟨rfl, hD⟩
  have B1 : Aside0 (Below w.heap.size w w1) := ⟨below_then (pw_below_drewN (Below.refl _ _) _) (by simp [World.drewN]) hD.below⟩
  clear hD
  have dE := And.intro hrm hn7
  by_cases c2 : n7 > rm
  · have d2 : decide ((rm : Int) < (n7 : Int)) = true := decide_eq_true (by omega)
    have d2' : decide (rm < n7) = true := decide_eq_true c2
    have HE : Aside0 (readP l a = none) := ⟨by rw [HP.out, if_pos (by omega)]⟩
    clear c2
    go_wp2_with fail
    go_ret3
    rw [HE.out]
    exact ⟨rfl, B1.out⟩
  have d2 : decide ((rm : Int) < (n7 : Int)) = false := decide_eq_false (by omega)
  have d2' : decide (rm < n7) = false := decide_eq_false c2
  by_cases c3 : n7 > l.length - a
  · have d3 : decide ((l.length : Int) - (a : Int) < (n7 : Int)) = true := decide_eq_true (by omega)
    have HE : Aside0 (readP l a = none) := ⟨by rw [HP.out, if_pos (by omega)]⟩
    clear c3
    go_wp2_with fail
    go_ret3
    rw [HE.out]
    exact ⟨rfl, B1.out⟩
  have d3 : decide ((l.length : Int) - (a : Int) < (n7 : Int)) = false := decide_eq_false (by omega)
  by_cases c4 : kd < 1
  · have d4 : decide ((kd : Int) < 1) = true := decide_eq_true (by omega)
    have d4' : decide (kd < 1) = true := decide_eq_true c4
    have HE : Aside0 (readP l a = none) := ⟨by rw [HP.out, if_pos (by omega)]⟩
    clear c4
    go_wp2_with fail
    go_ret3
    rw [HE.out]
    exact ⟨rfl, B1.out⟩
  have d4 : decide ((kd : Int) < 1) = false := decide_eq_false (by omega)
  have d4' : decide (kd < 1) = false := decide_eq_false c4
  by_cases c5 : kd > 4
  · have d5 : decide ((4 : Int) < (kd : Int)) = true := decide_eq_true (by omega)
    have d5' : decide (4 < kd) = true := decide_eq_true c5
    have HE : Aside0 (readP l a = none) := ⟨by rw [HP.out, if_pos (by omega)]⟩
    clear c5
    go_wp2_with fail
    go_ret3
    rw [HE.out]
    exact ⟨rfl, B1.out⟩
  have d5 : decide ((4 : Int) < (kd : Int)) = false := decide_eq_false (by omega)
  have d5' : decide (4 < kd) = false := decide_eq_false c5
  obtain ⟨E, hE⟩ : ∃ E : Nat, p7 + n = E := ⟨_, rfl⟩
  have eE : (p7 : Int) + (n : Int) = (E : Int) := by omega
  have HP2 : Aside0 (readP l a = if fourL (sumF ((l.take E).drop p4)) = (l.take p4).drop a then some (kd, (l.take E).drop p7) else none) := ⟨by rw [HP.out, if_neg (by omega), hE]⟩
  clear HP
  obtain ⟨As, hs1, hr1⟩ := Rd.mid (P := Tryd.prog) (t := 22) (Kd.int .u8) Tryd.underlying22 infoU .i64 .i64 (some ad) l.length c p4 E (by omega) (by omega) HR.out.2.1
  obtain ⟨Ah, hs2, hr2⟩ := Rd.mid (P := Tryd.prog) (t := 22) (Kd.int .u8) Tryd.underlying22 infoU .i64 .i64 (some ad) l.length c a p4 (by omega) (by omega) HR.out.2.1
  obtain ⟨Ap, hs3, hr3⟩ := Rd.mid (P := Tryd.prog) (t := 22) (Kd.int .u8) Tryd.underlying22 infoU .i64 .i64 (some ad) l.length c p7 E (by omega) (by omega) HR.out.2.1
  have R1 := Aside0.mk (hr1 w l HR.out)
  have R2 := Aside0.mk (hr2 w l HR.out)
  have R3 := Aside0.mk (hr3 w l HR.out)
  obtain ⟨n1, hn1⟩ : ∃ n1, E - p4 = n1 := ⟨_, rfl⟩
  obtain ⟨n2, hn2⟩ : ∃ n2, p4 - a = n2 := ⟨_, rfl⟩
  obtain ⟨n3, hn3⟩ : ∃ n3, E - p7 = n3 := ⟨_, rfl⟩
  rw [hn1] at hs1 R1
  rw [hn2] at hs2 R2
  rw [hn3] at hs3 R3
  have G4 : Aside0 ((0 : Int) ≤ (p4 : Int) ∧ (p4 : Int) ≤ (E : Int) ∧ (E : Int) ≤ (l.length : Int)) := ⟨by omega⟩
  clear hr1 hr2 hr3 c1 c2 c3 c4 c5
  obtain ⟨X, hX⟩ : ∃ X, sumF ((l.take E).drop p4) = X := ⟨_, rfl⟩
  obtain ⟨bd, hbd⟩ : ∃ bd, (l.take E).drop p4 = bd := ⟨_, rfl⟩
  obtain ⟨hd, hhd⟩ : ∃ hd, (l.take p4).drop a = hd := ⟨_, rfl⟩
  rw [hbd] at hX R1
  have HXX := Aside0.mk hX
  rw [hhd] at R2
  have HBD : Aside0 (Bytes bd ∧ Bytes hd) := ⟨by rw [← hbd, ← hhd]; exact ⟨fun x hx => HB.out x (List.mem_of_mem_take (List.mem_of_mem_drop hx)), fun x hx => HB.out x (List.mem_of_mem_take (List.mem_of_mem_drop hx))⟩⟩
  have HBY := Aside0.mk HBD.out.1
  have HX : Aside0 (U32 X) := ⟨by rw [← hX]; exact sumF_range HBY.out⟩
  obtain ⟨s1, hs1'⟩ : ∃ s1, strOfNums (fourL X) = s1 := ⟨_, rfl⟩
  obtain ⟨s2, hs2'⟩ : ∃ s2, strOfNums hd = s2 := ⟨_, rfl⟩
  have HS1 := Aside0.mk hs1'
  have HS2 := Aside0.mk hs2'
  have HL2 := Aside0.mk R2.out.1
  have RC : Aside0 (Kd.C (Kd.int .u8) w Ah hd.length hd) := ⟨by rw [R2.out.1]; exact R2.out.2.2⟩
  rw [hbd, hX, hhd] at HP2
  have hcvA := Kd.C_string (P := Tryd.prog) (w := w1.drew) (A := Ah) (c := c - a) Tryd.underlying22 Tryd.underlying5 Tryd.underlying9 (Kd.C_below RC.out (below_drew B1.out))
  rw [HS2.out, HL2.out] at hcvA
  have w4 := W4.out.1
  have w4' := W4.out.2.1
  have g4 := G4.out.1
  have g4' := G4.out.2.1
  have gE := G4.out.2.2
  by_cases hq : fourL X = hd
  · have hss : s1 = s2 := by rw [← hs1', ← hs2', hq]
    subst hss
    have f1 : (s1.toList == s1.toList) = true := beq_self_eq_true _
    have f2 : (s1.toList != s1.toList) = false := by rw [bne, f1]; rfl
    have f3 : (s1 == s1) = true := by rw [beq_str]; exact f1
    have f4 : (s1 != s1) = false := by rw [bne, f3]; rfl
    have HE : Aside0 (readP l a = some (kd, (l.take E).drop p7)) := ⟨by rw [HP2.out, if_pos hq]⟩
    clear hq hX hbd hhd hs1' hs2' HP2
    go_upto_region 7 with fail
    go_cut [75] (fun s75 wx => s75 = .bool false ∧ Aside0 (Below w.heap.size w wx))
    case first =>
      go_region_with (first
        | (go_at_call 62; (have hcall := cSum (w := w1.drew) (R1.out.step (below_drew B1.out)) HBY.out (GT.below HT.out (below_drew B1.out))); rw [HXX.out] at hcall; refine hcall.mono ?_; clear hcall; rintro e wb ⟨rfl, rfl⟩)
        | (go_at_call 61; (have hcall := cFour (w := w1.drew) HX.out); refine hcall.mono ?_; clear hcall; rintro e wb ⟨A4, n4, c4, r4, rfl, h4, hd4, -, hb4⟩; (have B2 := Aside0.mk (below_step (below_drew B1.out) hb4)); obtain ⟨rfl, hc4, hC4⟩ := hd4; (have hcvB := Kd.C_string (P := Tryd.prog) (w := wb) (A := A4) (c := c4) Tryd.underlying22 Tryd.underlying5 Tryd.underlying9 hC4); rw [show strOfNums r4 = s1 by rw [h4]; exact HS1.out] at hcvB; (have hcvC := Kd.C_string (P := Tryd.prog) (w := wb) (A := Ah) (c := c - a) Tryd.underlying22 Tryd.underlying5 Tryd.underlying9 (Kd.C_below RC.out B2.out)); rw [HS2.out, HL2.out] at hcvC; clear h4 hc4 hC4 hb4))
      all_goals (try go_wp2)
      all_goals (go_meet; case rel => exact ⟨rfl, B2⟩)
    case rest =>
      obtain ⟨rfl, B⟩ := hcut
      clear hcvA
      go_wp2_with fail
      repeat (go_quiet (fail); try (go_wp2_with fail))
      go_ret3
      rw [HE.out]
      exact ⟨⟨Ap, n3, c - p7, rfl, R3.out⟩, by first | exact B.out | exact pw_below_drewN B.out _⟩
  · have hne := nums_eq (bytes_four HX.out) HBD.out.2
    rw [hs1', hs2', decide_eq_false hq] at hne
    have f1 : (s1.toList == s2.toList) = false := by rw [← beq_str]; exact hne
    have f2 : (s1.toList != s2.toList) = true := by rw [bne, f1]; rfl
    have f3 : (s1 == s2) = false := by rw [beq_str]; exact f1
    have f4 : (s1 != s2) = true := by rw [bne, f3]; rfl
    have HE : Aside0 (readP l a = none) := ⟨by rw [HP2.out, if_neg hq]⟩
    clear hq hX hbd hhd hs1' hs2' HP2 hne
    go_upto_region 7 with fail
    go_cut [75] (fun s75 wx => s75 = .bool true ∧ Aside0 (Below w.heap.size w wx))
    case first =>
      go_region_with (first
        | (go_at_call 62; (have hcall := cSum (w := w1.drew) (R1.out.step (below_drew B1.out)) HBY.out (GT.below HT.out (below_drew B1.out))); rw [HXX.out] at hcall; refine hcall.mono ?_; clear hcall; rintro e wb ⟨rfl, rfl⟩)
        | (go_at_call 61; (have hcall := cFour (w := w1.drew) HX.out); refine hcall.mono ?_; clear hcall; rintro e wb ⟨A4, n4, c4, r4, rfl, h4, hd4, -, hb4⟩; (have B2 := Aside0.mk (below_step (below_drew B1.out) hb4)); obtain ⟨rfl, hc4, hC4⟩ := hd4; (have hcvB := Kd.C_string (P := Tryd.prog) (w := wb) (A := A4) (c := c4) Tryd.underlying22 Tryd.underlying5 Tryd.underlying9 hC4); rw [show strOfNums r4 = s1 by rw [h4]; exact HS1.out] at hcvB; (have hcvC := Kd.C_string (P := Tryd.prog) (w := wb) (A := Ah) (c := c - a) Tryd.underlying22 Tryd.underlying5 Tryd.underlying9 (Kd.C_below RC.out B2.out)); rw [HS2.out, HL2.out] at hcvC; clear h4 hc4 hC4 hb4))
      all_goals (try go_wp2)
      all_goals (go_meet; case rel => exact ⟨rfl, B2⟩)
    case rest =>
      obtain ⟨rfl, B⟩ := hcut
      clear hcvA
      go_wp2_with fail
      go_ret3
      rw [HE.out]
      exact ⟨rfl, B.out⟩
end Go.Proofs.YtnamanalacjhnaaDoor.Lr
/- log.record (this claim's own lemmas). -/
namespace Go.Proofs.YtnamanalacjhnaaDoor.Lr
open Go.RowKit Go.Proofs.YtnamanalacjhnaaDoorW.PrintWords Go.Proofs.YtnamanalacjhnaaDoor.Own Go.Proofs.YtnamanalacjhnaaDoor.Wk Go.Proofs.YtnamanalacjhnaaDoor.G Go.Proofs.YtnamanalacjhnaaDoor.Lg Go.Proofs.YtnamanalacjhnaaDoor.QBk
set_option linter.unusedVariables false
/-- What 'record' answers. -/
def RecPost (w : World) (r : Option (List Int × Nat)) (e : Ending) (w' : World) : Prop :=
  (match r with
  | none => e = .returned (.tuple #[.slice none 0 0, .int .i64 0, .bool false])
  | some (x, n) => ∃ v, e = .returned (.tuple #[v, .int .i64 (n : Int), .bool true]) ∧ Kd.R (Kd.int .u8) 5 w' w.heap.size (fun _ => True) v x) ∧ Below w.heap.size w w'
theorem mid_all (l : List Int) (a z k : Nat) (h : a + z ≤ l.length) (hk : k < z) : rd ((l.take (a + z)).drop a) (k : Int) = rd l ((a + k : Nat) : Int) := by
  simp only [rd, Int.toNat_natCast, List.getD_eq_getElem?_getD, List.getElem?_drop, List.getElem?_take]
  rw [if_pos (by omega)]
theorem all_step (l : List Int) (k : Nat) (h : k < l.length) : (l.take (k + 1)).all (· == 0) = ((l.take k).all (· == 0) && (rd l (k : Int) == 0)) := by
  rw [List.take_succ_eq_append_getElem h, List.all_append]
  simp [rd, List.getD_eq_getElem?_getD, h]
theorem all_not (l : List Int) (k : Nat) (h : k < l.length) (hx : (rd l (k : Int) == 0) = false) : l.all (· == 0) = false := by
  rw [← List.take_append_drop (k + 1) l, List.all_append, all_step l k h, hx]
  simp
set_option maxHeartbeats 8000000 in
set_option maxRecDepth 100000 in
theorem record_calls {w : World} {A : Option Addr} {m c : Nat} {l : List Int} {a : Nat} (h : Rd (Kd.int .u8) w A m c l) (hb : Bytes l) (hl : l.length ≤ 2147483647) (ha : a ≤ m) (hT : GT w) :
    Calls Tryd.prog 50 #[.slice A m c, .int .i64 (a : Int)] w (RecPost w (recordL l a)) := by
  have hm := h.1
  subst hm
  have HR := Aside0.mk h
  have HB := Aside0.mk hb
  have HT := Aside0.mk hT
  obtain ⟨r, hr⟩ : ∃ r, r = recordL l a := ⟨_, rfl⟩
  rw [← hr]
  have HRR : Aside0 (r = match startL l a with | none => none | some b => piecesR l (l.length + 1) false b []) := ⟨hr⟩
  clear h hT hr hb
  obtain ⟨z, hz⟩ : ∃ z : Nat, 512 - a % 512 = z := ⟨_, rfl⟩
  have HRM : Aside0 (log_room.f (a : Int) = some (z : Int)) := ⟨by rw [← hz]; exact room_eq (a : Int) (a % 512) (by rw [Int.tmod_eq_emod_of_nonneg (by omega)]; omega) (by omega)⟩
  have hz1 : 1 ≤ z ∧ z ≤ 512 := by omega
  have HZ : Aside0 (505 ≤ a % 512 ↔ z ≤ 7) := ⟨by omega⟩
  have HZ2 : Aside0 (a + (512 - a % 512) = a + z) := ⟨by rw [hz]⟩
  obtain ⟨hz1, hz2⟩ := hz1
  clear hz
  go_enter Tryd.func50, Tryd.ntmps50
  go_wp2_with fail
  refine (log_room.calls (a : Int) (z : Int) w HRM.out).mono ?_
  rintro e w1 ⟨rfl, hD⟩
  have HB1 : Aside0 (Below w.heap.size w w1) := ⟨hD.below⟩
  clear hD
  go_upto_if 19 with fail
  go_cut [1] (fun s1 wx => ∃ s : Nat, s1 = .int .i64 (s : Int) ∧ s ≤ l.length ∧ Aside0 (startL l a = some s) ∧ Aside0 (Below w.heap.size w wx))
  case first =>
    by_cases h7 : z ≤ 7
    · have d7 : decide ((z : Int) ≤ 7) = true := decide_eq_true (by omega)
      have d7' : decide (z ≤ 7) = true := decide_eq_true (by omega)
      obtain ⟨E, hE⟩ : ∃ E : Nat, a + z = E := ⟨_, rfl⟩
      have eE : (a : Int) + (z : Int) = (E : Int) := by omega
      by_cases hbig : E > l.length
      · have d8 : decide ((l.length : Int) < (E : Int)) = true := decide_eq_true (by omega)
        have d8' : decide (l.length < E) = true := decide_eq_true (by omega)
        have HE : Aside0 (r = none) := ⟨by have h1 := HRR.out; unfold startL at h1; rw [if_pos (HZ.out.2 h7), HZ2.out, hE, if_pos hbig] at h1; exact h1⟩
        clear hE
        go_wp2_with fail
        go_ret3
        rw [HE.out]
        exact ⟨rfl, HB1.out⟩
      have d8 : decide ((l.length : Int) < (E : Int)) = false := decide_eq_false (by omega)
      have d8' : decide (l.length < E) = false := decide_eq_false (by omega)
      obtain ⟨As, hs1, hr1⟩ := Rd.mid (P := Tryd.prog) (t := 22) (Kd.int .u8) Tryd.underlying22 infoU .i64 .i64 A l.length c a E (by omega) (by omega) HR.out.2.1
      have R1 := Aside0.mk ((hr1 w l HR.out).step HB1.out)
      obtain ⟨zs, hzs⟩ : ∃ zs, (l.take E).drop a = zs := ⟨_, rfl⟩
      obtain ⟨n1, hn1⟩ : ∃ n1, E - a = n1 := ⟨_, rfl⟩
      rw [hzs, hn1] at R1
      rw [hn1] at hs1
      have HS : Aside0 (startL l a = if zs.all (· == 0) then some E else none) := ⟨by unfold startL; rw [if_pos (HZ.out.2 h7), HZ2.out, hE, if_neg hbig, hzs]⟩
      have hln : zs.length = n1 := R1.out.1
      have hn7 : n1 ≤ 7 := by omega
      have hn0 : 0 < n1 := by omega
      have hEl : E ≤ l.length := by omega
      have HN1 := Aside0.mk hln
      have ga : (0 : Int) ≤ (a : Int) := by omega
      have gb : (a : Int) ≤ (E : Int) := by omega
      have gc : (E : Int) ≤ (l.length : Int) := by omega
      clear hr1 hzs hn1 hE hln
      go_wp2_with fail
      go_loop [33] (fun i => ∃ k : Nat, k ≤ n1 ∧ i = .int .i64 (k : Int) ∧ Aside0 ((zs.take k).all (· == 0) = true)) (fun i => n1 - (intOf i).toNat)
      case atStart => exact ⟨0, Nat.zero_le _, rfl, ⟨rfl⟩⟩
      case round =>
        obtain ⟨k, hk, rfl, HK⟩ := hrel
        by_cases hlt : k < n1
        · obtain ⟨ad, hA, hcell⟩ := Kd.at_int R1.out.2.2 (k : Int) (by omega) (by have := HN1.out; omega)
          subst hA
          rw [Int.toNat_natCast] at hcell
          have hst := all_step zs k (by have := HN1.out; omega)
          by_cases hq : (rd zs (k : Int) == 0) = true
          · have d9 : (rd zs (k : Int) != 0) = false := by rw [bne, hq]; rfl
            have HK2 : Aside0 ((zs.take (k + 1)).all (· == 0) = true) := ⟨by rw [hst, HK.out, hq]; rfl⟩
            clear hst hq
            go_wp2_with fail
            go_round
            case rel => exact ⟨k + 1, by omega, by go_num, HK2⟩
            case measure => simp [intOf]; omega
          · have hq' := Bool.eq_false_iff.2 hq
            have d9 : (rd zs (k : Int) != 0) = true := by rw [bne, hq']; rfl
            have HE : Aside0 (r = none) := ⟨by have h1 := HRR.out; rw [HS.out, all_not zs k (by have := HN1.out; omega) hq', if_neg (by decide)] at h1; exact h1⟩
            clear hst hq hq'
            go_wp2_with fail
            go_ret3
            rw [HE.out]
            exact ⟨rfl, HB1.out⟩
        · obtain rfl : k = n1 := by omega
          have HS2 : Aside0 (startL l a = some E) := ⟨by have h1 := HK.out; rw [List.take_of_length_le (by have := HN1.out; omega)] at h1; rw [HS.out, h1, if_pos rfl]⟩
          go_wp2_with fail
          go_meet
          case rel => exact ⟨E, rfl, hEl, HS2, HB1⟩
    · have d7 : decide ((z : Int) ≤ 7) = false := decide_eq_false (by omega)
      have d7' : decide (z ≤ 7) = false := decide_eq_false (by omega)
      have HS2 : Aside0 (startL l a = some a) := ⟨by unfold startL; rw [if_neg (fun hh => h7 (HZ.out.1 hh))]⟩
      go_wp2_with fail
      go_meet
      case rel => exact ⟨a, rfl, ha, HS2, HB1⟩
  case rest =>
    obtain ⟨s, rfl, hs, HST, HBX⟩ := hcut
    have HPR : Aside0 (piecesR l (l.length + 1) false s [] = r ∧ l.length - s < l.length + 1) := ⟨by rw [HRR.out, HST.out], by omega⟩
    clear HST HRR HZ HZ2 HRM hz1 hz2 HB1 ha
    go_wp2_with fail
    go_loopw [1, 10, 11] (fun va vr vb wr => ∃ (begun : Bool) (x f : Nat) (acc : List Int), va = .int .i64 (x : Int) ∧ vb = .bool begun ∧ Aside0 (Kd.R (Kd.int .u8) 5 wr w.heap.size (fun _ => True) vr acc) ∧ x ≤ l.length ∧ acc.length ≤ x ∧ Aside0 (Below w.heap.size w wr) ∧ Aside0 (piecesR l f begun x acc = r ∧ l.length - x < f)) (fun va _ _ _ => l.length - (intOf va).toNat)
    case atStart => exact ⟨false, s, _, [], rfl, rfl, ⟨Kd.R_nil _ _ _ _ _⟩, hs, Nat.zero_le _, HBX, HPR⟩
    case round =>
      clear HBX HPR hs
      obtain ⟨begun, x, f, acc, rfl, rfl, HO, hx, hacc, HBW, HPR⟩ := hrel
      have hcall := read_calls (HR.out.step HBW.out) HB.out hl hx (GT.below HT.out HBW.out)
      obtain ⟨f, rfl⟩ : ∃ g, f = g + 1 := ⟨f - 1, by have := HPR.out.2; omega⟩
      have hpr := HPR.out.1
      unfold piecesR at hpr
      cases hP : readP l x with
      | none =>
        rw [hP] at hcall hpr
        have HRD := Aside0.mk hcall
        have HE : Aside0 (r = none) := ⟨hpr.symm⟩
        clear hpr hcall hP HPR
        go_wp2_with fail
        refine HRD.out.mono ?_
        rintro e w2 ⟨rfl, hb2⟩
        have HB2 := Aside0.mk (below_step HBW.out hb2)
        clear hb2
        go_wp2_with fail
        go_ret3
        rw [HE.out]
        exact ⟨rfl, HB2.out⟩
      | some kp =>
        obtain ⟨k, p⟩ := kp
        have hs := readP_some hP
        rw [hP] at hcall hpr
        dsimp only at hpr
        obtain ⟨X, hX⟩ : ∃ X : Nat, x + 7 + p.length = X := ⟨_, rfl⟩
        rw [hX] at hpr
        have hXl : X ≤ l.length := by omega
        have hxX : x < X := by omega
        have eX : (x : Int) + (7 + (p.length : Int)) = (X : Int) := by omega
        obtain ⟨rm, hrm⟩ : ∃ rm : Nat, 512 - X % 512 = rm := ⟨_, rfl⟩
        have HRM : Aside0 (log_room.f (X : Int) = some (rm : Int)) := ⟨by rw [← hrm]; exact room_eq (X : Int) (X % 512) (by rw [Int.tmod_eq_emod_of_nonneg (by omega)]; omega) (by omega)⟩
        have HLEN : Aside0 ((acc ++ p).length ≤ X) := ⟨by rw [List.length_append]; omega⟩
        have hpl : p.length ≤ 2147483647 := by omega
        have hal : acc.length ≤ 2147483647 := by omega
        have HF : Aside0 (l.length - X < f) := ⟨by have := HPR.out.2; omega⟩
        have HK : Aside0 (k = 1 ∨ k = 2 ∨ k = 3 ∨ k = 4) := ⟨by omega⟩
        have h512 : Aside0 (X % 512 = 0 ↔ rm = 512) := ⟨by omega⟩
        clear hP HPR hs hX hrm
        rcases HK.out with rfl | rfl | rfl | rfl
        · skip
          have HRD := Aside0.mk hcall
          clear hcall HK
          cases begun
          · skip
            rw [if_neg (by decide)] at hpr
            rw [if_pos (.inl rfl)] at hpr
            have HE : Aside0 (r = some (acc ++ p, X)) := ⟨hpr.symm⟩
            clear hpr
            go_wp2_with fail
            refine HRD.out.mono ?_
            rintro e w2 ⟨⟨Ap, np, cp, rfl, hrd⟩, hb2⟩
            have HB2 := Aside0.mk (below_step HBW.out hb2)
            have HRP := Aside0.mk (hrd.step hb2)
            have HO2 := Aside0.mk (Kd.R_below HO.out hb2)
            obtain rfl : p.length = np := hrd.1
            clear hrd hb2
            go_wp2_with (first
              | ((with_reducible refine gate_builtin (b := .append) (xs := #[.tmp 67, .tmp 68]) rfl ?_); at_builtin; go_must (refine Kd.R_append_rows (Kd.int .u8) (w0 := w) w.heap.size rfl (.tmp 67) (.tmp 68) 22 5 (.int .u8 0) 1 rfl Tryd.underlying22 infoU rfl (by decide) (by omega) u10 acc p _ _ _ (fun _ => True) (fun _ => False) rfl rfl ?aO ?aR (fun _ _ h => h) (fun _ h => h.elim) (fun _ _ => trivial) HB2.out HB2.out.size ?aL ?_); (case aR => exact HRP.out.2.2); (case aO => exact HO2.out); (case aL => have := HLEN.out; rw [List.length_append] at this; omega); intro v3 w3 ho3 hb3 hg_ hn_; (have HO3 := Aside0.mk ho3); (have HB3 := Aside0.mk hb3); clear ho3 hb3 hg_ hn_)
              | (go_at_call 29; go_must (refine (log_room.calls (X : Int) (rm : Int) _ HRM.out).mono ?_); rintro e w4 ⟨rfl, hD⟩; (have HB4 := Aside0.mk (below_step HB3.out hD.below)); (have HO4 := Aside0.mk (Kd.R_below HO3.out hD.below)); clear hD))
            go_ret3
            rw [HE.out]
            exact ⟨⟨_, rfl, HO4.out⟩, HB4.out⟩
          · skip
            have HE : Aside0 (r = none) := ⟨by rw [if_pos (by decide)] at hpr; exact hpr.symm⟩
            clear hpr
            go_wp2_with fail
            refine HRD.out.mono ?_
            rintro e w2 ⟨⟨Ap, np, cp, rfl, hrd⟩, hb2⟩
            have HB2 := Aside0.mk (below_step HBW.out hb2)
            have HRP := Aside0.mk (hrd.step hb2)
            have HO2 := Aside0.mk (Kd.R_below HO.out hb2)
            obtain rfl : p.length = np := hrd.1
            clear hrd hb2
            go_wp2_with fail
            go_ret3
            rw [HE.out]
            exact ⟨rfl, HB2.out⟩
        · skip
          have HRD := Aside0.mk hcall
          clear hcall HK
          cases begun
          · skip
            rw [if_neg (by decide)] at hpr
            rw [if_neg (by omega)] at hpr
            by_cases h0 : rm = 512
            · skip
              rw [if_neg (by have := h512.out; omega)] at hpr
              have HPN := Aside0.mk hpr
              have dr : ((rm : Int) == 512) = true := by rw [beq_iff_eq]; omega
              have dr' : (rm == 512) = true := by rw [beq_iff_eq]; omega
              clear hpr h0
              go_wp2_with fail
              refine HRD.out.mono ?_
              rintro e w2 ⟨⟨Ap, np, cp, rfl, hrd⟩, hb2⟩
              have HB2 := Aside0.mk (below_step HBW.out hb2)
              have HRP := Aside0.mk (hrd.step hb2)
              have HO2 := Aside0.mk (Kd.R_below HO.out hb2)
              obtain rfl : p.length = np := hrd.1
              clear hrd hb2
              go_wp2_with (first
                | ((with_reducible refine gate_builtin (b := .append) (xs := #[.tmp 67, .tmp 68]) rfl ?_); at_builtin; go_must (refine Kd.R_append_rows (Kd.int .u8) (w0 := w) w.heap.size rfl (.tmp 67) (.tmp 68) 22 5 (.int .u8 0) 1 rfl Tryd.underlying22 infoU rfl (by decide) (by omega) u10 acc p _ _ _ (fun _ => True) (fun _ => False) rfl rfl ?aO ?aR (fun _ _ h => h) (fun _ h => h.elim) (fun _ _ => trivial) HB2.out HB2.out.size ?aL ?_); (case aR => exact HRP.out.2.2); (case aO => exact HO2.out); (case aL => have := HLEN.out; rw [List.length_append] at this; omega); intro v3 w3 ho3 hb3 hg_ hn_; (have HO3 := Aside0.mk ho3); (have HB3 := Aside0.mk hb3); clear ho3 hb3 hg_ hn_)
                | (go_at_call 29; go_must (refine (log_room.calls (X : Int) (rm : Int) _ HRM.out).mono ?_); rintro e w4 ⟨rfl, hD⟩; (have HB4 := Aside0.mk (below_step HB3.out hD.below)); (have HO4 := Aside0.mk (Kd.R_below HO3.out hD.below)); clear hD))
              go_roundw
              case rel => exact ⟨true, X, f, acc ++ p, rfl, rfl, HO4, hXl, HLEN.out, HB4, ⟨HPN.out, HF.out⟩⟩
              case measure => simp [intOf]; omega
            · skip
              rw [if_pos (by have := h512.out; omega)] at hpr
              have HE : Aside0 (r = none) := ⟨hpr.symm⟩
              have dr : ((rm : Int) == 512) = false := by rw [beq_eq_false_iff_ne]; omega
              have dr' : (rm == 512) = false := by rw [beq_eq_false_iff_ne]; omega
              clear hpr h0
              go_wp2_with fail
              refine HRD.out.mono ?_
              rintro e w2 ⟨⟨Ap, np, cp, rfl, hrd⟩, hb2⟩
              have HB2 := Aside0.mk (below_step HBW.out hb2)
              have HRP := Aside0.mk (hrd.step hb2)
              have HO2 := Aside0.mk (Kd.R_below HO.out hb2)
              obtain rfl : p.length = np := hrd.1
              clear hrd hb2
              go_wp2_with (first
                | ((with_reducible refine gate_builtin (b := .append) (xs := #[.tmp 67, .tmp 68]) rfl ?_); at_builtin; go_must (refine Kd.R_append_rows (Kd.int .u8) (w0 := w) w.heap.size rfl (.tmp 67) (.tmp 68) 22 5 (.int .u8 0) 1 rfl Tryd.underlying22 infoU rfl (by decide) (by omega) u10 acc p _ _ _ (fun _ => True) (fun _ => False) rfl rfl ?aO ?aR (fun _ _ h => h) (fun _ h => h.elim) (fun _ _ => trivial) HB2.out HB2.out.size ?aL ?_); (case aR => exact HRP.out.2.2); (case aO => exact HO2.out); (case aL => have := HLEN.out; rw [List.length_append] at this; omega); intro v3 w3 ho3 hb3 hg_ hn_; (have HO3 := Aside0.mk ho3); (have HB3 := Aside0.mk hb3); clear ho3 hb3 hg_ hn_)
                | (go_at_call 29; go_must (refine (log_room.calls (X : Int) (rm : Int) _ HRM.out).mono ?_); rintro e w4 ⟨rfl, hD⟩; (have HB4 := Aside0.mk (below_step HB3.out hD.below)); (have HO4 := Aside0.mk (Kd.R_below HO3.out hD.below)); clear hD))
              go_ret3
              rw [HE.out]
              exact ⟨rfl, HB4.out⟩
          · skip
            have HE : Aside0 (r = none) := ⟨by rw [if_pos (by decide)] at hpr; exact hpr.symm⟩
            clear hpr
            go_wp2_with fail
            refine HRD.out.mono ?_
            rintro e w2 ⟨⟨Ap, np, cp, rfl, hrd⟩, hb2⟩
            have HB2 := Aside0.mk (below_step HBW.out hb2)
            have HRP := Aside0.mk (hrd.step hb2)
            have HO2 := Aside0.mk (Kd.R_below HO.out hb2)
            obtain rfl : p.length = np := hrd.1
            clear hrd hb2
            go_wp2_with fail
            go_ret3
            rw [HE.out]
            exact ⟨rfl, HB2.out⟩
        · skip
          have HRD := Aside0.mk hcall
          clear hcall HK
          cases begun
          · skip
            have HE : Aside0 (r = none) := ⟨by rw [if_pos (by decide)] at hpr; exact hpr.symm⟩
            clear hpr
            go_wp2_with fail
            refine HRD.out.mono ?_
            rintro e w2 ⟨⟨Ap, np, cp, rfl, hrd⟩, hb2⟩
            have HB2 := Aside0.mk (below_step HBW.out hb2)
            have HRP := Aside0.mk (hrd.step hb2)
            have HO2 := Aside0.mk (Kd.R_below HO.out hb2)
            obtain rfl : p.length = np := hrd.1
            clear hrd hb2
            go_wp2_with fail
            go_ret3
            rw [HE.out]
            exact ⟨rfl, HB2.out⟩
          · skip
            rw [if_neg (by decide)] at hpr
            rw [if_neg (by omega)] at hpr
            by_cases h0 : rm = 512
            · skip
              rw [if_neg (by have := h512.out; omega)] at hpr
              have HPN := Aside0.mk hpr
              have dr : ((rm : Int) == 512) = true := by rw [beq_iff_eq]; omega
              have dr' : (rm == 512) = true := by rw [beq_iff_eq]; omega
              clear hpr h0
              go_wp2_with fail
              refine HRD.out.mono ?_
              rintro e w2 ⟨⟨Ap, np, cp, rfl, hrd⟩, hb2⟩
              have HB2 := Aside0.mk (below_step HBW.out hb2)
              have HRP := Aside0.mk (hrd.step hb2)
              have HO2 := Aside0.mk (Kd.R_below HO.out hb2)
              obtain rfl : p.length = np := hrd.1
              clear hrd hb2
              go_wp2_with (first
                | ((with_reducible refine gate_builtin (b := .append) (xs := #[.tmp 67, .tmp 68]) rfl ?_); at_builtin; go_must (refine Kd.R_append_rows (Kd.int .u8) (w0 := w) w.heap.size rfl (.tmp 67) (.tmp 68) 22 5 (.int .u8 0) 1 rfl Tryd.underlying22 infoU rfl (by decide) (by omega) u10 acc p _ _ _ (fun _ => True) (fun _ => False) rfl rfl ?aO ?aR (fun _ _ h => h) (fun _ h => h.elim) (fun _ _ => trivial) HB2.out HB2.out.size ?aL ?_); (case aR => exact HRP.out.2.2); (case aO => exact HO2.out); (case aL => have := HLEN.out; rw [List.length_append] at this; omega); intro v3 w3 ho3 hb3 hg_ hn_; (have HO3 := Aside0.mk ho3); (have HB3 := Aside0.mk hb3); clear ho3 hb3 hg_ hn_)
                | (go_at_call 29; go_must (refine (log_room.calls (X : Int) (rm : Int) _ HRM.out).mono ?_); rintro e w4 ⟨rfl, hD⟩; (have HB4 := Aside0.mk (below_step HB3.out hD.below)); (have HO4 := Aside0.mk (Kd.R_below HO3.out hD.below)); clear hD))
              go_roundw
              case rel => exact ⟨true, X, f, acc ++ p, rfl, rfl, HO4, hXl, HLEN.out, HB4, ⟨HPN.out, HF.out⟩⟩
              case measure => simp [intOf]; omega
            · skip
              rw [if_pos (by have := h512.out; omega)] at hpr
              have HE : Aside0 (r = none) := ⟨hpr.symm⟩
              have dr : ((rm : Int) == 512) = false := by rw [beq_eq_false_iff_ne]; omega
              have dr' : (rm == 512) = false := by rw [beq_eq_false_iff_ne]; omega
              clear hpr h0
              go_wp2_with fail
              refine HRD.out.mono ?_
              rintro e w2 ⟨⟨Ap, np, cp, rfl, hrd⟩, hb2⟩
              have HB2 := Aside0.mk (below_step HBW.out hb2)
              have HRP := Aside0.mk (hrd.step hb2)
              have HO2 := Aside0.mk (Kd.R_below HO.out hb2)
              obtain rfl : p.length = np := hrd.1
              clear hrd hb2
              go_wp2_with (first
                | ((with_reducible refine gate_builtin (b := .append) (xs := #[.tmp 67, .tmp 68]) rfl ?_); at_builtin; go_must (refine Kd.R_append_rows (Kd.int .u8) (w0 := w) w.heap.size rfl (.tmp 67) (.tmp 68) 22 5 (.int .u8 0) 1 rfl Tryd.underlying22 infoU rfl (by decide) (by omega) u10 acc p _ _ _ (fun _ => True) (fun _ => False) rfl rfl ?aO ?aR (fun _ _ h => h) (fun _ h => h.elim) (fun _ _ => trivial) HB2.out HB2.out.size ?aL ?_); (case aR => exact HRP.out.2.2); (case aO => exact HO2.out); (case aL => have := HLEN.out; rw [List.length_append] at this; omega); intro v3 w3 ho3 hb3 hg_ hn_; (have HO3 := Aside0.mk ho3); (have HB3 := Aside0.mk hb3); clear ho3 hb3 hg_ hn_)
                | (go_at_call 29; go_must (refine (log_room.calls (X : Int) (rm : Int) _ HRM.out).mono ?_); rintro e w4 ⟨rfl, hD⟩; (have HB4 := Aside0.mk (below_step HB3.out hD.below)); (have HO4 := Aside0.mk (Kd.R_below HO3.out hD.below)); clear hD))
              go_ret3
              rw [HE.out]
              exact ⟨rfl, HB4.out⟩
        · skip
          have HRD := Aside0.mk hcall
          clear hcall HK
          cases begun
          · skip
            have HE : Aside0 (r = none) := ⟨by rw [if_pos (by decide)] at hpr; exact hpr.symm⟩
            clear hpr
            go_wp2_with fail
            refine HRD.out.mono ?_
            rintro e w2 ⟨⟨Ap, np, cp, rfl, hrd⟩, hb2⟩
            have HB2 := Aside0.mk (below_step HBW.out hb2)
            have HRP := Aside0.mk (hrd.step hb2)
            have HO2 := Aside0.mk (Kd.R_below HO.out hb2)
            obtain rfl : p.length = np := hrd.1
            clear hrd hb2
            go_wp2_with fail
            go_ret3
            rw [HE.out]
            exact ⟨rfl, HB2.out⟩
          · skip
            rw [if_neg (by decide)] at hpr
            by_cases h0 : 0 < p.length
            · skip
              rw [if_pos (.inr ⟨rfl, h0⟩)] at hpr
              have HE : Aside0 (r = some (acc ++ p, X)) := ⟨hpr.symm⟩
              have dp : decide ((0 : Int) < (p.length : Int)) = true := decide_eq_true (by omega)
              have dp' : decide (0 < p.length) = true := decide_eq_true h0
              clear hpr
              go_wp2_with fail
              refine HRD.out.mono ?_
              rintro e w2 ⟨⟨Ap, np, cp, rfl, hrd⟩, hb2⟩
              have HB2 := Aside0.mk (below_step HBW.out hb2)
              have HRP := Aside0.mk (hrd.step hb2)
              have HO2 := Aside0.mk (Kd.R_below HO.out hb2)
              obtain rfl : p.length = np := hrd.1
              clear hrd hb2
              go_wp2_with (first
                | ((with_reducible refine gate_builtin (b := .append) (xs := #[.tmp 67, .tmp 68]) rfl ?_); at_builtin; go_must (refine Kd.R_append_rows (Kd.int .u8) (w0 := w) w.heap.size rfl (.tmp 67) (.tmp 68) 22 5 (.int .u8 0) 1 rfl Tryd.underlying22 infoU rfl (by decide) (by omega) u10 acc p _ _ _ (fun _ => True) (fun _ => False) rfl rfl ?aO ?aR (fun _ _ h => h) (fun _ h => h.elim) (fun _ _ => trivial) HB2.out HB2.out.size ?aL ?_); (case aR => exact HRP.out.2.2); (case aO => exact HO2.out); (case aL => have := HLEN.out; rw [List.length_append] at this; omega); intro v3 w3 ho3 hb3 hg_ hn_; (have HO3 := Aside0.mk ho3); (have HB3 := Aside0.mk hb3); clear ho3 hb3 hg_ hn_)
                | (go_at_call 29; go_must (refine (log_room.calls (X : Int) (rm : Int) _ HRM.out).mono ?_); rintro e w4 ⟨rfl, hD⟩; (have HB4 := Aside0.mk (below_step HB3.out hD.below)); (have HO4 := Aside0.mk (Kd.R_below HO3.out hD.below)); clear hD))
              go_ret3
              rw [HE.out]
              exact ⟨⟨_, rfl, HO4.out⟩, HB4.out⟩
            · skip
              rw [if_neg (by omega), if_pos (.inl rfl)] at hpr
              have HE : Aside0 (r = none) := ⟨hpr.symm⟩
              have dp : decide ((0 : Int) < (p.length : Int)) = false := decide_eq_false (by omega)
              have dp' : decide (0 < p.length) = false := decide_eq_false h0
              clear hpr
              go_wp2_with fail
              refine HRD.out.mono ?_
              rintro e w2 ⟨⟨Ap, np, cp, rfl, hrd⟩, hb2⟩
              have HB2 := Aside0.mk (below_step HBW.out hb2)
              have HRP := Aside0.mk (hrd.step hb2)
              have HO2 := Aside0.mk (Kd.R_below HO.out hb2)
              obtain rfl : p.length = np := hrd.1
              clear hrd hb2
              go_wp2_with (first
                | ((with_reducible refine gate_builtin (b := .append) (xs := #[.tmp 67, .tmp 68]) rfl ?_); at_builtin; go_must (refine Kd.R_append_rows (Kd.int .u8) (w0 := w) w.heap.size rfl (.tmp 67) (.tmp 68) 22 5 (.int .u8 0) 1 rfl Tryd.underlying22 infoU rfl (by decide) (by omega) u10 acc p _ _ _ (fun _ => True) (fun _ => False) rfl rfl ?aO ?aR (fun _ _ h => h) (fun _ h => h.elim) (fun _ _ => trivial) HB2.out HB2.out.size ?aL ?_); (case aR => exact HRP.out.2.2); (case aO => exact HO2.out); (case aL => have := HLEN.out; rw [List.length_append] at this; omega); intro v3 w3 ho3 hb3 hg_ hn_; (have HO3 := Aside0.mk ho3); (have HB3 := Aside0.mk hb3); clear ho3 hb3 hg_ hn_)
                | (go_at_call 29; go_must (refine (log_room.calls (X : Int) (rm : Int) _ HRM.out).mono ?_); rintro e w4 ⟨rfl, hD⟩; (have HB4 := Aside0.mk (below_step HB3.out hD.below)); (have HO4 := Aside0.mk (Kd.R_below HO3.out hD.below)); clear hD))
              go_ret3
              rw [HE.out]
              exact ⟨rfl, HB4.out⟩
end Go.Proofs.YtnamanalacjhnaaDoor.Lr
/- log.Read (this claim's own lemmas). -/
namespace Go.Proofs.YtnamanalacjhnaaDoor.Lr
open Go.RowKit Go.Proofs.YtnamanalacjhnaaDoorW.PrintWords Go.Proofs.YtnamanalacjhnaaDoor.Own Go.Proofs.YtnamanalacjhnaaDoor.Wk Go.Proofs.YtnamanalacjhnaaDoor.G Go.Proofs.YtnamanalacjhnaaDoor.Lg Go.Proofs.YtnamanalacjhnaaDoor.QBk
set_option linter.unusedVariables false
theorem infoBs : (Tryd.prog.info? 22).map (fun i => (i.zero, i.size, i.bytes)) = some (some (.slice none 0 0), 1, 24) := by kernel_rfl
abbrev kB : Kd (List Int) := Kd.slice 5 (Kd.int .u8)
/-- What 'Read' answers. -/
def ReadsPost (w : World) (r : List (List Int) × Nat × Int) (e : Ending) (w' : World) : Prop :=
  ∃ v, e = .returned (.tuple #[v, .int .i64 (r.2.1 : Int), .int .i64 r.2.2]) ∧ Kd.S kB 22 w' w.heap.size (fun _ => True) v r.1 ∧ Below w.heap.size w w'
set_option maxHeartbeats 4000000 in
set_option maxRecDepth 100000 in
theorem reads_calls {w : World} {A : Option Addr} {m c : Nat} {l : List Int} (h : Rd (Kd.int .u8) w A m c l) (hb : Bytes l) (hl : l.length ≤ 2147483647) (hT : GT w) :
    Calls Tryd.prog 17 #[.slice A m c] w (ReadsPost w (readL l)) := by
  have hm := h.1
  subst hm
  have HR := Aside0.mk h
  have HB := Aside0.mk hb
  have HT := Aside0.mk hT
  obtain ⟨r, hr⟩ : ∃ r, r = readL l := ⟨_, rfl⟩
  rw [← hr]
  have HP0 : Aside0 (readR l (l.length + 1) 0 [] = r ∧ l.length - 0 < l.length + 1) := ⟨hr.symm, by omega⟩
  clear h hb hT hr
  go_enter Tryd.func17, Tryd.ntmps17
  go_wp2_with fail
  go_loopw [5, 6] (fun vl ve wr => ∃ (x f : Nat) (acc : List (List Int)), ve = .int .i64 (x : Int) ∧ x ≤ l.length ∧ acc.length ≤ x ∧ Aside0 (Kd.S kB 22 wr w.heap.size (fun _ => True) vl acc) ∧ Aside0 (Below w.heap.size w wr) ∧ Aside0 (readR l f x acc = r ∧ l.length - x < f)) (fun _ ve _ => l.length - (intOf ve).toNat)
  case atStart => exact ⟨0, _, [], rfl, Nat.zero_le _, Nat.le_refl _, ⟨Kd.S_nil _ _ _ _ _⟩, ⟨Below.refl _ _⟩, HP0⟩
  case round =>
    clear HP0
    obtain ⟨x, f, acc, rfl, hx, hacc, HO, HBW, HPR⟩ := hrel
    obtain ⟨f, rfl⟩ : ∃ g, f = g + 1 := ⟨f - 1, by have := HPR.out.2; omega⟩
    have hpr := HPR.out.1
    unfold readR at hpr
    by_cases hlt : x < l.length
    · rw [if_pos hlt] at hpr
      have hcall := record_calls (HR.out.step HBW.out) HB.out hl hx (GT.below HT.out HBW.out)
      cases hP : recordL l x with
      | none =>
        rw [hP] at hcall hpr
        have HRD := Aside0.mk hcall
        have HE : Aside0 (r = (acc, x, 70)) := ⟨hpr.symm⟩
        clear hpr hcall hP HPR
        go_wp2_with fail
        refine HRD.out.mono ?_
        rintro e w2 ⟨rfl, hb2⟩
        have HB2 := Aside0.mk (below_step HBW.out hb2)
        have HO2 := Aside0.mk (Kd.S_below HO.out hb2)
        clear hb2
        go_wp2_with fail
        go_ret3
        rw [HE.out]
        exact ⟨_, rfl, HO2.out, HB2.out⟩
      | some rn =>
        obtain ⟨rec, n⟩ := rn
        have hs := recordL_ends hP
        rw [hP] at hcall hpr
        dsimp only at hpr
        have HRD := Aside0.mk hcall
        have HPN := Aside0.mk hpr
        have HF : Aside0 (l.length - n < f) := ⟨by have := HPR.out.2; omega⟩
        obtain ⟨hs1, hs2, hs3⟩ := hs
        clear hpr hcall hP HPR
        go_wp2_with fail
        refine HRD.out.mono ?_
        rintro e w2 ⟨⟨v, rfl, hv⟩, hb2⟩
        obtain ⟨Av, cv, rfl⟩ := Kd.R_slice hv
        have OB := Aside0.mk (Kd.R_tight rfl (Kd.R_lower (base' := w.heap.size) hv HBW.out.size))
        have OX : Aside0 (∀ k_, some k_ = (Value.slice Av rec.length cv).ownBlock → True ∧ some k_ ≠ (u5 : Value).ownBlock) := ⟨fun k_ hk => ⟨trivial, fun e => by have h1 := Kd.R_base hv k_ hk.symm; have h2 := Kd.S_lt HO.out k_ e.symm; omega⟩⟩
        have O4 : Aside0 (Kd.S kB 22 w2 w.heap.size (fun k_ => True ∧ ¬ some k_ = (Value.slice Av rec.length cv).ownBlock) u5 acc) := ⟨Kd.S_mono (Kd.S_below (Kd.S_bound HO.out) hb2) (fun k_ hk => ⟨trivial, fun e => by have h1 := Kd.R_base hv k_ e.symm; have h2 := hk.2.2.1; omega⟩)⟩
        have HB2 := Aside0.mk (below_step HBW.out hb2)
        have PL := Aside0.mk (show (acc.length + 1) * 24 ≤ 140737488355328 by omega)
        clear hv hb2
        go_wp2_with (first | ((with_reducible refine gate_builtin (b := .append) (xs := #[.tmp 25, .tmp 27]) rfl ?_); at_builtin; refine Kd.S_append kB (w0 := w2) w.heap.size rfl (.tmp 25) (.tmp 27) 24 22 (.slice none 0 0) 24 rfl Tryd.underlying24 infoBs rfl (by decide) (by omega) _ acc rec [.slice Av rec.length cv] (fun _ => True) (fun k_ => some k_ = (.slice Av rec.length cv : Value).ownBlock) rfl (by first | (go_simp; done) | (go_simp; rfl)) (Kd.M_row OB.out) OX.out (fun k_ hk => trivial) O4.out (Below.refl _ _) HB2.out.size PL.out ?_; intro v1 W5 ho hb hg hat; have O5 := Aside0.mk ho; have B5 := Aside0.mk (Below.grown HB2.out hg HB2.out.size (Kd.S_base O4.out)); clear ho hb hg hat))
        exact ⟨⟨n, f, acc ++ [rec], rfl, hs2, by rw [List.length_append, List.length_singleton]; omega, O5, B5, ⟨HPN.out, HF.out⟩⟩, by simp [intOf]; omega⟩
    · obtain rfl : x = l.length := by omega
      have HE : Aside0 (r = (acc, l.length, 0)) := ⟨by rw [if_neg hlt] at hpr; exact hpr.symm⟩
      clear hpr HPR
      go_wp2_with fail
      go_ret3
      rw [HE.out]
      exact ⟨_, rfl, HO.out, HBW.out⟩
end Go.Proofs.YtnamanalacjhnaaDoor.Lr
/- The reader's walks (this claim's own lemmas). -/
namespace Go.Proofs.YtnamanalacjhnaaDoor.Gt
open Go.RowKit Go.Proofs.YtnamanalacjhnaaDoorW.PrintWords Go.Proofs.YtnamanalacjhnaaDoor.Own Go.Proofs.YtnamanalacjhnaaDoor.Wk Go.Proofs.YtnamanalacjhnaaDoor.QBk
set_option linter.unusedVariables false
theorem infoU : (Tryd.prog.info? 5).map (fun i => (i.zero, i.size, i.bytes)) = some (some (.int .u8 0), 1, 1) := by kernel_rfl
/-- The reader at block g: what is left, read at the call's begin w; W: now. -/
structure Rdr (w W : World) (g : Nat) (s : St) : Prop where
  cell : ∃ A n c, W.heap[g]? = some (.cells #[.slice A n c, .int .i64 (s.2 : Int)] 93 (0, 0)) ∧ Rd (Kd.int .u8) w A n c s.1
  bel : Below w.heap.size w W
  ge : w.heap.size ≤ g
def Kp (W W' : World) (g : Nat) : Prop := W.heap.size ≤ W'.heap.size ∧ ∀ k, k < W.heap.size → k ≠ g → W'.heap[k]? = W.heap[k]?
theorem Kp.refl (W : World) (g : Nat) : Kp W W g := ⟨Nat.le_refl _, fun _ _ _ => rfl⟩
theorem Kp.trans {W W' W'' : World} {g : Nat} (h : Kp W W' g) (h' : Kp W' W'' g) : Kp W W'' g := ⟨Nat.le_trans h.1 h'.1, fun k hk hg => (h'.2 k (Nat.lt_of_lt_of_le hk h.1) hg).trans (h.2 k hk hg)⟩
theorem Kp.of_below {W W' : World} {g : Nat} (h : Below W.heap.size W W') : Kp W W' g := ⟨h.size, fun k hk _ => h.block k hk⟩
theorem Kp.set (W : World) (g j : Nat) (v : Value) : Kp W (W.setCell ⟨g, j, none⟩ v) g := ⟨by simp [World.setCell], fun k _ hg => Below.heap_setCell W ⟨g, j, none⟩ v k hg⟩
theorem Rdr.step {w W W' : World} {g : Nat} {s : St} (h : Rdr w W g s) (hb : Below W.heap.size W W') : Rdr w W' g s := by
  obtain ⟨A, n, c, h1, h2⟩ := h.cell
  exact ⟨⟨A, n, c, (hb.block g (blk_lt h1)).trans h1, h2⟩, below_then h.bel h.bel.size hb, h.ge⟩
theorem Rdr.err {w W : World} {g : Nat} {s : St} (h : Rdr w W g s) : W.cell? ⟨g, 1, none⟩ = some (.int .i64 (s.2 : Int)) := by
  obtain ⟨A, n, c, h1, h2⟩ := h.cell
  rw [blk_cell h1]; rfl
theorem Rdr.frz {w W : World} {g : Nat} {s : St} (h : Rdr w W g s) (j : Nat) : W.frozen? ⟨g, j, none⟩ = false := by
  obtain ⟨A, n, c, h1, h2⟩ := h.cell
  exact blk_frozen h1 j
theorem Rdr.list {w W : World} {g : Nat} {s : St} (h : Rdr w W g s) : ∃ A n c, W.cell? ⟨g, 0, none⟩ = some (.slice A n c) ∧ Rd (Kd.int .u8) w A n c s.1 := by
  obtain ⟨A, n, c, h1, h2⟩ := h.cell
  exact ⟨A, n, c, by rw [blk_cell h1]; rfl, h2⟩
theorem Rdr.set1 {w W : World} {g : Nat} {s : St} (h : Rdr w W g s) (e : Nat) : Rdr w (W.setCell ⟨g, 1, none⟩ (.int .i64 (e : Int))) g (s.1, e) := by
  obtain ⟨A, n, c, h1, h2⟩ := h.cell
  exact ⟨⟨A, n, c, by rw [blk_set h1]; rfl, h2⟩, h.bel.setCell (p := ⟨g, 1, none⟩) h.ge _, h.ge⟩
theorem Rdr.set0 {w W : World} {g : Nat} {s : St} (h : Rdr w W g s) {A : Option Addr} {n c : Nat} {l : List Int} (hr : Rd (Kd.int .u8) w A n c l) : Rdr w (W.setCell ⟨g, 0, none⟩ (.slice A n c)) g (l, s.2) := by
  obtain ⟨A', n', c', h1, h2⟩ := h.cell
  exact ⟨⟨A, n, c, by rw [blk_set h1]; rfl, hr⟩, h.bel.setCell (p := ⟨g, 0, none⟩) h.ge _, h.ge⟩
theorem Rdr.far {w W : World} {g : Nat} {s : St} (h : Rdr w W g s) {p : Addr} (hp : g ≠ p.block) (hge : w.heap.size ≤ p.block) (u : Value) : Rdr w (W.setCell p u) g s := by
  obtain ⟨A, n, c, h1, h2⟩ := h.cell
  exact ⟨⟨A, n, c, blk_far h1 hp u, h2⟩, h.bel.setCell (p := p) hge _, h.ge⟩
theorem Rdr.lt {w W : World} {g : Nat} {s : St} (h : Rdr w W g s) : g < W.heap.size := by
  obtain ⟨A, n, c, h1, h2⟩ := h.cell
  exact blk_lt h1
theorem Kp.far {W0 W : World} {g : Nat} (h : Kp W0 W g) {p : Addr} (hge : W0.heap.size ≤ p.block) (u : Value) : Kp W0 (W.setCell p u) g := ⟨by simp [World.setCell]; exact h.1, fun k hk hg => (Below.heap_setCell W p u k (by omega)).trans (h.2 k hk hg)⟩
theorem Kp.own {W0 W : World} {g : Nat} (h : Kp W0 W g) (j : Nat) (u : Value) : Kp W0 (W.setCell ⟨g, j, none⟩ u) g := h.trans (Kp.set W g j u)
theorem Kp.blk {W W' : World} {g b : Nat} {o : Obj} (h : Kp W W' g) (ho : W.heap[b]? = some o) (hne : b ≠ g) : W'.heap[b]? = some o := (h.2 b (blk_lt ho) hne).trans ho
def wv (x : Wr) : Value := .agg #[.string x.f0, .bool x.f1, .string x.f2]
theorem Rdr.grown {w W W' : World} {g b : Nat} {s : St} {row : Option Nat} (h : Rdr w W g s) (hb : Below b W W') (hle : w.heap.size ≤ b) (hg : W.grownBy W' row) (hne : some g ≠ row) : Rdr w W' g s := by
  obtain ⟨A, n, c, h1, h2⟩ := h.cell
  have hlt := blk_lt h1
  refine ⟨⟨A, n, c, (hg.block g hlt hne).trans h1, h2⟩, ⟨hb.os.trans h.bel.os, hb.tape.trans h.bel.tape, hb.output.trans h.bel.output, Nat.le_trans h.bel.size hg.size, fun k hk => (hb.block k (by omega)).trans (h.bel.block k hk)⟩, h.ge⟩
theorem Kp.grown {W0 W W' : World} {g : Nat} {row : Option Nat} (h : Kp W0 W g) (hg : W.grownBy W' row) (hne : ∀ k, row = some k → W0.heap.size ≤ k) : Kp W0 W' g :=
  ⟨Nat.le_trans h.1 hg.size, fun k hk hkg => (hg.block k (Nat.lt_of_lt_of_le hk h.1) (fun e => by have := hne k e.symm; omega)).trans (h.2 k hk hkg)⟩
theorem Kp.row {α : Type} {d : Kd α} {e base : Nat} {W W' : World} {g : Nat} {v : Value} {xs : List α} (h : Kd.R d e W base (fun k => k ≠ g) v xs) (hk : Kp W W' g) : Kd.R d e W' base (fun k => k ≠ g) v xs := Kd.R_step h (fun k ho hlt => hk.2 k hlt ho)
/-- What a reader's call leaves that makes a list. -/
def PostB (w W : World) (g : Nat) (l : List Wr) (s' : St) (e : Ending) (W' : World) : Prop := ∃ v, e = .returned v ∧ Rdr w W' g s' ∧ Kp W W' g ∧ Kd.R k67 67 W' W.heap.size (fun k => k ≠ g) v l
/-- What a reader's call leaves. -/
def Post (w W : World) (g : Nat) (v : Value) (s' : St) (e : Ending) (W' : World) : Prop := e = .returned v ∧ Rdr w W' g s' ∧ Kp W W' g
set_option maxHeartbeats 1000000 in
set_option maxRecDepth 100000 in
theorem number_calls {w W : World} {g : Nat} {s : St} (h : Rdr w W g s) (hb : Bytes s.1) (hl : s.1.length ≤ 140737488351232) :
    Calls Tryd.prog 55 #[.pointer (some ⟨g, 0, none⟩)] W (Post w W g (.int .u64 ((numS s).1 : Int)) (numS s).2) := by
  have H := Aside0.mk h
  have hc1 := h.err
  by_cases he : s.2 = 0
  · have d1 : ((s.2 : Int) != 0) = false := by rw [bne_eq_false_iff_eq]; omega
    have hs := uintN_spec s.1 hb
    obtain ⟨n, k, e, hN, s1, s2, s3⟩ : ∃ n k e, uintN s.1 = (n, k, e) ∧ n < 18446744073709551616 ∧ k ≤ s.1.length ∧ k ≤ 10 := ⟨_, _, _, rfl, hs⟩
    have HS : Aside0 (numS s = (n, (s.1.drop k, e))) := ⟨by unfold numS; rw [if_neg (by omega), hN]⟩
    obtain ⟨A, m, c, hc0, hrd⟩ := h.list
    have hm : s.1.length = m := hrd.1
    have HU : Aside0 (codec_Uint.f s.1 = some ((n : Int), (k : Int), (e : Int))) := ⟨by unfold codec_Uint.f uintL i3; rw [if_pos ⟨okB_iff.2 hb, by omega⟩, hN]⟩
    have hkm : k ≤ m := by omega
    obtain ⟨A', hfrom, hfr⟩ := Rd.from (P := Tryd.prog) (t := 22) (Kd.int .u8) Tryd.underlying22 infoU .i64 A m c k hkm hrd.2.1
    have HRF := Aside0.mk (hfr w s.1 hrd)
    have HRD := Aside0.mk (hrd.step h.bel)
    rw [HS.out]
    have hf0 := h.frz 0
    have hf1 := h.frz 1
    clear hs hN hrd hfr hm HS h
    go_enter Tryd.func55, Tryd.ntmps55
    go_wp2_with fail
    have hrd' := HRD.out
    obtain ⟨rfl, hmc, hC⟩ := hrd'
    refine (codec_Uint.calls A c s.1 (n : Int) (k : Int) (e : Int) W hC hmc HU.out).mono ?_
    rintro e' W1 ⟨rfl, hD⟩
    have H1 := Aside0.mk (H.out.step hD.below)
    have hc0' : W1.cell? ⟨g, 0, none⟩ = some (.slice A s.1.length c) := (hD.below.cell (p := ⟨g, 0, none⟩) (World.block_lt_of_cell? W _ hc0)).trans hc0
    have hf0' := H1.out.frz 0
    have hf1' := H1.out.frz 1
    have hc1' := H1.out.err
    have HK1 := Aside0.mk (Kp.of_below (g := g) hD.below)
    clear hD
    go_wp2_with fail
    go_ret
    exact ⟨rfl, (H1.out.set0 HRF.out).set1 e, HK1.out.trans ((Kp.set _ g 0 _).trans (Kp.set _ g 1 _))⟩
  · have d1 : ((s.2 : Int) != 0) = true := by rw [bne_iff_ne]; omega
    have HS : Aside0 (numS s = (0, s)) := ⟨by unfold numS; rw [if_pos he]⟩
    rw [HS.out]
    clear HS h he
    go_enter Tryd.func55, Tryd.ntmps55
    go_wp2_with fail
    go_ret
    exact ⟨rfl, H.out, Kp.refl _ _⟩
set_option maxHeartbeats 1000000 in
set_option maxRecDepth 100000 in
theorem text_calls {w W : World} {g : Nat} {s : St} (m : Int) (hm0 : 0 ≤ m) (hm1 : m < 1000) (h : Rdr w W g s) (hb : Bytes s.1) (hl : s.1.length ≤ 140737488351232) :
    Calls Tryd.prog 75 #[.pointer (some ⟨g, 0, none⟩), .int .i64 m] W (Post w W g (.string (textS m s).1) (textS m s).2) := by
  have H := Aside0.mk h
  have hc1 := h.err
  by_cases he : s.2 = 0
  · have d1 : ((s.2 : Int) != 0) = false := by rw [bne_eq_false_iff_eq]; omega
    obtain ⟨b, k, e, hN, hk⟩ := textL_form s.1 m
    have HS : Aside0 (textS m s = (b, (s.1.drop k, e))) := ⟨by unfold textS; rw [if_neg (by omega), hN]; simp⟩
    obtain ⟨A, n, c, hc0, hrd⟩ := h.list
    have hm : s.1.length = n := hrd.1
    have HU : Aside0 (codec_Text.f s.1 m = some (b, (k : Int), (e : Int))) := ⟨by unfold codec_Text.f; rw [if_pos ⟨okB_iff.2 hb, by omega, by omega, by omega⟩, hN]⟩
    have hkm : k ≤ n := by omega
    obtain ⟨A', hfrom, hfr⟩ := Rd.from (P := Tryd.prog) (t := 22) (Kd.int .u8) Tryd.underlying22 infoU .i64 A n c k hkm hrd.2.1
    have HRF := Aside0.mk (hfr w s.1 hrd)
    have HRD := Aside0.mk (hrd.step h.bel)
    rw [HS.out]
    have hf0 := h.frz 0
    have hf1 := h.frz 1
    clear hN hrd hfr hm HS h
    go_enter Tryd.func75, Tryd.ntmps75
    go_wp2_with fail
    have hrd' := HRD.out
    obtain ⟨rfl, hmc, hC⟩ := hrd'
    refine (codec_Text.calls A c s.1 m b (k : Int) (e : Int) W hC hmc HU.out).mono ?_
    rintro e' W1 ⟨rfl, hD⟩
    have H1 := Aside0.mk (H.out.step hD.below)
    have hc0' : W1.cell? ⟨g, 0, none⟩ = some (.slice A s.1.length c) := (hD.below.cell (p := ⟨g, 0, none⟩) (World.block_lt_of_cell? W _ hc0)).trans hc0
    have hf0' := H1.out.frz 0
    have hf1' := H1.out.frz 1
    have hc1' := H1.out.err
    have HK1 := Aside0.mk (Kp.of_below (g := g) hD.below)
    clear hD
    go_wp2_with fail
    go_ret
    exact ⟨rfl, (H1.out.set0 HRF.out).set1 e, HK1.out.trans ((Kp.set _ g 0 _).trans (Kp.set _ g 1 _))⟩
  · have d1 : ((s.2 : Int) != 0) = true := by rw [bne_iff_ne]; omega
    have HS : Aside0 (textS m s = ((⟨#[]⟩ : ByteArray), s)) := ⟨by unfold textS; rw [if_pos he]⟩
    rw [HS.out]
    clear HS h he
    go_enter Tryd.func75, Tryd.ntmps75
    go_wp2_with fail
    go_ret
    exact ⟨rfl, H.out, Kp.refl _ _⟩
set_option maxHeartbeats 1000000 in
set_option maxRecDepth 100000 in
theorem del_calls {w W : World} {g : Nat} {s : St} (h : Rdr w W g s) :
    Calls Tryd.prog 74 #[.pointer (some ⟨g, 0, none⟩)] W (Post w W g (.bool (delS s).1) (delS s).2) := by
  have H := Aside0.mk h
  have hc1 := h.err
  have hf0 := h.frz 0
  have hf1 := h.frz 1
  by_cases he : s.2 = 0
  · have d1 : ((s.2 : Int) != 0) = false := by rw [bne_eq_false_iff_eq]; omega
    obtain ⟨A, n, c, hc0, hrd⟩ := h.list
    have HRD := Aside0.mk (hrd.step h.bel)
    have hm : s.1.length = n := hrd.1
    subst hm
    by_cases h0 : s.1.length = 0
    · have d2 : ((s.1.length : Int) == 0) = true := by rw [beq_iff_eq]; omega
      have HS : Aside0 (delS s = (false, (s.1, 20))) := ⟨by unfold delS; rw [if_neg (by omega), if_pos h0]⟩
      rw [HS.out]
      clear HS h he h0 hrd
      go_enter Tryd.func74, Tryd.ntmps74
      go_wp2_with fail
      go_ret
      exact ⟨rfl, H.out.set1 20, Kp.set _ g 1 _⟩
    · have d2 : ((s.1.length : Int) == 0) = false := by rw [beq_eq_false_iff_ne]; omega
      obtain ⟨ad, hA, hx⟩ := Kd.at_int HRD.out.2.2 0 (by omega) (by omega)
      subst hA
      rw [show ((0 : Int)).toNat = 0 from rfl, Addr.add_zero'] at hx
      have hlt : (0 < s.1.length) = True := eq_true (by omega)
      by_cases h1 : rd s.1 0 > 1
      · have d3 : decide (1 < rd s.1 0) = true := decide_eq_true h1
        have HS : Aside0 (delS s = (false, (s.1, 21))) := ⟨by unfold delS; rw [if_neg (by omega), if_neg h0, if_pos h1]⟩
        rw [HS.out]
        clear HS h he h0 hrd h1
        go_enter Tryd.func74, Tryd.ntmps74
        go_wp2_with fail
        go_ret
        exact ⟨rfl, H.out.set1 21, Kp.set _ g 1 _⟩
      · have d3 : decide (1 < rd s.1 0) = false := decide_eq_false h1
        have HS : Aside0 (delS s = (rd s.1 0 == 1, (s.1.drop 1, s.2))) := ⟨by unfold delS; rw [if_neg (by omega), if_neg h0, if_neg h1, he]⟩
        obtain ⟨A', hfrom, hfr⟩ := Rd.from (P := Tryd.prog) (t := 22) (Kd.int .u8) Tryd.underlying22 infoU .i64 (some ad) s.1.length c 1 (by omega) hrd.2.1
        have HRF := Aside0.mk (hfr w s.1 hrd)
        rw [show ((1 : Nat) : Int) = 1 from rfl] at hfrom
        rw [HS.out]
        clear HS h he h0 hrd h1 hfr
        go_enter Tryd.func74, Tryd.ntmps74
        go_wp2_with fail
        go_ret
        exact ⟨rfl, H.out.set0 HRF.out, Kp.set _ g 0 _⟩
  · have d1 : ((s.2 : Int) != 0) = true := by rw [bne_iff_ne]; omega
    have HS : Aside0 (delS s = (false, s)) := ⟨by unfold delS; rw [if_pos he]⟩
    rw [HS.out]
    clear HS h he
    go_enter Tryd.func74, Tryd.ntmps74
    go_wp2_with fail
    go_ret
    exact ⟨rfl, H.out, Kp.refl _ _⟩
set_option maxHeartbeats 4000000 in
set_option maxRecDepth 100000 in
theorem write_calls {w W : World} {g : Nat} {s : St} (h : Rdr w W g s) (hb : Bytes s.1) (hl : s.1.length ≤ 140737488351232) :
    Calls Tryd.prog 70 #[.pointer (some ⟨g, 0, none⟩)] W (Post w W g (wv (writeS s).1) (writeS s).2) := by
  obtain ⟨dl, s1, hd⟩ : ∃ dl s1, delS s = (dl, s1) := ⟨_, _, rfl⟩
  have q1 := delS_good s
  rw [hd] at q1
  obtain ⟨tk, s2, ht⟩ : ∃ tk s2, textS 64 s1 = (tk, s2) := ⟨_, _, rfl⟩
  have q2 := textS_good 64 s1
  rw [ht] at q2
  have hb1 := q1.1 hb
  have hb2 := q2.1 hb1
  have l1 := q1.2.1
  have l2 := q2.2.1
  have BL := Aside0.mk (And.intro hb1 (And.intro hb2 (And.intro (show s1.1.length ≤ 140737488351232 by simp only at l1; omega) (show s2.1.length ≤ 140737488351232 by simp only at l1 l2; omega))))
  have HS := Aside0.mk (And.intro hd ht)
  have HDc : Aside0 (∀ W : World, Rdr w W g s → Calls Tryd.prog 74 #[.pointer (some ⟨g, 0, none⟩)] W (Post w W g (.bool dl) s1)) := ⟨fun W R => by have hx := del_calls R; rw [hd] at hx; exact hx⟩
  have GW := Aside0.mk h.lt
  have GE := Aside0.mk h.ge
  have R0 := Aside0.mk h
  have SZ := Aside0.mk (h.bel.size)
  have hus := Tryd.underlying67
  clear h hb hl hd ht q1 q2 hb1 hb2 l1 l2
  go_enter Tryd.func70, Tryd.ntmps70
  go_wp2_with (first | ((with_reducible refine gate_dst (N := 2) rfl ?_); refine box_event ?hg (N := 2) ?hd (cs := #[.string (⟨#[]⟩ : ByteArray), .bool false, .string (⟨#[]⟩ : ByteArray)]) (t := 67) ?hr ?_; (case hd => rfl); (case hg => rfl); (case hr => first | (go_simp; done) | (go_simp; rfl)); intro ga hga Wa hka hba; have Ka := Aside0.mk hka; have Ba := Aside0.mk hba; have Ga := Aside0.mk hga; have hza0 : Wa.cell? ⟨ga, 0, none⟩ = some (.string (⟨#[]⟩ : ByteArray)) := (blk_cell hka 0).trans rfl; have hza1 : Wa.cell? ⟨ga, 1, none⟩ = some (.bool false) := (blk_cell hka 1).trans rfl; have hza2 : Wa.cell? ⟨ga, 2, none⟩ = some (.string (⟨#[]⟩ : ByteArray)) := (blk_cell hka 2).trans rfl; have hfa0 := blk_frozen hka 0; have hfa1 := blk_frozen hka 1; have hfa2 := blk_frozen hka 2; clear hga hka hba))
  refine (HDc.out _ (R0.out.step Ba.out)).mono ?_
  rintro e W1 ⟨rfl, hR1, hK1⟩
  have NA := Aside0.mk (show g ≠ ga by rw [Ga.out]; exact Nat.ne_of_lt GW.out)
  have EA := Aside0.mk (show w.heap.size ≤ ga by rw [Ga.out]; exact SZ.out)
  have SA := Aside0.mk (show W.heap.size ≤ ga by rw [Ga.out]; exact Nat.le_refl _)
  have KA1 := Aside0.mk (hK1.blk Ka.out (Ne.symm NA.out))
  have KP1 := Aside0.mk ((Kp.of_below (g := g) Ba.out).trans hK1)
  have R1 := Aside0.mk hR1
  clear hR1 hK1 hza0 hza1 hza2 hfa0 hfa1 hfa2 Ka
  go_wp2_with (first | ((with_reducible refine gate_dst (N := 3) rfl ?_); refine box_event ?hg (N := 3) ?hd (cs := #[.string (⟨#[]⟩ : ByteArray), .bool false, .string (⟨#[]⟩ : ByteArray)]) (t := 67) ?hr ?_; (case hd => rfl); (case hg => rfl); (case hr => first | (go_simp; done) | (go_simp; rfl)); intro gb hgb Wb hkb hbb; have Kb := Aside0.mk hkb; have Bb := Aside0.mk hbb; have Gb := Aside0.mk hgb; have hzb0 : Wb.cell? ⟨gb, 0, none⟩ = some (.string (⟨#[]⟩ : ByteArray)) := (blk_cell hkb 0).trans rfl; have hzb1 : Wb.cell? ⟨gb, 1, none⟩ = some (.bool false) := (blk_cell hkb 1).trans rfl; have hzb2 : Wb.cell? ⟨gb, 2, none⟩ = some (.string (⟨#[]⟩ : ByteArray)) := (blk_cell hkb 2).trans rfl; have hfb0 := blk_frozen hkb 0; have hfb1 := blk_frozen hkb 1; have hfb2 := blk_frozen hkb 2; clear hgb hkb hbb))
  have NB := Aside0.mk (show g ≠ gb by rw [Gb.out]; exact Nat.ne_of_lt R1.out.lt)
  have EB := Aside0.mk (show w.heap.size ≤ gb by rw [Gb.out]; exact R1.out.bel.size)
  have SB := Aside0.mk (show W.heap.size ≤ gb by rw [Gb.out]; exact KP1.out.1)
  have AB := Aside0.mk (show ga ≠ gb by rw [Gb.out]; exact Nat.ne_of_lt (blk_lt KA1.out))
  have KA2 := Aside0.mk (blk_below KA1.out Bb.out)
  have R2 := Aside0.mk (R1.out.step Bb.out)
  have KP2 := Aside0.mk (KP1.out.trans (Kp.of_below (g := g) Bb.out))
  have HT : Aside0 (∀ W : World, Rdr w W g s1 → Calls Tryd.prog 75 #[.pointer (some ⟨g, 0, none⟩), .int .i64 64] W (Post w W g (.string tk) s2)) := ⟨fun W R => by have hx := text_calls 64 (by decide) (by decide) R BL.out.1 BL.out.2.2.1; rw [HS.out.2] at hx; exact hx⟩
  refine (HT.out _ (by repeat (first | exact R2.out | refine Rdr.far ?_ NB.out EB.out _))).mono ?_
  rintro e W3 ⟨rfl, hR3, hK3⟩
  have KA3 : Aside0 (W3.heap[ga]? = some (.cells #[.string (⟨#[]⟩ : ByteArray), .bool false, .string (⟨#[]⟩ : ByteArray)] 67 (0, 0))) := Aside0.mk (hK3.blk (by repeat (first | exact KA2.out | refine blk_far ?_ AB.out _)) (Ne.symm NA.out))
  have KB3 : Aside0 (W3.heap[gb]? = some (.cells #[.string (⟨#[]⟩ : ByteArray), .bool dl, .string (⟨#[]⟩ : ByteArray)] 67 (0, 0))) := ⟨hK3.blk (by refine blk_put (cs := #[.string (⟨#[]⟩ : ByteArray), .bool dl, .string (⟨#[]⟩ : ByteArray)]) ?_ 2 _ rfl; refine blk_put (cs := #[.string (⟨#[]⟩ : ByteArray), .bool false, .string (⟨#[]⟩ : ByteArray)]) ?_ 1 _ rfl; refine blk_put (cs := #[.string (⟨#[]⟩ : ByteArray), .bool false, .string (⟨#[]⟩ : ByteArray)]) ?_ 0 _ rfl; exact Kb.out) (Ne.symm NB.out)⟩
  have KP3 : Aside0 (Kp W W3 g) := Aside0.mk (Kp.trans (by repeat (first | exact KP2.out | refine Kp.far ?_ SB.out _)) hK3)
  have R3 := Aside0.mk hR3
  clear hR3 hK3 hzb0 hzb1 hzb2 hfb0 hfb1 hfb2 Kb KA1 KA2 R1 R2 KP1 KP2 HT Ba Bb HDc
  have hzc0 : W3.cell? ⟨gb, 0, none⟩ = some (.string (⟨#[]⟩ : ByteArray)) := (blk_cell KB3.out 0).trans rfl; have hfc0 := blk_frozen KB3.out 0; have hzc1 : W3.cell? ⟨gb, 1, none⟩ = some (.bool dl) := (blk_cell KB3.out 1).trans rfl; have hfc1 := blk_frozen KB3.out 1; have hzc2 : W3.cell? ⟨gb, 2, none⟩ = some (.string (⟨#[]⟩ : ByteArray)) := (blk_cell KB3.out 2).trans rfl; have hfc2 := blk_frozen KB3.out 2
  have hzd0 : W3.cell? ⟨ga, 0, none⟩ = some (.string (⟨#[]⟩ : ByteArray)) := (blk_cell KA3.out 0).trans rfl; have hfd0 := blk_frozen KA3.out 0; have hzd1 : W3.cell? ⟨ga, 1, none⟩ = some (.bool false) := (blk_cell KA3.out 1).trans rfl; have hfd1 := blk_frozen KA3.out 1; have hzd2 : W3.cell? ⟨ga, 2, none⟩ = some (.string (⟨#[]⟩ : ByteArray)) := (blk_cell KA3.out 2).trans rfl; have hfd2 := blk_frozen KA3.out 2
  have hr0 := R3.out.err
  have hr1 := R3.out.frz 1
  have nba := NB.out
  have nbb := Ne.symm NB.out
  have naa := NA.out
  have nab := Ne.symm NA.out
  have abb := AB.out
  have aba := Ne.symm AB.out
  by_cases e2 : s2.2 = 0
  · have d2 : ((s2.2 : Int) == 0) = true := by rw [beq_iff_eq]; omega
    by_cases e3 : tk.toList = ([] : List UInt8)
    · have d3 : (tk.toList == ([] : List UInt8)) = true := beq_iff_eq.mpr e3
      have HK : Aside0 (keyS s1 = (tk, (s2.1, 21))) := ⟨by unfold keyS; rw [HS.out.2]; simp only; rw [if_pos ⟨e2, e3⟩]⟩
      clear e2 e3
      cases dl with
      | true =>
        have HW : Aside0 (writeS s = (⟨tk, true, (⟨#[]⟩ : ByteArray)⟩, (s2.1, 21))) := ⟨by unfold writeS; rw [HS.out.1]; simp only; rw [HK.out]; rfl⟩
        go_wp2_with fail
        refine bodyPost_ret (results_single rfl (.cell ga 67 #[.string tk, .bool true, .string (⟨#[]⟩ : ByteArray)] (0, 0) _ rfl (by refine blk_put (cs := #[.string tk, .bool true, .string (⟨#[]⟩ : ByteArray)]) ?_ 2 _ rfl; refine blk_put (cs := #[.string tk, .bool false, .string (⟨#[]⟩ : ByteArray)]) ?_ 1 _ rfl; refine blk_put (cs := #[.string (⟨#[]⟩ : ByteArray), .bool false, .string (⟨#[]⟩ : ByteArray)]) ?_ 0 _ rfl; repeat (first | exact KA3.out | refine blk_far ?_ AB.out _ | refine blk_far ?_ (Ne.symm NA.out) _)) Tryd.underlying67 rfl (by kernel_rfl) .nil)) rfl ?_
        rw [HW.out]
        exact ⟨rfl, (by repeat (first | exact R3.out | refine Rdr.far ?_ NA.out EA.out _ | refine Rdr.far ?_ NB.out EB.out _ | refine Rdr.set1 ?_ 21)), (by repeat (first | exact KP3.out | refine Kp.far ?_ SA.out _ | refine Kp.far ?_ SB.out _ | refine Kp.own ?_ _ _))⟩
      | false =>
        obtain ⟨tv, s3, hv⟩ : ∃ tv s3, textS 512 (s2.1, 21) = (tv, s3) := ⟨_, _, rfl⟩
        have HW : Aside0 (writeS s = (⟨tk, false, tv⟩, s3)) := ⟨by unfold writeS; rw [HS.out.1]; simp only; rw [HK.out]; simp only; rw [hv]; rfl⟩
        have HT : Aside0 (∀ W : World, Rdr w W g (s2.1, 21) → Calls Tryd.prog 75 #[.pointer (some ⟨g, 0, none⟩), .int .i64 512] W (Post w W g (.string tv) s3)) := ⟨fun W R => by have hx := text_calls 512 (by decide) (by decide) R BL.out.2.1 BL.out.2.2.2; rw [hv] at hx; exact hx⟩
        clear hv
        go_wp2_with fail
        refine (HT.out _ (by repeat (first | exact R3.out | refine Rdr.far ?_ NA.out EA.out _ | refine Rdr.far ?_ NB.out EB.out _ | refine Rdr.set1 ?_ 21))).mono ?_
        rintro e W4 ⟨rfl, hR4, hK4⟩
        have KA4 : Aside0 (W4.heap[ga]? = some (.cells #[.string (⟨#[]⟩ : ByteArray), .bool false, .string (⟨#[]⟩ : ByteArray)] 67 (0, 0))) := Aside0.mk (hK4.blk (by repeat (first | exact KA3.out | refine blk_far ?_ AB.out _ | refine blk_far ?_ (Ne.symm NA.out) _)) (Ne.symm NA.out))
        have KB4 : Aside0 (W4.heap[gb]? = some (.cells #[.string tk, .bool false, .string (⟨#[]⟩ : ByteArray)] 67 (0, 0))) := ⟨hK4.blk (by repeat (first | exact KB3.out | refine blk_far ?_ (Ne.symm NB.out) _ | refine blk_put (cs := #[.string (⟨#[]⟩ : ByteArray), .bool false, .string (⟨#[]⟩ : ByteArray)]) ?_ 0 _ rfl)) (Ne.symm NB.out)⟩
        have KP4 : Aside0 (Kp W W4 g) := Aside0.mk (Kp.trans (by repeat (first | exact KP3.out | refine Kp.far ?_ SA.out _ | refine Kp.far ?_ SB.out _ | refine Kp.own ?_ _ _)) hK4)
        have R4 := Aside0.mk hR4
        clear hR4 hK4
        have hze0 : W4.cell? ⟨gb, 0, none⟩ = some (.string tk) := (blk_cell KB4.out 0).trans rfl; have hfe0 := blk_frozen KB4.out 0; have hze1 : W4.cell? ⟨gb, 1, none⟩ = some (.bool false) := (blk_cell KB4.out 1).trans rfl; have hfe1 := blk_frozen KB4.out 1; have hze2 : W4.cell? ⟨gb, 2, none⟩ = some (.string (⟨#[]⟩ : ByteArray)) := (blk_cell KB4.out 2).trans rfl; have hfe2 := blk_frozen KB4.out 2
        have hzk0 : W4.cell? ⟨ga, 0, none⟩ = some (.string (⟨#[]⟩ : ByteArray)) := (blk_cell KA4.out 0).trans rfl; have hfk0 := blk_frozen KA4.out 0; have hzk1 : W4.cell? ⟨ga, 1, none⟩ = some (.bool false) := (blk_cell KA4.out 1).trans rfl; have hfk1 := blk_frozen KA4.out 1; have hzk2 : W4.cell? ⟨ga, 2, none⟩ = some (.string (⟨#[]⟩ : ByteArray)) := (blk_cell KA4.out 2).trans rfl; have hfk2 := blk_frozen KA4.out 2
        go_wp2_with fail
        refine bodyPost_ret (results_single rfl (.cell ga 67 #[.string tk, .bool false, .string tv] (0, 0) _ rfl (by refine blk_put (cs := #[.string tk, .bool false, .string (⟨#[]⟩ : ByteArray)]) ?_ 2 _ rfl; refine blk_put (cs := #[.string tk, .bool false, .string (⟨#[]⟩ : ByteArray)]) ?_ 1 _ rfl; refine blk_put (cs := #[.string (⟨#[]⟩ : ByteArray), .bool false, .string (⟨#[]⟩ : ByteArray)]) ?_ 0 _ rfl; repeat (first | exact KA4.out | refine blk_far ?_ AB.out _ | refine blk_far ?_ (Ne.symm NA.out) _)) Tryd.underlying67 rfl (by kernel_rfl) .nil)) rfl ?_
        rw [HW.out]
        exact ⟨rfl, (by repeat (first | exact R4.out | refine Rdr.far ?_ NA.out EA.out _ | refine Rdr.far ?_ NB.out EB.out _ | refine Rdr.set1 ?_ 21)), (by repeat (first | exact KP4.out | refine Kp.far ?_ SA.out _ | refine Kp.far ?_ SB.out _ | refine Kp.own ?_ _ _))⟩
    · have d3 : (tk.toList == ([] : List UInt8)) = false := beq_eq_false_iff_ne.mpr e3
      have HK : Aside0 (keyS s1 = (tk, s2)) := ⟨by unfold keyS; rw [HS.out.2]; simp only; rw [if_neg (fun h => e3 h.2)]⟩
      clear e2
      cases dl with
      | true =>
        have HW : Aside0 (writeS s = (⟨tk, true, (⟨#[]⟩ : ByteArray)⟩, s2)) := ⟨by unfold writeS; rw [HS.out.1]; simp only; rw [HK.out]; rfl⟩
        go_wp2_with fail
        refine bodyPost_ret (results_single rfl (.cell ga 67 #[.string tk, .bool true, .string (⟨#[]⟩ : ByteArray)] (0, 0) _ rfl (by refine blk_put (cs := #[.string tk, .bool true, .string (⟨#[]⟩ : ByteArray)]) ?_ 2 _ rfl; refine blk_put (cs := #[.string tk, .bool false, .string (⟨#[]⟩ : ByteArray)]) ?_ 1 _ rfl; refine blk_put (cs := #[.string (⟨#[]⟩ : ByteArray), .bool false, .string (⟨#[]⟩ : ByteArray)]) ?_ 0 _ rfl; repeat (first | exact KA3.out | refine blk_far ?_ AB.out _ | refine blk_far ?_ (Ne.symm NA.out) _)) Tryd.underlying67 rfl (by kernel_rfl) .nil)) rfl ?_
        rw [HW.out]
        exact ⟨rfl, (by repeat (first | exact R3.out | refine Rdr.far ?_ NA.out EA.out _ | refine Rdr.far ?_ NB.out EB.out _ | refine Rdr.set1 ?_ 21)), (by repeat (first | exact KP3.out | refine Kp.far ?_ SA.out _ | refine Kp.far ?_ SB.out _ | refine Kp.own ?_ _ _))⟩
      | false =>
        obtain ⟨tv, s3, hv⟩ : ∃ tv s3, textS 512 s2 = (tv, s3) := ⟨_, _, rfl⟩
        have HW : Aside0 (writeS s = (⟨tk, false, tv⟩, s3)) := ⟨by unfold writeS; rw [HS.out.1]; simp only; rw [HK.out]; simp only; rw [hv]; rfl⟩
        have HT : Aside0 (∀ W : World, Rdr w W g s2 → Calls Tryd.prog 75 #[.pointer (some ⟨g, 0, none⟩), .int .i64 512] W (Post w W g (.string tv) s3)) := ⟨fun W R => by have hx := text_calls 512 (by decide) (by decide) R BL.out.2.1 BL.out.2.2.2; rw [hv] at hx; exact hx⟩
        clear hv
        go_wp2_with fail
        refine (HT.out _ (by repeat (first | exact R3.out | refine Rdr.far ?_ NA.out EA.out _ | refine Rdr.far ?_ NB.out EB.out _ | refine Rdr.set1 ?_ 21))).mono ?_
        rintro e W4 ⟨rfl, hR4, hK4⟩
        have KA4 : Aside0 (W4.heap[ga]? = some (.cells #[.string (⟨#[]⟩ : ByteArray), .bool false, .string (⟨#[]⟩ : ByteArray)] 67 (0, 0))) := Aside0.mk (hK4.blk (by repeat (first | exact KA3.out | refine blk_far ?_ AB.out _ | refine blk_far ?_ (Ne.symm NA.out) _)) (Ne.symm NA.out))
        have KB4 : Aside0 (W4.heap[gb]? = some (.cells #[.string tk, .bool false, .string (⟨#[]⟩ : ByteArray)] 67 (0, 0))) := ⟨hK4.blk (by repeat (first | exact KB3.out | refine blk_far ?_ (Ne.symm NB.out) _ | refine blk_put (cs := #[.string (⟨#[]⟩ : ByteArray), .bool false, .string (⟨#[]⟩ : ByteArray)]) ?_ 0 _ rfl)) (Ne.symm NB.out)⟩
        have KP4 : Aside0 (Kp W W4 g) := Aside0.mk (Kp.trans (by repeat (first | exact KP3.out | refine Kp.far ?_ SA.out _ | refine Kp.far ?_ SB.out _ | refine Kp.own ?_ _ _)) hK4)
        have R4 := Aside0.mk hR4
        clear hR4 hK4
        have hze0 : W4.cell? ⟨gb, 0, none⟩ = some (.string tk) := (blk_cell KB4.out 0).trans rfl; have hfe0 := blk_frozen KB4.out 0; have hze1 : W4.cell? ⟨gb, 1, none⟩ = some (.bool false) := (blk_cell KB4.out 1).trans rfl; have hfe1 := blk_frozen KB4.out 1; have hze2 : W4.cell? ⟨gb, 2, none⟩ = some (.string (⟨#[]⟩ : ByteArray)) := (blk_cell KB4.out 2).trans rfl; have hfe2 := blk_frozen KB4.out 2
        have hzk0 : W4.cell? ⟨ga, 0, none⟩ = some (.string (⟨#[]⟩ : ByteArray)) := (blk_cell KA4.out 0).trans rfl; have hfk0 := blk_frozen KA4.out 0; have hzk1 : W4.cell? ⟨ga, 1, none⟩ = some (.bool false) := (blk_cell KA4.out 1).trans rfl; have hfk1 := blk_frozen KA4.out 1; have hzk2 : W4.cell? ⟨ga, 2, none⟩ = some (.string (⟨#[]⟩ : ByteArray)) := (blk_cell KA4.out 2).trans rfl; have hfk2 := blk_frozen KA4.out 2
        go_wp2_with fail
        refine bodyPost_ret (results_single rfl (.cell ga 67 #[.string tk, .bool false, .string tv] (0, 0) _ rfl (by refine blk_put (cs := #[.string tk, .bool false, .string (⟨#[]⟩ : ByteArray)]) ?_ 2 _ rfl; refine blk_put (cs := #[.string tk, .bool false, .string (⟨#[]⟩ : ByteArray)]) ?_ 1 _ rfl; refine blk_put (cs := #[.string (⟨#[]⟩ : ByteArray), .bool false, .string (⟨#[]⟩ : ByteArray)]) ?_ 0 _ rfl; repeat (first | exact KA4.out | refine blk_far ?_ AB.out _ | refine blk_far ?_ (Ne.symm NA.out) _)) Tryd.underlying67 rfl (by kernel_rfl) .nil)) rfl ?_
        rw [HW.out]
        exact ⟨rfl, (by repeat (first | exact R4.out | refine Rdr.far ?_ NA.out EA.out _ | refine Rdr.far ?_ NB.out EB.out _ | refine Rdr.set1 ?_ 21)), (by repeat (first | exact KP4.out | refine Kp.far ?_ SA.out _ | refine Kp.far ?_ SB.out _ | refine Kp.own ?_ _ _))⟩
  · have d2 : ((s2.2 : Int) == 0) = false := by rw [beq_eq_false_iff_ne]; omega
    have HK : Aside0 (keyS s1 = (tk, s2)) := ⟨by unfold keyS; rw [HS.out.2]; simp only; rw [if_neg (fun h => e2 h.1)]⟩
    clear e2
    cases dl with
    | true =>
      have HW : Aside0 (writeS s = (⟨tk, true, (⟨#[]⟩ : ByteArray)⟩, s2)) := ⟨by unfold writeS; rw [HS.out.1]; simp only; rw [HK.out]; rfl⟩
      go_wp2_with fail
      refine bodyPost_ret (results_single rfl (.cell ga 67 #[.string tk, .bool true, .string (⟨#[]⟩ : ByteArray)] (0, 0) _ rfl (by refine blk_put (cs := #[.string tk, .bool true, .string (⟨#[]⟩ : ByteArray)]) ?_ 2 _ rfl; refine blk_put (cs := #[.string tk, .bool false, .string (⟨#[]⟩ : ByteArray)]) ?_ 1 _ rfl; refine blk_put (cs := #[.string (⟨#[]⟩ : ByteArray), .bool false, .string (⟨#[]⟩ : ByteArray)]) ?_ 0 _ rfl; repeat (first | exact KA3.out | refine blk_far ?_ AB.out _ | refine blk_far ?_ (Ne.symm NA.out) _)) Tryd.underlying67 rfl (by kernel_rfl) .nil)) rfl ?_
      rw [HW.out]
      exact ⟨rfl, (by repeat (first | exact R3.out | refine Rdr.far ?_ NA.out EA.out _ | refine Rdr.far ?_ NB.out EB.out _ | refine Rdr.set1 ?_ 21)), (by repeat (first | exact KP3.out | refine Kp.far ?_ SA.out _ | refine Kp.far ?_ SB.out _ | refine Kp.own ?_ _ _))⟩
    | false =>
      obtain ⟨tv, s3, hv⟩ : ∃ tv s3, textS 512 s2 = (tv, s3) := ⟨_, _, rfl⟩
      have HW : Aside0 (writeS s = (⟨tk, false, tv⟩, s3)) := ⟨by unfold writeS; rw [HS.out.1]; simp only; rw [HK.out]; simp only; rw [hv]; rfl⟩
      have HT : Aside0 (∀ W : World, Rdr w W g s2 → Calls Tryd.prog 75 #[.pointer (some ⟨g, 0, none⟩), .int .i64 512] W (Post w W g (.string tv) s3)) := ⟨fun W R => by have hx := text_calls 512 (by decide) (by decide) R BL.out.2.1 BL.out.2.2.2; rw [hv] at hx; exact hx⟩
      clear hv
      go_wp2_with fail
      refine (HT.out _ (by repeat (first | exact R3.out | refine Rdr.far ?_ NA.out EA.out _ | refine Rdr.far ?_ NB.out EB.out _ | refine Rdr.set1 ?_ 21))).mono ?_
      rintro e W4 ⟨rfl, hR4, hK4⟩
      have KA4 : Aside0 (W4.heap[ga]? = some (.cells #[.string (⟨#[]⟩ : ByteArray), .bool false, .string (⟨#[]⟩ : ByteArray)] 67 (0, 0))) := Aside0.mk (hK4.blk (by repeat (first | exact KA3.out | refine blk_far ?_ AB.out _ | refine blk_far ?_ (Ne.symm NA.out) _)) (Ne.symm NA.out))
      have KB4 : Aside0 (W4.heap[gb]? = some (.cells #[.string tk, .bool false, .string (⟨#[]⟩ : ByteArray)] 67 (0, 0))) := ⟨hK4.blk (by repeat (first | exact KB3.out | refine blk_far ?_ (Ne.symm NB.out) _ | refine blk_put (cs := #[.string (⟨#[]⟩ : ByteArray), .bool false, .string (⟨#[]⟩ : ByteArray)]) ?_ 0 _ rfl)) (Ne.symm NB.out)⟩
      have KP4 : Aside0 (Kp W W4 g) := Aside0.mk (Kp.trans (by repeat (first | exact KP3.out | refine Kp.far ?_ SA.out _ | refine Kp.far ?_ SB.out _ | refine Kp.own ?_ _ _)) hK4)
      have R4 := Aside0.mk hR4
      clear hR4 hK4
      have hze0 : W4.cell? ⟨gb, 0, none⟩ = some (.string tk) := (blk_cell KB4.out 0).trans rfl; have hfe0 := blk_frozen KB4.out 0; have hze1 : W4.cell? ⟨gb, 1, none⟩ = some (.bool false) := (blk_cell KB4.out 1).trans rfl; have hfe1 := blk_frozen KB4.out 1; have hze2 : W4.cell? ⟨gb, 2, none⟩ = some (.string (⟨#[]⟩ : ByteArray)) := (blk_cell KB4.out 2).trans rfl; have hfe2 := blk_frozen KB4.out 2
      have hzk0 : W4.cell? ⟨ga, 0, none⟩ = some (.string (⟨#[]⟩ : ByteArray)) := (blk_cell KA4.out 0).trans rfl; have hfk0 := blk_frozen KA4.out 0; have hzk1 : W4.cell? ⟨ga, 1, none⟩ = some (.bool false) := (blk_cell KA4.out 1).trans rfl; have hfk1 := blk_frozen KA4.out 1; have hzk2 : W4.cell? ⟨ga, 2, none⟩ = some (.string (⟨#[]⟩ : ByteArray)) := (blk_cell KA4.out 2).trans rfl; have hfk2 := blk_frozen KA4.out 2
      go_wp2_with fail
      refine bodyPost_ret (results_single rfl (.cell ga 67 #[.string tk, .bool false, .string tv] (0, 0) _ rfl (by refine blk_put (cs := #[.string tk, .bool false, .string (⟨#[]⟩ : ByteArray)]) ?_ 2 _ rfl; refine blk_put (cs := #[.string tk, .bool false, .string (⟨#[]⟩ : ByteArray)]) ?_ 1 _ rfl; refine blk_put (cs := #[.string (⟨#[]⟩ : ByteArray), .bool false, .string (⟨#[]⟩ : ByteArray)]) ?_ 0 _ rfl; repeat (first | exact KA4.out | refine blk_far ?_ AB.out _ | refine blk_far ?_ (Ne.symm NA.out) _)) Tryd.underlying67 rfl (by kernel_rfl) .nil)) rfl ?_
      rw [HW.out]
      exact ⟨rfl, (by repeat (first | exact R4.out | refine Rdr.far ?_ NA.out EA.out _ | refine Rdr.far ?_ NB.out EB.out _ | refine Rdr.set1 ?_ 21)), (by repeat (first | exact KP4.out | refine Kp.far ?_ SA.out _ | refine Kp.far ?_ SB.out _ | refine Kp.own ?_ _ _))⟩
end Go.Proofs.YtnamanalacjhnaaDoor.Gt
/- The reader's batch (this claim's own lemmas). -/
namespace Go.Proofs.YtnamanalacjhnaaDoor.Gt
open Go.RowKit Go.Proofs.YtnamanalacjhnaaDoorW.PrintWords Go.Proofs.YtnamanalacjhnaaDoor.Own Go.Proofs.YtnamanalacjhnaaDoor.Wk Go.Proofs.YtnamanalacjhnaaDoor.QBk
set_option linter.unusedVariables false
set_option maxHeartbeats 4000000 in
set_option maxRecDepth 100000 in
theorem batch_calls {w W : World} {g : Nat} {s : St} (h : Rdr w W g s) (hb : Bytes s.1) (hl : s.1.length ≤ 1073741824) :
    Calls Tryd.prog 56 #[.pointer (some ⟨g, 0, none⟩)] W (PostB w W g (batchS s).1 (batchS s).2) := by
  obtain ⟨n, s1, hd⟩ : ∃ n s1, numS s = (n, s1) := ⟨_, _, rfl⟩
  have q1 := numS_good s
  have q2 := numS_lt hb
  rw [hd] at q1 q2
  have hb1 := q1.1 hb
  have l1 := q1.2.1
  have BL := Aside0.mk (And.intro hb1 (show s1.1.length ≤ 1073741824 by simp only at l1; omega))
  have NL := Aside0.mk q2
  have HS := Aside0.mk hd
  have hD := number_calls h hb (by omega)
  rw [hd] at hD
  have HD := Aside0.mk hD
  have GW := Aside0.mk h.lt
  have SZ := Aside0.mk (h.bel.size)
  clear h hb hl hd q1 q2 hb1 l1 hD
  go_enter Tryd.func56, Tryd.ntmps56
  go_wp2_with fail
  refine HD.out.mono ?_
  rintro e W1 ⟨rfl, hR1, hK1⟩
  have R1 := Aside0.mk hR1
  have K1 := Aside0.mk hK1
  have hr0 := hR1.err
  have hr1 := hR1.frz 1
  clear hR1 hK1 HD
  by_cases e1 : s1.2 = 0
  · have d1 : ((s1.2 : Int) == 0) = true := by rw [beq_iff_eq]; omega
    by_cases e2 : n > 16
    · have d2 : decide ((16 : Int) < (n : Int)) = true := decide_eq_true (by omega)
      have d3 : decide (16 < n) = true := decide_eq_true e2
      obtain ⟨σ, hσ⟩ : ∃ σ : St, σ = (s1.1, 22) := ⟨_, rfl⟩
      have HC : Aside0 (countS s = (n, σ)) := ⟨by rw [hσ]; unfold countS; rw [HS.out]; simp only; exact if_pos ⟨e1, e2⟩⟩
      have HN : Aside0 (σ.2 = 0 → n ≤ 16) := ⟨by rw [hσ]; intro h; exact absurd h (Nat.succ_ne_zero _)⟩
      have BS : Aside0 (Bytes σ.1 ∧ σ.1.length ≤ 1073741824) := ⟨by rw [hσ]; exact BL.out⟩
      go_wp2_with fail
      have RS : Aside0 (Rdr w (W1.setCell ⟨g, 1, none⟩ (.int .i64 22)) g σ) := ⟨by rw [hσ]; exact R1.out.set1 22⟩
      have KS : Aside0 (Kp W (W1.setCell ⟨g, 1, none⟩ (.int .i64 22)) g) := ⟨K1.out.own 1 _⟩
      clear hσ hr0 hr1 R1 K1
      obtain ⟨L, σf, hL⟩ : ∃ L σf, writesS n σ = (L, σf) := ⟨_, _, rfl⟩
      have HB : Aside0 (batchS s = (L, σf)) := ⟨by unfold batchS; rw [HC.out]; exact hL⟩
      have HL := Aside0.mk hL
      clear hL
      go_loopw [4, 5] (fun v4 iv wr => ∃ (k : Nat) (pre : List Wr) (st : St), iv = .int .u64 (k : Int) ∧ k ≤ n ∧ Aside0 ((k = 0 ∨ n ≤ 16) ∧ pre.length = k ∧ (st.2 = 0 → n ≤ 16) ∧ pre ++ (writesS (n - k) st).1 = L ∧ (writesS (n - k) st).2 = σf ∧ Bytes st.1 ∧ st.1.length ≤ 1073741824) ∧ Aside0 (Rdr w wr g st) ∧ Aside0 (Kp W wr g) ∧ Aside0 (Kd.R k67 67 wr W.heap.size (fun k => k ≠ g) v4 pre)) (fun _ iv _ => n - (intOf iv).toNat)
      case atStart => exact ⟨0, [], σ, rfl, by omega, ⟨.inl rfl, rfl, HN.out, by rw [Nat.sub_zero, HL.out]; rfl, by rw [Nat.sub_zero, HL.out], BS.out.1, BS.out.2⟩, RS, KS, ⟨Kd.R_nil _ _ _ _ _⟩⟩
      case round =>
        clear RS KS
        obtain ⟨k, pre, st, rfl, hk, I, R, K, O⟩ := hrel
        have hr0 := R.out.err
        by_cases hlt : k < n
        · have d1 : decide ((k : Int) < (n : Int)) = true := decide_eq_true (by omega)
          by_cases he : st.2 = 0
          · have d2 : ((st.2 : Int) == 0) = true := by rw [beq_iff_eq]; omega
            obtain ⟨⟨ka, kb, kc⟩, st', hw⟩ : ∃ (x : Wr) (st' : St), writeS st = (x, st') := ⟨_, _, rfl⟩
            have q1 := writeS_good st
            rw [hw] at q1
            have hD := write_calls R.out I.out.2.2.2.2.2.1 (by have := I.out.2.2.2.2.2.2; omega)
            rw [hw] at hD
            have HD := Aside0.mk hD
            have H16 := I.out.2.2.1 he
            exact absurd H16 (by omega)
          · have d2 : ((st.2 : Int) == 0) = false := by rw [beq_eq_false_iff_ne]; omega
            have HF : Aside0 (pre = L ∧ st = σf) := ⟨by obtain ⟨i1, i2, i3, i4, i5, i6, i7⟩ := I.out; rw [writesS_bad _ he] at i4 i5; exact ⟨by simpa using i4, i5⟩⟩
            clear he
            go_wp2_with fail
            go_ret
            rw [HB.out]
            exact ⟨_, rfl, HF.out.2 ▸ R.out, K.out, HF.out.1 ▸ O.out⟩
        · have d1 : decide ((k : Int) < (n : Int)) = false := decide_eq_false (by omega)
          have HF : Aside0 (pre = L ∧ st = σf) := ⟨by obtain ⟨i1, i2, i3, i4, i5, i6, i7⟩ := I.out; rw [show n - k = 0 by omega] at i4 i5; exact ⟨by simpa [writesS] using i4, i5⟩⟩
          go_wp2_with fail
          go_ret
          rw [HB.out]
          exact ⟨_, rfl, HF.out.2 ▸ R.out, K.out, HF.out.1 ▸ O.out⟩
    · have d2 : decide ((16 : Int) < (n : Int)) = false := decide_eq_false (by omega)
      have d3 : decide (16 < n) = false := decide_eq_false e2
      obtain ⟨σ, hσ⟩ : ∃ σ : St, σ = s1 := ⟨_, rfl⟩
      have HC : Aside0 (countS s = (n, σ)) := ⟨by rw [hσ]; unfold countS; rw [HS.out]; simp only; exact if_neg (fun h => e2 h.2)⟩
      have HN : Aside0 (σ.2 = 0 → n ≤ 16) := ⟨by rw [hσ]; intro _; omega⟩
      have BS : Aside0 (Bytes σ.1 ∧ σ.1.length ≤ 1073741824) := ⟨by rw [hσ]; exact BL.out⟩
      go_wp2_with fail
      have RS : Aside0 (Rdr w W1 g σ) := ⟨by rw [hσ]; exact R1.out⟩
      have KS : Aside0 (Kp W W1 g) := ⟨K1.out⟩
      clear hσ hr0 hr1 R1 K1
      obtain ⟨L, σf, hL⟩ : ∃ L σf, writesS n σ = (L, σf) := ⟨_, _, rfl⟩
      have HB : Aside0 (batchS s = (L, σf)) := ⟨by unfold batchS; rw [HC.out]; exact hL⟩
      have HL := Aside0.mk hL
      clear hL
      go_loopw [4, 5] (fun v4 iv wr => ∃ (k : Nat) (pre : List Wr) (st : St), iv = .int .u64 (k : Int) ∧ k ≤ n ∧ Aside0 ((k = 0 ∨ n ≤ 16) ∧ pre.length = k ∧ (st.2 = 0 → n ≤ 16) ∧ pre ++ (writesS (n - k) st).1 = L ∧ (writesS (n - k) st).2 = σf ∧ Bytes st.1 ∧ st.1.length ≤ 1073741824) ∧ Aside0 (Rdr w wr g st) ∧ Aside0 (Kp W wr g) ∧ Aside0 (Kd.R k67 67 wr W.heap.size (fun k => k ≠ g) v4 pre)) (fun _ iv _ => n - (intOf iv).toNat)
      case atStart => exact ⟨0, [], σ, rfl, by omega, ⟨.inl rfl, rfl, HN.out, by rw [Nat.sub_zero, HL.out]; rfl, by rw [Nat.sub_zero, HL.out], BS.out.1, BS.out.2⟩, RS, KS, ⟨Kd.R_nil _ _ _ _ _⟩⟩
      case round =>
        clear RS KS
        obtain ⟨k, pre, st, rfl, hk, I, R, K, O⟩ := hrel
        have hr0 := R.out.err
        by_cases hlt : k < n
        · have d1 : decide ((k : Int) < (n : Int)) = true := decide_eq_true (by omega)
          by_cases he : st.2 = 0
          · have d2 : ((st.2 : Int) == 0) = true := by rw [beq_iff_eq]; omega
            obtain ⟨⟨ka, kb, kc⟩, st', hw⟩ : ∃ (x : Wr) (st' : St), writeS st = (x, st') := ⟨_, _, rfl⟩
            have q1 := writeS_good st
            rw [hw] at q1
            have hD := write_calls R.out I.out.2.2.2.2.2.1 (by have := I.out.2.2.2.2.2.2; omega)
            rw [hw] at hD
            have HD := Aside0.mk hD
            have H16 := I.out.2.2.1 he
            have J : Aside0 ((k + 1 = 0 ∨ n ≤ 16) ∧ (pre ++ [(⟨ka, kb, kc⟩ : Wr)]).length = k + 1 ∧ (st'.2 = 0 → n ≤ 16) ∧ (pre ++ [(⟨ka, kb, kc⟩ : Wr)]) ++ (writesS (n - (k + 1)) st').1 = L ∧ (writesS (n - (k + 1)) st').2 = σf ∧ Bytes st'.1 ∧ st'.1.length ≤ 1073741824) := ⟨by
              obtain ⟨i1, i2, i3, i4, i5, i6, i7⟩ := I.out
              obtain ⟨m, hm⟩ : ∃ m, n - k = m + 1 := ⟨n - k - 1, by omega⟩
              have hm2 : n - (k + 1) = m := by omega
              rw [hm] at i4 i5
              unfold writesS at i4 i5
              rw [if_neg (by omega), hw] at i4 i5
              rw [hm2]
              exact ⟨.inr H16, by simp [i2], fun _ => H16, by rw [List.append_assoc]; exact i4, i5, q1.1 i6, Nat.le_trans q1.2.1 i7⟩⟩
            clear hw q1 hD he
            go_wp2_with fail
            refine HD.out.mono ?_
            rintro e W2 ⟨rfl, hR2, hK2⟩
            have O2 := Aside0.mk (Kp.row O.out hK2)
            have PL := Aside0.mk (show (pre.length + 1) * 40 ≤ 140737488355328 by have := I.out.2.1; omega)
            have R2 := Aside0.mk hR2
            have K2 := Aside0.mk (K.out.trans hK2)
            clear hR2 hK2 HD hr0 R K O I
            unfold wv
            go_wp2_with (first | ((with_reducible refine gate_builtin (b := .append) (xs := #[.tmp 32, .tmp 35]) rfl ?_); at_builtin; refine Kd.R_append k67 (w0 := W2) W.heap.size rfl (.tmp 32) (.tmp 35) 65 67 (.agg #[(.string ⟨#[]⟩), (.bool false), (.string ⟨#[]⟩)]) 40 rfl Tryd.underlying65 info67 rfl (by decide) (by omega) _ pre (⟨ka, kb, kc⟩ : Wr) [.string ka, .bool kb, .string kc] (fun k_ => k_ ≠ g) (fun _ => False) rfl (by first | (go_simp; done) | (go_simp; rfl)) (k67_mkM _ _ _ (⟨ka, kb, kc⟩ : Wr)) (fun _ hk => hk.elim) (fun k_ hk => (by have := R2.out.lt; omega)) O2.out (Below.refl _ _) K2.out.1 PL.out ?_; intro v1 W3 ho hb hg hat; have O3 := Aside0.mk ho; have R3 := Aside0.mk (Rdr.grown R2.out hb SZ.out hg (Kd.R_away O2.out (fun _ hk => hk))); have K3 := Aside0.mk (Kp.grown K2.out hg (fun k_ hk => Kd.R_base O2.out k_ hk)); clear ho hb hg hat))
            exact ⟨⟨k + 1, _, _, by first | rfl | go_num | rw [show (IntKind.u64.wrap ((k : Int) + 1)) = ((k + 1 : Nat) : Int) from u64_nat (n := k + 1) (by omega)], by omega, J, R3, K3, O3⟩, by simp [intOf]; omega⟩
          · have d2 : ((st.2 : Int) == 0) = false := by rw [beq_eq_false_iff_ne]; omega
            have HF : Aside0 (pre = L ∧ st = σf) := ⟨by obtain ⟨i1, i2, i3, i4, i5, i6, i7⟩ := I.out; rw [writesS_bad _ he] at i4 i5; exact ⟨by simpa using i4, i5⟩⟩
            clear he
            go_wp2_with fail
            go_ret
            rw [HB.out]
            exact ⟨_, rfl, HF.out.2 ▸ R.out, K.out, HF.out.1 ▸ O.out⟩
        · have d1 : decide ((k : Int) < (n : Int)) = false := decide_eq_false (by omega)
          have HF : Aside0 (pre = L ∧ st = σf) := ⟨by obtain ⟨i1, i2, i3, i4, i5, i6, i7⟩ := I.out; rw [show n - k = 0 by omega] at i4 i5; exact ⟨by simpa [writesS] using i4, i5⟩⟩
          go_wp2_with fail
          go_ret
          rw [HB.out]
          exact ⟨_, rfl, HF.out.2 ▸ R.out, K.out, HF.out.1 ▸ O.out⟩
  · have d1 : ((s1.2 : Int) == 0) = false := by rw [beq_eq_false_iff_ne]; omega
    obtain ⟨σ, hσ⟩ : ∃ σ : St, σ = s1 := ⟨_, rfl⟩
    have HC : Aside0 (countS s = (n, σ)) := ⟨by rw [hσ]; unfold countS; rw [HS.out]; simp only; exact if_neg (fun h => e1 h.1)⟩
    have HN : Aside0 (σ.2 = 0 → n ≤ 16) := ⟨by rw [hσ]; intro h; exact absurd h e1⟩
    have BS : Aside0 (Bytes σ.1 ∧ σ.1.length ≤ 1073741824) := ⟨by rw [hσ]; exact BL.out⟩
    go_wp2_with fail
    have RS : Aside0 (Rdr w W1 g σ) := ⟨by rw [hσ]; exact R1.out⟩
    have KS : Aside0 (Kp W W1 g) := ⟨K1.out⟩
    clear hσ hr0 hr1 R1 K1
    obtain ⟨L, σf, hL⟩ : ∃ L σf, writesS n σ = (L, σf) := ⟨_, _, rfl⟩
    have HB : Aside0 (batchS s = (L, σf)) := ⟨by unfold batchS; rw [HC.out]; exact hL⟩
    have HL := Aside0.mk hL
    clear hL
    go_loopw [4, 5] (fun v4 iv wr => ∃ (k : Nat) (pre : List Wr) (st : St), iv = .int .u64 (k : Int) ∧ k ≤ n ∧ Aside0 ((k = 0 ∨ n ≤ 16) ∧ pre.length = k ∧ (st.2 = 0 → n ≤ 16) ∧ pre ++ (writesS (n - k) st).1 = L ∧ (writesS (n - k) st).2 = σf ∧ Bytes st.1 ∧ st.1.length ≤ 1073741824) ∧ Aside0 (Rdr w wr g st) ∧ Aside0 (Kp W wr g) ∧ Aside0 (Kd.R k67 67 wr W.heap.size (fun k => k ≠ g) v4 pre)) (fun _ iv _ => n - (intOf iv).toNat)
    case atStart => exact ⟨0, [], σ, rfl, by omega, ⟨.inl rfl, rfl, HN.out, by rw [Nat.sub_zero, HL.out]; rfl, by rw [Nat.sub_zero, HL.out], BS.out.1, BS.out.2⟩, RS, KS, ⟨Kd.R_nil _ _ _ _ _⟩⟩
    case round =>
      clear RS KS
      obtain ⟨k, pre, st, rfl, hk, I, R, K, O⟩ := hrel
      have hr0 := R.out.err
      by_cases hlt : k < n
      · have d1 : decide ((k : Int) < (n : Int)) = true := decide_eq_true (by omega)
        by_cases he : st.2 = 0
        · have d2 : ((st.2 : Int) == 0) = true := by rw [beq_iff_eq]; omega
          obtain ⟨⟨ka, kb, kc⟩, st', hw⟩ : ∃ (x : Wr) (st' : St), writeS st = (x, st') := ⟨_, _, rfl⟩
          have q1 := writeS_good st
          rw [hw] at q1
          have hD := write_calls R.out I.out.2.2.2.2.2.1 (by have := I.out.2.2.2.2.2.2; omega)
          rw [hw] at hD
          have HD := Aside0.mk hD
          have H16 := I.out.2.2.1 he
          have J : Aside0 ((k + 1 = 0 ∨ n ≤ 16) ∧ (pre ++ [(⟨ka, kb, kc⟩ : Wr)]).length = k + 1 ∧ (st'.2 = 0 → n ≤ 16) ∧ (pre ++ [(⟨ka, kb, kc⟩ : Wr)]) ++ (writesS (n - (k + 1)) st').1 = L ∧ (writesS (n - (k + 1)) st').2 = σf ∧ Bytes st'.1 ∧ st'.1.length ≤ 1073741824) := ⟨by
            obtain ⟨i1, i2, i3, i4, i5, i6, i7⟩ := I.out
            obtain ⟨m, hm⟩ : ∃ m, n - k = m + 1 := ⟨n - k - 1, by omega⟩
            have hm2 : n - (k + 1) = m := by omega
            rw [hm] at i4 i5
            unfold writesS at i4 i5
            rw [if_neg (by omega), hw] at i4 i5
            rw [hm2]
            exact ⟨.inr H16, by simp [i2], fun _ => H16, by rw [List.append_assoc]; exact i4, i5, q1.1 i6, Nat.le_trans q1.2.1 i7⟩⟩
          clear hw q1 hD he
          go_wp2_with fail
          refine HD.out.mono ?_
          rintro e W2 ⟨rfl, hR2, hK2⟩
          have O2 := Aside0.mk (Kp.row O.out hK2)
          have PL := Aside0.mk (show (pre.length + 1) * 40 ≤ 140737488355328 by have := I.out.2.1; omega)
          have R2 := Aside0.mk hR2
          have K2 := Aside0.mk (K.out.trans hK2)
          clear hR2 hK2 HD hr0 R K O I
          unfold wv
          go_wp2_with (first | ((with_reducible refine gate_builtin (b := .append) (xs := #[.tmp 32, .tmp 35]) rfl ?_); at_builtin; refine Kd.R_append k67 (w0 := W2) W.heap.size rfl (.tmp 32) (.tmp 35) 65 67 (.agg #[(.string ⟨#[]⟩), (.bool false), (.string ⟨#[]⟩)]) 40 rfl Tryd.underlying65 info67 rfl (by decide) (by omega) _ pre (⟨ka, kb, kc⟩ : Wr) [.string ka, .bool kb, .string kc] (fun k_ => k_ ≠ g) (fun _ => False) rfl (by first | (go_simp; done) | (go_simp; rfl)) (k67_mkM _ _ _ (⟨ka, kb, kc⟩ : Wr)) (fun _ hk => hk.elim) (fun k_ hk => (by have := R2.out.lt; omega)) O2.out (Below.refl _ _) K2.out.1 PL.out ?_; intro v1 W3 ho hb hg hat; have O3 := Aside0.mk ho; have R3 := Aside0.mk (Rdr.grown R2.out hb SZ.out hg (Kd.R_away O2.out (fun _ hk => hk))); have K3 := Aside0.mk (Kp.grown K2.out hg (fun k_ hk => Kd.R_base O2.out k_ hk)); clear ho hb hg hat))
          exact ⟨⟨k + 1, _, _, by first | rfl | go_num | rw [show (IntKind.u64.wrap ((k : Int) + 1)) = ((k + 1 : Nat) : Int) from u64_nat (n := k + 1) (by omega)], by omega, J, R3, K3, O3⟩, by simp [intOf]; omega⟩
        · have d2 : ((st.2 : Int) == 0) = false := by rw [beq_eq_false_iff_ne]; omega
          have HF : Aside0 (pre = L ∧ st = σf) := ⟨by obtain ⟨i1, i2, i3, i4, i5, i6, i7⟩ := I.out; rw [writesS_bad _ he] at i4 i5; exact ⟨by simpa using i4, i5⟩⟩
          clear he
          go_wp2_with fail
          go_ret
          rw [HB.out]
          exact ⟨_, rfl, HF.out.2 ▸ R.out, K.out, HF.out.1 ▸ O.out⟩
      · have d1 : decide ((k : Int) < (n : Int)) = false := decide_eq_false (by omega)
        have HF : Aside0 (pre = L ∧ st = σf) := ⟨by obtain ⟨i1, i2, i3, i4, i5, i6, i7⟩ := I.out; rw [show n - k = 0 by omega] at i4 i5; exact ⟨by simpa [writesS] using i4, i5⟩⟩
        go_wp2_with fail
        go_ret
        rw [HB.out]
        exact ⟨_, rfl, HF.out.2 ▸ R.out, K.out, HF.out.1 ▸ O.out⟩
end Go.Proofs.YtnamanalacjhnaaDoor.Gt
/- log.Get (this claim's own lemmas). -/
namespace Go.Proofs.YtnamanalacjhnaaDoor.Gt
open Go.RowKit Go.Proofs.YtnamanalacjhnaaDoorW.PrintWords Go.Proofs.YtnamanalacjhnaaDoor.Own Go.Proofs.YtnamanalacjhnaaDoor.Wk Go.Proofs.YtnamanalacjhnaaDoor.QBk
set_option linter.unusedVariables false
theorem total_snoc (g : List (List Wr)) (l : List Wr) : total (g ++ [l]) = total g + l.length := by simp [total, List.map_append, List.sum_append]
theorem batchS_le (s : St) : (batchS s).1.length ≤ 16 := by
  by_cases h : (countS s).2.2 = 0
  · have h1 := countS_ok h
    have h2 := writesS_le (countS s).1 (countS s).2
    unfold batchS
    rw [h1.1] at h2 ⊢
    omega
  · unfold batchS
    rw [writesS_bad _ h]
    exact Nat.zero_le _
/-- What holds at a round's head. -/
structure GI (L n : Nat) (G : List (List Wr)) (σ : St) (i f : Nat) (gr : List (List Wr)) (st : St) : Prop where
  len : gr.length = i
  tot : total gr ≤ 16 * i
  byt : Bytes st.1
  le : st.1.length ≤ L
  ok : st.2 = 0 → i + st.1.length ≤ L ∧ st.1.length < f
  il : i ≤ L + 1
  g : gr ++ (batchesS f (n - i) st).1 = G
  s : (batchesS f (n - i) st).2 = σ
theorem GI.next {L n : Nat} {G : List (List Wr)} {σ : St} {i f : Nat} {gr : List (List Wr)} {st : St} (h : GI L n G σ i f gr st) (hi : i < n) (he : st.2 = 0) : GI L n G σ (i + 1) (f - 1) (gr ++ [(batchS st).1]) (batchS st).2 := by
  have q := batchS_good st
  have hk := h.ok he
  have hg := h.g
  have hs := h.s
  obtain ⟨f', rfl⟩ : ∃ f', f = f' + 1 := ⟨f - 1, by omega⟩
  unfold batchesS at hg hs
  rw [if_neg (by omega)] at hg hs
  have hle := batchS_le st
  have htt := h.tot
  refine ⟨by simp [h.len], by rw [total_snoc]; omega, q.1 h.byt, Nat.le_trans q.2.1 h.le, fun h0 => ?_, by omega, ?_, ?_⟩
  · have := batchS_less h0
    omega
  · rw [List.append_assoc, show n - (i + 1) = n - i - 1 by omega]
    exact hg
  · rw [show n - (i + 1) = n - i - 1 by omega]
    exact hs
theorem GI.done {L n : Nat} {G : List (List Wr)} {σ : St} {i f : Nat} {gr : List (List Wr)} {st : St} (h : GI L n G σ i f gr st) (hx : n ≤ i ∨ st.2 ≠ 0) : gr = G ∧ st = σ := by
  have hz : batchesS f (n - i) st = ([], st) := by
    cases f with
    | zero => rfl
    | succ f => unfold batchesS; rw [if_pos (hx.imp (fun h => by omega) id)]
  have hg := h.g
  have hs := h.s
  rw [hz] at hg hs
  exact ⟨by simpa using hg, hs⟩
set_option maxHeartbeats 8000000 in
set_option maxRecDepth 100000 in
theorem get_calls {w : World} {A : Option Addr} {n0 c : Nat} {l : List Int} (h : Rd (Kd.int .u8) w A n0 c l) (hb : Bytes l) (hl : l.length ≤ 1073741824) :
    Calls Tryd.prog 24 #[.slice A n0 c] w fun e w' => ∃ v, e = .returned (.tuple #[.int .u64 (getL l).1, v, .int .i64 (getL l).2.2]) ∧ Kd.S (Kd.slice 67 k67) 65 w' w.heap.size (fun _ => True) v (getL l).2.1 ∧ Below w.heap.size w w' := by
  have HR := Aside0.mk h
  obtain ⟨a, s1, hN1⟩ : ∃ a s1, numS (l, 0) = (a, s1) := ⟨_, _, rfl⟩
  obtain ⟨n, s2, hN2⟩ : ∃ n s2, numS s1 = (n, s2) := ⟨_, _, rfl⟩
  obtain ⟨G, σ, hG⟩ : ∃ G σ, batchesS (l.length + 1) n s2 = (G, σ) := ⟨_, _, rfl⟩
  have HF : Aside0 (getL l = finS a G σ) := ⟨by unfold getL; simp only [hN1, hN2, hG]⟩
  have q1 := numS_good (l, 0)
  have q2 := numS_good s1
  have ha := numS_lt (s := (l, 0)) hb
  rw [hN1] at q1 ha
  rw [hN2] at q2
  have hb1 := q1.1 hb
  have hb2 := q2.1 hb1
  have l1 := q1.2.1
  have l2 := q2.2.1
  have HA := Aside0.mk ha
  have GI0 : Aside0 (GI l.length n G σ 0 (l.length + 1) [] s2) := ⟨rfl, Nat.le_refl _, hb2, Nat.le_trans l2 l1, fun _ => by simp only at l1 l2; omega, by omega, by rw [Nat.sub_zero, hG]; rfl, by rw [Nat.sub_zero, hG]⟩
  have HC1 : Aside0 (∀ (W : World) (g : Nat), Rdr w W g (l, 0) → Calls Tryd.prog 55 #[.pointer (some ⟨g, 0, none⟩)] W (Post w W g (.int .u64 (a : Int)) s1)) := ⟨fun W g R => by have hx := number_calls R hb (by simp only; omega); rw [hN1] at hx; exact hx⟩
  have HC2 : Aside0 (∀ (W : World) (g : Nat), Rdr w W g s1 → Calls Tryd.prog 55 #[.pointer (some ⟨g, 0, none⟩)] W (Post w W g (.int .u64 (n : Int)) s2)) := ⟨fun W g R => by have hx := number_calls R hb1 (by simp only at l1; omega); rw [hN2] at hx; exact hx⟩
  have HL := Aside0.mk hl
  have hur := Tryd.underlying93
  obtain ⟨L, hLL⟩ : ∃ L, L = l.length := ⟨_, rfl⟩
  rw [← hLL] at GI0 HL
  clear h hb hl hN1 hN2 hG q1 q2 ha hb1 hb2 l1 l2 hLL
  go_enter Tryd.func24, Tryd.ntmps24
  go_wp2_with (first | ((with_reducible refine gate_dst (N := 14) rfl ?_); refine box_event ?hg (N := 14) ?hd (cs := #[.slice A n0 c, .int .i64 0]) (t := 93) ?hr ?_; (case hd => rfl); (case hg => rfl); (case hr => first | (go_simp; done) | (go_simp; rfl)); intro g hg W1 hk hb; have K1 := Aside0.mk hk; have B1 := Aside0.mk hb; have G1 := Aside0.mk hg; clear hg hk hb))
  have R1 : Aside0 (Rdr w W1 g (l, 0)) := ⟨⟨A, n0, c, K1.out, HR.out⟩, B1.out, by rw [G1.out]; exact Nat.le_refl _⟩
  clear K1 B1 G1
  refine (HC1.out _ _ R1.out).mono ?_
  rintro e W2 ⟨rfl, hR2, -⟩
  have R2 := Aside0.mk hR2
  clear hR2 R1 HC1
  go_wp2_with fail
  refine (HC2.out _ _ R2.out).mono ?_
  rintro e W3 ⟨rfl, hR3, -⟩
  have R3 := Aside0.mk hR3
  clear hR3 R2 HC2
  go_wp2_with fail
  go_loopw [8, 9, 10, 11] (fun v8 v9 v10 v11 wr => ∃ (i f T : Nat) (gr : List (List Wr)) (st : St), v9 = .int .u64 (T : Int) ∧ v10 = .int .u64 (i : Int) ∧ i ≤ n ∧ Aside0 (T = total gr) ∧ Aside0 (GI L n G σ i f gr st) ∧ Aside0 (Rdr w wr g st) ∧ Aside0 (Kd.S (Kd.slice 67 k67) 65 wr w.heap.size (fun k => k ≠ g) v8 gr)) (fun _ _ iv _ _ => n - (intOf iv).toNat)
  case atStart => exact ⟨0, L + 1, 0, [], s2, rfl, rfl, Nat.zero_le _, ⟨rfl⟩, GI0, R3, ⟨Kd.S_nil _ _ _ _ _⟩⟩
  case round =>
    clear R3 GI0
    obtain ⟨i, f, T, gr, st, rfl, rfl, hin, HT, I, R, O⟩ := hrel
    have hr0 := R.out.err
    by_cases hlt : i < n ∧ st.2 = 0
    · obtain ⟨hlt, he⟩ := hlt
      have d1 : decide ((i : Int) < (n : Int)) = true := decide_eq_true (by omega)
      have d2 : ((st.2 : Int) == 0) = true := by rw [beq_iff_eq]; omega
      have J := Aside0.mk (I.out.next hlt he)
      obtain ⟨b, st', hw⟩ : ∃ b st', batchS st = (b, st') := ⟨_, _, rfl⟩
      have hD := batch_calls R.out I.out.byt (Nat.le_trans I.out.le HL.out)
      have HTb := Aside0.mk (batchS_le st)
      rw [hw] at hD HTb
      have J' : Aside0 (GI L n G σ (i + 1) (f - 1) (gr ++ [b]) st') := ⟨by have := J.out; rw [hw] at this; exact this⟩
      have HD := Aside0.mk hD
      have hiL : Aside0 (i ≤ L ∧ T ≤ 16 * i) := ⟨by have h1 := (I.out.ok he).1; have h2 := I.out.tot; have h3 := HT.out; omega⟩
      have HE := Aside0.mk he
      clear hw hD he J
      go_wp2_with fail
      refine HD.out.mono ?_
      rintro e W4 ⟨v, rfl, hR4, hK4, hO4⟩
      obtain ⟨Ab, cb, rfl⟩ := Kd.R_slice hO4
      have OB := Aside0.mk (Kd.R_tight rfl (Kd.R_lower (base' := w.heap.size) hO4 R.out.bel.size))
      have OX : Aside0 (∀ k_, some k_ = (Value.slice Ab b.length cb).ownBlock → k_ ≠ g ∧ some k_ ≠ (u8 : Value).ownBlock) := ⟨fun k_ hk => ⟨hO4.1 k_ hk.symm, fun e => by have h1 := Kd.R_base hO4 k_ hk.symm; have h2 := Kd.S_lt O.out k_ e.symm; omega⟩⟩
      have O4 : Aside0 (Kd.S (Kd.slice 67 k67) 65 W4 w.heap.size (fun k_ => k_ ≠ g ∧ ¬ some k_ = (Value.slice Ab b.length cb).ownBlock) u8 gr) := ⟨Kd.S_mono (Kd.S_step (Kd.S_bound O.out) (fun k_ ho hlt => hK4.2 k_ hlt ho.1)) (fun k_ hk => ⟨hk.1, fun e => by have h1 := Kd.R_base hO4 k_ e.symm; have h2 := hk.2.2.1; omega⟩)⟩
      have OA : Aside0 (Kd.S (Kd.slice 67 k67) 65 W4 w.heap.size (fun k_ => k_ ≠ g) u8 gr) := ⟨Kd.S_step O.out (fun k_ ho hlt => hK4.2 k_ hlt ho)⟩
      have R4 := Aside0.mk hR4
      have PL := Aside0.mk (show (gr.length + 1) * 24 ≤ 140737488355328 by have h1 := I.out.len; have h2 := hiL.out.1; have h3 := HL.out; omega)
      clear hR4 hK4 hO4 HD hr0 R O
      have hiL' := hiL.out
      have HL' := HL.out
      have HTb' := HTb.out
      go_wp2_with (first | ((with_reducible refine gate_builtin (b := .append) (xs := #[.tmp 33, .tmp 35]) rfl ?_); at_builtin; refine Kd.S_append (Kd.slice 67 k67) (w0 := W4) w.heap.size rfl (.tmp 33) (.tmp 35) 31 65 (.slice none 0 0) 24 rfl Tryd.underlying31 info65 rfl (by decide) (by omega) _ gr b [.slice Ab b.length cb] (fun k_ => k_ ≠ g) (fun k_ => some k_ = (.slice Ab b.length cb : Value).ownBlock) rfl (by first | (go_simp; done) | (go_simp; rfl)) (Kd.M_row OB.out) OX.out (fun k_ hk => (by have := R4.out.lt; omega)) O4.out (Below.refl _ _) R4.out.bel.size PL.out ?_; intro v1 W5 ho hb hg hat; have O5 := Aside0.mk ho; have R5 := Aside0.mk (Rdr.grown R4.out hb (Nat.le_refl _) hg (Kd.R_away (Kd.S_R OA.out) (fun _ hk => hk))); clear ho hb hg hat))
      exact ⟨⟨i + 1, f - 1, T + b.length, gr ++ [b], st', by first | rfl | go_num | (congr 1; rw [u64_nat (n := b.length) (by omega)]; exact u64_nat (n := T + b.length) (by omega)), by first | rfl | go_num | rw [show (IntKind.u64.wrap ((i : Int) + 1)) = ((i + 1 : Nat) : Int) from u64_nat (n := i + 1) (by omega)], by omega, ⟨by rw [total_snoc, HT.out]⟩, J', R5, O5⟩, by simp [intOf]; omega⟩
    · have HX : Aside0 (gr = G ∧ st = σ) := ⟨I.out.done (by omega)⟩
      have HQ : Aside0 (st.2 = σ.2 ∧ st.1.length = σ.1.length ∧ T = total G) := ⟨by rw [HX.out.2, ← HX.out.1]; exact ⟨rfl, rfl, HT.out⟩⟩
      have hx : (decide ((i : Int) < (n : Int)) = false ∧ decide (i < n) = false) ∨ (decide ((i : Int) < (n : Int)) = true ∧ decide (i < n) = true) ∧ ((st.2 : Int) == 0) = false := by
        by_cases h1 : i < n
        · exact .inr ⟨⟨decide_eq_true (by omega), decide_eq_true h1⟩, by rw [beq_eq_false_iff_ne]; omega⟩
        · exact .inl ⟨decide_eq_false (by omega), decide_eq_false h1⟩
      have OF : Aside0 (Kd.S (Kd.slice 67 k67) 65 wr w.heap.size (fun _ => True) u8 G) := ⟨HX.out.1 ▸ Kd.S_mono O.out (fun _ _ => trivial)⟩
      have ON : Aside0 (Kd.S (Kd.slice 67 k67) 65 wr w.heap.size (fun _ => True) (.slice none 0 0) []) := ⟨Kd.S_nil _ _ _ _ _⟩
      obtain ⟨A', m, c', hc0, hrd⟩ := R.out.list
      have hml : m = st.1.length := hrd.1.symm
      subst hml
      have hf0 := R.out.frz 0
      have hf1 := R.out.frz 1
      have HBW := Aside0.mk R.out.bel
      have hTL : Aside0 (T < 18446744073709551616) := ⟨by have h1 := I.out.tot; have h2 := HT.out; have h3 := I.out.il; have h4 := HL.out; omega⟩
      clear hlt HT I R O hrd
      have HA' := HA.out
      by_cases e1 : σ.2 = 0
      · have d1 : ((st.2 : Int) != 0) = false := by rw [bne_eq_false_iff_eq]; have := HQ.out.1; omega
        have hx0 : decide ((i : Int) < (n : Int)) = false ∧ decide (i < n) = false := by
          rcases hx with hx | ⟨_, hx'⟩
          · exact hx
          · have h1 : (st.2 : Int) ≠ 0 := beq_eq_false_iff_ne.1 hx'
            have h2 := HQ.out.1
            omega
        clear hx
        obtain ⟨hx0, hx0'⟩ := hx0
        by_cases e2 : σ.1.length > 0
        · have d2 : decide (0 < (st.1.length : Int)) = true := decide_eq_true (by have := HQ.out.2.1; omega)
          have d2' : decide (0 < st.1.length) = true := decide_eq_true (by have := HQ.out.2.1; omega)
          have HE : Aside0 (finS a G σ = (0, [], 21)) := ⟨by unfold finS; rw [if_neg (by omega), if_pos e2]⟩
          clear e1 e2
          go_wp2_with fail
          go_ret3
          rw [HF.out, HE.out]
          exact ⟨_, rfl, ON.out, HBW.out⟩
        · have d2 : decide (0 < (st.1.length : Int)) = false := decide_eq_false (by have := HQ.out.2.1; omega)
          have d2' : decide (0 < st.1.length) = false := decide_eq_false (by have := HQ.out.2.1; omega)
          by_cases e3 : T > 0
          · have d3 : decide (0 < (T : Int)) = true := decide_eq_true (by omega)
            have d3' : decide (0 < T) = true := decide_eq_true e3
            by_cases e4 : a > 72057594037927935
            · have d4 : decide ((72057594037927935 : Int) < (a : Int)) = true := decide_eq_true (by omega)
              have d4' : decide (72057594037927935 < a) = true := decide_eq_true e4
              have HE : Aside0 (finS a G σ = (0, [], 22)) := ⟨by unfold finS; rw [if_neg (by omega), if_neg e2, if_pos ⟨by rw [← HQ.out.2.2]; exact e3, .inl e4⟩]⟩
              clear e1 e2 e3 e4
              go_wp2_with fail
              go_ret3
              rw [HF.out, HE.out]
              exact ⟨_, rfl, ON.out, HBW.out⟩
            · have d4 : decide ((72057594037927935 : Int) < (a : Int)) = false := decide_eq_false (by omega)
              have d4' : decide (72057594037927935 < a) = false := decide_eq_false e4
              obtain ⟨T1, hT1⟩ : ∃ T1 : Nat, T1 = T - 1 := ⟨_, rfl⟩
              obtain ⟨M1, hM1⟩ : ∃ M1 : Nat, M1 = 72057594037927935 - a := ⟨_, rfl⟩
              have hTL' := hTL.out
              have w1 : IntKind.u64.wrap ((T : Int) - 1) = (T1 : Int) := by rw [show ((T : Int) - 1) = (T1 : Int) by omega]; exact u64_nat (by omega)
              have w2 : IntKind.u64.wrap ((72057594037927935 : Int) - (a : Int)) = (M1 : Int) := by rw [show ((72057594037927935 : Int) - (a : Int)) = (M1 : Int) by omega]; exact u64_nat (by omega)
              have w1' : ((T : Int) - 1) = (T1 : Int) := by omega
              have w2' : ((72057594037927935 : Int) - (a : Int)) = (M1 : Int) := by omega
              by_cases e5 : T1 > M1
              · have d5 : decide ((M1 : Int) < (T1 : Int)) = true := decide_eq_true (by omega)
                have d5' : decide (M1 < T1) = true := decide_eq_true e5
                have HE : Aside0 (finS a G σ = (0, [], 22)) := ⟨by unfold finS; rw [if_neg (by omega), if_neg e2, if_pos ⟨by rw [← HQ.out.2.2]; exact e3, .inr (by rw [← HQ.out.2.2]; omega)⟩]⟩
                clear e1 e2 e3 e4 e5 hT1 hM1
                go_wp2_with fail
                go_ret3
                rw [HF.out, HE.out]
                exact ⟨_, rfl, ON.out, HBW.out⟩
              · have d5 : decide ((M1 : Int) < (T1 : Int)) = false := decide_eq_false (by omega)
                have d5' : decide (M1 < T1) = false := decide_eq_false e5
                have HE : Aside0 (finS a G σ = ((a : Int), G, 0)) := ⟨by unfold finS; rw [if_neg (by omega), if_neg e2, if_neg (by rw [← HQ.out.2.2]; omega)]⟩
                clear e1 e2 e3 e4 e5 hT1 hM1
                go_wp2_with fail
                go_ret3
                rw [HF.out, HE.out]
                exact ⟨_, rfl, OF.out, HBW.out⟩
          · have d3 : decide (0 < (T : Int)) = false := decide_eq_false (by omega)
            have d3' : decide (0 < T) = false := decide_eq_false e3
            have HE : Aside0 (finS a G σ = ((a : Int), G, 0)) := ⟨by unfold finS; rw [if_neg (by omega), if_neg e2, if_neg (by rw [← HQ.out.2.2]; omega)]⟩
            clear e1 e2 e3
            go_wp2_with fail
            go_ret3
            rw [HF.out, HE.out]
            exact ⟨_, rfl, OF.out, HBW.out⟩
      · have d1 : ((st.2 : Int) != 0) = true := by rw [bne_iff_ne]; have := HQ.out.1; omega
        have HE : Aside0 (finS a G σ = (0, [], (st.2 : Int))) := ⟨by unfold finS; rw [if_pos e1, HQ.out.1]⟩
        clear e1
        rcases hx with ⟨hx, hxn⟩ | ⟨⟨hx, hxn⟩, hx'⟩
        all_goals
          go_wp2_with fail
          go_quiet (fail)
          go_wp2_with fail
          go_ret3
          rw [HF.out, HE.out]
          exact ⟨_, rfl, Kd.S_drewN ON.out _, pw_below_drewN HBW.out _⟩
end Go.Proofs.YtnamanalacjhnaaDoor.Gt
-- Printed by a program of this claim's own out of the translation.
namespace Go.Proofs.YtnamanalacjhnaaDoor.QBk
open Go.Proofs.YtnamanalacjhnaaDoor.Own
open Go.RowKit Go.Proofs.YtnamanalacjhnaaDoorW.PrintWords Go.Proofs.YtnamanalacjhnaaDoorW.PrintLast Go.Proofs.YtnamanalacjhnaaDoorW.PrintMore
attribute [local go_sem] max2_int min2_int max_two min_two max_three min_three max_four min_four   -- for this text's walks alone
set_option linter.unusedVariables false
set_option linter.unusedSimpArgs false



theorem info22 : (Tryd.prog.info? 22).map (fun i => (i.zero, i.size, i.bytes)) = some (some (.slice none 0 0), 1, 24) := by kernel_rfl
theorem info65 : (Tryd.prog.info? 65).map (fun i => (i.zero, i.size, i.bytes)) = some (some (.slice none 0 0), 1, 24) := by kernel_rfl
theorem info67 : (Tryd.prog.info? 67).map (fun i => (i.zero, i.size, i.bytes)) = some (some (.agg #[(.string ⟨#[]⟩), (.bool false), (.string ⟨#[]⟩)]), 3, 40) := by kernel_rfl
-- the values' own types
def rd_L102 (xs : List (List (List Int))) (i : Int) : (List (List Int)) := xs.getD i.toNat ([] : List (List Int))
theorem at_L102 {w : World} {A : Option Addr} {n : Nat} {xs : List (List (List Int))} (h : Kd.C (Kd.slice 22 (Kd.slice 5 (Kd.int .u8))) w A n xs) (i : Int) (h0 : 0 ≤ i) (h1 : i < n) : ∃ ad A0 c0, A = some ad ∧ w.cell? (ad.add i.toNat) = some (.slice A0 (rd_L102 xs i).length c0) ∧ (rd_L102 xs i).length ≤ c0 ∧ (Kd.slice 5 (Kd.int .u8)).C w A0 (rd_L102 xs i).length (rd_L102 xs i) := by
  obtain ⟨ad, c, e, _, hK, hc0⟩ := Kd.C_get h ([] : List (List Int)) i h0 h1
  have hc : ∀ j u, c[j]? = some u → w.cell? (ad.add (i.toNat * 1 + j)) = some u := hc0
  obtain ⟨A0, c0, rfl, l0, g0⟩ := hK
  exact ⟨ad, A0, c0, e, by have hq := hc 0 _ rfl; rwa [Nat.mul_one, Nat.add_zero] at hq, l0, g0⟩

/-! #### struct type 67 -/
def rd_L107 (xs : List (List (List S67))) (i : Int) : (List (List S67)) := xs.getD i.toNat ([] : List (List S67))
theorem at_L107 {w : World} {A : Option Addr} {n : Nat} {xs : List (List (List S67))} (h : Kd.C (Kd.slice 65 (Kd.slice 67 k67)) w A n xs) (i : Int) (h0 : 0 ≤ i) (h1 : i < n) : ∃ ad A0 c0, A = some ad ∧ w.cell? (ad.add i.toNat) = some (.slice A0 (rd_L107 xs i).length c0) ∧ (rd_L107 xs i).length ≤ c0 ∧ (Kd.slice 67 k67).C w A0 (rd_L107 xs i).length (rd_L107 xs i) := by
  obtain ⟨ad, c, e, _, hK, hc0⟩ := Kd.C_get h ([] : List (List S67)) i h0 h1
  have hc : ∀ j u, c[j]? = some u → w.cell? (ad.add (i.toNat * 1 + j)) = some u := hc0
  obtain ⟨A0, c0, rfl, l0, g0⟩ := hK
  exact ⟨ad, A0, c0, e, by have hq := hc 0 _ rfl; rwa [Nat.mul_one, Nat.add_zero] at hq, l0, g0⟩

end Go.Proofs.YtnamanalacjhnaaDoor.QBk
-- Printed by a program of this claim's own out of the translation.
namespace Go.Proofs.YtnamanalacjhnaaDoor.QBk
open Go.Proofs.YtnamanalacjhnaaDoor.Own
open Go.RowKit Go.Proofs.YtnamanalacjhnaaDoorW.PrintWords Go.Proofs.YtnamanalacjhnaaDoorW.PrintLast Go.Proofs.YtnamanalacjhnaaDoorW.PrintMore
attribute [local go_sem] max2_int min2_int max_two min_two max_three min_three max_four min_four   -- for this text's walks alone
set_option linter.unusedVariables false
set_option linter.unusedSimpArgs false

end Go.Proofs.YtnamanalacjhnaaDoor.QBk
-- Printed by a program of this claim's own out of the translation.
namespace Go.Proofs.YtnamanalacjhnaaDoor.QBk
open Go.Proofs.YtnamanalacjhnaaDoor.Own
open Go.RowKit Go.Proofs.YtnamanalacjhnaaDoorW.PrintWords Go.Proofs.YtnamanalacjhnaaDoorW.PrintLast Go.Proofs.YtnamanalacjhnaaDoorW.PrintMore
attribute [local go_sem] max2_int min2_int max_two min_two max_three min_three max_four min_four   -- for this text's walks alone
set_option linter.unusedVariables false
set_option linter.unusedSimpArgs false

/-! ### screelaw7_same_p: function 10 -/
/-! ### screelaw7_same: function 10 -/
/-! ### screelaw7_sameRecords: function 16 -/
/-! ### log_room_p: function 29 -/
/-! ### log_room: function 29 -/
open Go.Proofs.YtnamanalacjhnaaDoor.Lg Go.Proofs.YtnamanalacjhnaaDoor.G
/-! ### log_four: function 61 -/
/-! ### codec_Sum: function 62 -/
open Go.Proofs.YtnamanalacjhnaaDoor.G
-- NOT PRINTED: function 66 (log_read)

-- NOT PRINTED: function 50 (log_record)

/-! ### log_Read: function 17 -/
open Go.Proofs.YtnamanalacjhnaaDoor.Lr
def log_Read.f (l0 : List Int) : Option (List (List Int) × Int × Int) := if okB l0 = true ∧ l0.length ≤ 2147483647 then some ((readL l0).1, ((readL l0).2.1 : Int), (readL l0).2.2) else none
theorem log_Read.calls (A0 : Option Addr) (c0 : Nat) (l0 : List Int) (r1 : List (List Int)) (r2 : Int) (r3 : Int) (w : World) (hr0 : Kd.C (Kd.int .u8) w A0 l0.length l0) (hc0 : l0.length ≤ c0) (h : log_Read.f l0 = some (r1, r2, r3)) (hT_ : GT w) :
    Calls Tryd.prog 17 #[.slice A0 l0.length c0] w fun e w' => ∃ v0_ : Value, e = .returned (.tuple #[v0_, .int .i64 r2, .int .i64 r3]) ∧ Kd.S (Kd.slice 5 (Kd.int .u8)) 22 w' w.heap.size (fun _ => True) v0_ r1 ∧ Below w.heap.size w w' := by
  unfold log_Read.f at h
  split at h
  · rename_i hh
    injection h with h
    simp only [Prod.mk.injEq] at h
    obtain ⟨rfl, rfl, rfl⟩ := h
    exact reads_calls ⟨rfl, hc0, hr0⟩ (okB_iff.1 hh.1) hh.2 hT_
  · cases h

/-! ### screelaw7_num: function 18 -/
/-! ### log_piece_p: function 30 -/
/-! ### log_piece: function 30 -/
open Go.Proofs.YtnamanalacjhnaaDoor.Lg Go.Proofs.YtnamanalacjhnaaDoor.G
/-! ### log_Append: function 11 -/
open Go.Proofs.YtnamanalacjhnaaDoor.Lg Go.Proofs.YtnamanalacjhnaaDoor.G Go.Proofs.YtnamanalacjhnaaDoor.Wk
end Go.Proofs.YtnamanalacjhnaaDoor.QBk
-- Printed by a program of this claim's own out of the translation.
namespace Go.Proofs.YtnamanalacjhnaaDoor.QBk
open Go.Proofs.YtnamanalacjhnaaDoor.Own
open Go.RowKit Go.Proofs.YtnamanalacjhnaaDoorW.PrintWords Go.Proofs.YtnamanalacjhnaaDoorW.PrintLast Go.Proofs.YtnamanalacjhnaaDoorW.PrintMore
attribute [local go_sem] max2_int min2_int max_two min_two max_three min_three max_four min_four   -- for this text's walks alone
set_option linter.unusedVariables false
set_option linter.unusedSimpArgs false

/-! ### codec_Uint_p: function 69 -/
/-! ### codec_Uint: function 69 -/
-- NOT PRINTED: function 55 (log_reader_number)

-- NOT PRINTED: function 74 (log_reader_del)

/-! ### codec_Text: function 76 -/
-- NOT PRINTED: function 75 (log_reader_text)

-- NOT PRINTED: function 70 (log_reader_write)

-- NOT PRINTED: function 56 (log_reader_batch)

/-! ### log_Get: function 24 -/
def log_Get.f (l0 : List Int) : Option (Int × List (List (S67)) × Int) := if okB l0 = true ∧ l0.length ≤ 1073741824 then some (Go.Proofs.YtnamanalacjhnaaDoor.Gt.getL l0) else none
theorem log_Get.calls (A0 : Option Addr) (c0 : Nat) (l0 : List Int) (r1 : Int) (r2 : List (List (S67))) (r3 : Int) (w : World) (hr0 : Kd.C (Kd.int .u8) w A0 l0.length l0) (hc0 : l0.length ≤ c0) (h : log_Get.f l0 = some (r1, r2, r3)) :
    Calls Tryd.prog 24 #[.slice A0 l0.length c0] w fun e w' => ∃ v0_ : Value, e = .returned (.tuple #[.int .u64 r1, v0_, .int .i64 r3]) ∧ Kd.S (Kd.slice 67 k67) 65 w' w.heap.size (fun _ => True) v0_ r2 ∧ Below w.heap.size w w' := by
  unfold log_Get.f at h
  split at h
  · rename_i hh
    have hx := Go.Proofs.YtnamanalacjhnaaDoor.Gt.get_calls (w := w) ⟨rfl, hc0, hr0⟩ (okB_iff.1 hh.1) hh.2
    rw [Option.some.inj h] at hx
    exact hx
  · cases h

/-! ### codec_number: function 71 -/
/-! ### codec_twin: function 72 -/
/-! ### codec_PutUint_p: function 57 -/
/-! ### codec_PutUint: function 57 -/
/-! ### codec_PutText_p: function 58 -/
/-! ### codec_PutText: function 58 -/
end Go.Proofs.YtnamanalacjhnaaDoor.QBk
-- Printed by a program of this claim's own out of the translation.
namespace Go.Proofs.YtnamanalacjhnaaDoor.QBk
open Go.Proofs.YtnamanalacjhnaaDoor.Own
open Go.RowKit Go.Proofs.YtnamanalacjhnaaDoorW.PrintWords Go.Proofs.YtnamanalacjhnaaDoorW.PrintLast Go.Proofs.YtnamanalacjhnaaDoorW.PrintMore
attribute [local go_sem] max2_int min2_int max_two min_two max_three min_three max_four min_four   -- for this text's walks alone
set_option linter.unusedVariables false
set_option linter.unusedSimpArgs false

/-! ### log_Put: function 25 -/
end Go.Proofs.YtnamanalacjhnaaDoor.QBk
-- Printed by a program of this claim's own out of the translation.
namespace Go.Proofs.YtnamanalacjhnaaDoor.QBk
open Go.Proofs.YtnamanalacjhnaaDoor.Own
open Go.RowKit Go.Proofs.YtnamanalacjhnaaDoorW.PrintWords Go.Proofs.YtnamanalacjhnaaDoorW.PrintLast Go.Proofs.YtnamanalacjhnaaDoorW.PrintMore
attribute [local go_sem] max2_int min2_int max_two min_two max_three min_three max_four min_four   -- for this text's walks alone
set_option linter.unusedVariables false
set_option linter.unusedSimpArgs false

attribute [local go_sem high] eqA67
/-! ### screelaw7_sameGroups: function 26 -/
/-! ### screelaw7_known: function 20 -/
def screelaw7_known.j0 : Nat → List (List (S67)) → List (List Int) → Bool → Option (Bool)
  | 0, _, _, _ => none
  | k + 1, x1, x4, x52 => if x52 = true then (some false) else (if 0 < (x4.length : Int) then ((log_Get.f (rd_L1 x4 0)).bind fun bt254 => (if bt254.1 = 300 then ((screelaw7_sameGroups.f k bt254.2.1 x1).bind fun t259 => (if t259 = true then ((screelaw7_num.f bt254.2.2).bind fun t260 => (some (t260 == 0))) else (some false))) else (some false))) else (none))
def screelaw7_known.f (k : Nat)  : Option (Bool) := (some (([(([(⟨(⟨#[97]⟩ : ByteArray), false, (⟨#[49]⟩ : ByteArray)⟩ : S67), (⟨(⟨#[98]⟩ : ByteArray), true, (⟨#[]⟩ : ByteArray)⟩ : S67)] : List (S67))), []] : List (List (S67))) : List (List (S67)))).bind fun y232 => ((log_Put.f k 300 y232).bind fun t235 => ((screelaw7_same.f t235 (([172, 2, 2, 2, 0, 1, 97, 1, 49, 1, 1, 98, 0] : List Int))).bind fun t241 => (if t241 = true then ((log_Append.f 0 t235).bind fun t242 => ((log_Read.f t242).bind fun bt245 => (if (t242.length : Int) = 20 then (if (bt245.1.length : Int) = 1 then (if 0 < (bt245.1.length : Int) then ((screelaw7_same.f (rd_L1 bt245.1 0) t235).bind fun t251 => (if t251 = true then (if bt245.2.1 = 20 then ((screelaw7_num.f bt245.2.2).bind fun t252 => (screelaw7_known.j0 k y232 bt245.1 (t252 != 0))) else (screelaw7_known.j0 k y232 bt245.1 true)) else (screelaw7_known.j0 k y232 bt245.1 true))) else (none)) else (screelaw7_known.j0 k y232 bt245.1 true)) else (screelaw7_known.j0 k y232 bt245.1 true)))) else (some false))))
theorem screelaw7_known.mono_l : ∀ k, (∀ y0 y1 y2, LeO (screelaw7_known.j0 k y0 y1 y2) (screelaw7_known.j0 (k + 1) y0 y1 y2))
  | 0 => fun _ _ _ r h => by simp [screelaw7_known.j0] at h
  | k + 1 => by
    have ih0 := screelaw7_known.mono_l k
    · intro y0 y1 y2
      unfold screelaw7_known.j0
      repeat' first
      | (with_reducible exact ih0 _ _ _)
      | (with_reducible exact log_Put.mono _ _ _)
      | (with_reducible exact screelaw7_sameGroups.mono _ _ _)
      | (with_reducible exact LeO.refl _)
      | (with_reducible exact LeO.none _)
      | (with_reducible refine LeO.ite ?_ ?_)
      | (with_reducible refine LeO.bind ?_ (fun _ => ?_))
      | exact ih0 _ _ _
      | exact log_Put.mono _ _ _
      | exact screelaw7_sameGroups.mono _ _ _
      | exact LeO.none _
      | refine LeO.ite ?_ ?_
      | refine LeO.bind ?_ (fun _ => ?_)
theorem screelaw7_known.mono : ∀ k, LeO (screelaw7_known.f k ) (screelaw7_known.f (k + 1) ) := by
  intro  k
  have ih0 := screelaw7_known.mono_l k
  unfold screelaw7_known.f
  repeat' first
      | (with_reducible exact ih0 _ _ _)
      | (with_reducible exact log_Put.mono _ _ _)
      | (with_reducible exact screelaw7_sameGroups.mono _ _ _)
      | (with_reducible exact LeO.refl _)
      | (with_reducible exact LeO.none _)
      | (with_reducible refine LeO.ite ?_ ?_)
      | (with_reducible refine LeO.bind ?_ (fun _ => ?_))
      | exact ih0 _ _ _
      | exact log_Put.mono _ _ _
      | exact screelaw7_sameGroups.mono _ _ _
      | exact LeO.none _
      | refine LeO.ite ?_ ?_
      | refine LeO.bind ?_ (fun _ => ?_)
set_option maxHeartbeats 8000000 in
set_option maxRecDepth 100000 in
theorem screelaw7_known.calls (k : Nat)  (r : Bool) (w : World) (h : screelaw7_known.f k  = some r) (hT_ : GT w) :
    Calls Tryd.prog 20 #[] w fun e w' => e = .returned (.bool r) ∧ Below w.heap.size w w' := by
  have HT_ := Aside0.mk hT_
  clear hT_
  have hu67 := Tryd.underlying67
  have HB := Aside0.mk (Below.refl w.heap.size w)
  have H : ((some (([(([(⟨(⟨#[97]⟩ : ByteArray), false, (⟨#[49]⟩ : ByteArray)⟩ : S67), (⟨(⟨#[98]⟩ : ByteArray), true, (⟨#[]⟩ : ByteArray)⟩ : S67)] : List (S67))), []] : List (List (S67))) : List (List (S67)))).bind fun y232 => ((log_Put.f k 300 y232).bind fun t235 => ((screelaw7_same.f t235 (([172, 2, 2, 2, 0, 1, 97, 1, 49, 1, 1, 98, 0] : List Int))).bind fun t241 => (if t241 = true then ((log_Append.f 0 t235).bind fun t242 => ((log_Read.f t242).bind fun bt245 => (if (t242.length : Int) = 20 then (if (bt245.1.length : Int) = 1 then (if 0 < (bt245.1.length : Int) then ((screelaw7_same.f (rd_L1 bt245.1 0) t235).bind fun t251 => (if t251 = true then (if bt245.2.1 = 20 then ((screelaw7_num.f bt245.2.2).bind fun t252 => (screelaw7_known.j0 k y232 bt245.1 (t252 != 0))) else (screelaw7_known.j0 k y232 bt245.1 true)) else (screelaw7_known.j0 k y232 bt245.1 true))) else (none)) else (screelaw7_known.j0 k y232 bt245.1 true)) else (screelaw7_known.j0 k y232 bt245.1 true)))) else (some false))))) = some r := h
  clear h
  obtain ⟨y229, hy229⟩ : ∃ y_ : List (S67), y_ = (([(⟨(⟨#[97]⟩ : ByteArray), false, (⟨#[49]⟩ : ByteArray)⟩ : S67), (⟨(⟨#[98]⟩ : ByteArray), true, (⟨#[]⟩ : ByteArray)⟩ : S67)] : List (S67))) := ⟨_, rfl⟩
  replace H : ((some (([y229, []] : List (List (S67))) : List (List (S67)))).bind fun y232 => ((log_Put.f k 300 y232).bind fun t235 => ((screelaw7_same.f t235 (([172, 2, 2, 2, 0, 1, 97, 1, 49, 1, 1, 98, 0] : List Int))).bind fun t241 => (if t241 = true then ((log_Append.f 0 t235).bind fun t242 => ((log_Read.f t242).bind fun bt245 => (if (t242.length : Int) = 20 then (if (bt245.1.length : Int) = 1 then (if 0 < (bt245.1.length : Int) then ((screelaw7_same.f (rd_L1 bt245.1 0) t235).bind fun t251 => (if t251 = true then (if bt245.2.1 = 20 then ((screelaw7_num.f bt245.2.2).bind fun t252 => (screelaw7_known.j0 k y232 bt245.1 (t252 != 0))) else (screelaw7_known.j0 k y232 bt245.1 true)) else (screelaw7_known.j0 k y232 bt245.1 true))) else (none)) else (screelaw7_known.j0 k y232 bt245.1 true)) else (screelaw7_known.j0 k y232 bt245.1 true)))) else (some false))))) = some r := by first | (rw [hy229]; with_reducible exact H) | (have H2_ := (Option.bind_some _ _).symm.trans H; rw [hy229]; with_reducible exact H2_) | (have H2_ := (Option.bind_some _ _).symm.trans H; with_reducible exact H2_) | with_reducible exact H | (rw [hy229]; exact H) | exact H
  have Ny229 := Aside0.mk hy229
  clear hy229
  obtain ⟨y232, hy232⟩ : ∃ y_ : List (List (S67)), y_ = (([y229, []] : List (List (S67)))) := ⟨_, rfl⟩
  replace H : ((log_Put.f k 300 y232).bind fun t235 => ((screelaw7_same.f t235 (([172, 2, 2, 2, 0, 1, 97, 1, 49, 1, 1, 98, 0] : List Int))).bind fun t241 => (if t241 = true then ((log_Append.f 0 t235).bind fun t242 => ((log_Read.f t242).bind fun bt245 => (if (t242.length : Int) = 20 then (if (bt245.1.length : Int) = 1 then (if 0 < (bt245.1.length : Int) then ((screelaw7_same.f (rd_L1 bt245.1 0) t235).bind fun t251 => (if t251 = true then (if bt245.2.1 = 20 then ((screelaw7_num.f bt245.2.2).bind fun t252 => (screelaw7_known.j0 k y232 bt245.1 (t252 != 0))) else (screelaw7_known.j0 k y232 bt245.1 true)) else (screelaw7_known.j0 k y232 bt245.1 true))) else (none)) else (screelaw7_known.j0 k y232 bt245.1 true)) else (screelaw7_known.j0 k y232 bt245.1 true)))) else (some false)))) = some r := by first | (rw [hy232]; with_reducible exact H) | (have H2_ := (Option.bind_some _ _).symm.trans H; rw [hy232]; with_reducible exact H2_) | (have H2_ := (Option.bind_some _ _).symm.trans H; with_reducible exact H2_) | with_reducible exact H | (rw [hy232]; exact H) | exact H
  have Ny232 := Aside0.mk hy232
  clear hy232
  replace H := Option.bind_eq_some_iff.mp H
  obtain ⟨t235, A10, H⟩ := H
  replace H : ((screelaw7_same.f t235 (([172, 2, 2, 2, 0, 1, 97, 1, 49, 1, 1, 98, 0] : List Int))).bind fun t241 => (if t241 = true then ((log_Append.f 0 t235).bind fun t242 => ((log_Read.f t242).bind fun bt245 => (if (t242.length : Int) = 20 then (if (bt245.1.length : Int) = 1 then (if 0 < (bt245.1.length : Int) then ((screelaw7_same.f (rd_L1 bt245.1 0) t235).bind fun t251 => (if t251 = true then (if bt245.2.1 = 20 then ((screelaw7_num.f bt245.2.2).bind fun t252 => (screelaw7_known.j0 k y232 bt245.1 (t252 != 0))) else (screelaw7_known.j0 k y232 bt245.1 true)) else (screelaw7_known.j0 k y232 bt245.1 true))) else (none)) else (screelaw7_known.j0 k y232 bt245.1 true)) else (screelaw7_known.j0 k y232 bt245.1 true)))) else (some false))) = some r := H
  have A1 := Aside0.mk A10
  clear A10
  obtain ⟨y238, hy238⟩ : ∃ y_ : List Int, y_ = (([172, 2, 2, 2, 0, 1, 97, 1, 49, 1, 1, 98, 0] : List Int)) := ⟨_, rfl⟩
  replace H : ((screelaw7_same.f t235 y238).bind fun t241 => (if t241 = true then ((log_Append.f 0 t235).bind fun t242 => ((log_Read.f t242).bind fun bt245 => (if (t242.length : Int) = 20 then (if (bt245.1.length : Int) = 1 then (if 0 < (bt245.1.length : Int) then ((screelaw7_same.f (rd_L1 bt245.1 0) t235).bind fun t251 => (if t251 = true then (if bt245.2.1 = 20 then ((screelaw7_num.f bt245.2.2).bind fun t252 => (screelaw7_known.j0 k y232 bt245.1 (t252 != 0))) else (screelaw7_known.j0 k y232 bt245.1 true)) else (screelaw7_known.j0 k y232 bt245.1 true))) else (none)) else (screelaw7_known.j0 k y232 bt245.1 true)) else (screelaw7_known.j0 k y232 bt245.1 true)))) else (some false))) = some r := by first | (rw [hy238]; with_reducible exact H) | (have H2_ := (Option.bind_some _ _).symm.trans H; rw [hy238]; with_reducible exact H2_) | (have H2_ := (Option.bind_some _ _).symm.trans H; with_reducible exact H2_) | with_reducible exact H | (rw [hy238]; exact H) | exact H
  have Ny238 := Aside0.mk hy238
  clear hy238
  replace H := Option.bind_eq_some_iff.mp H
  obtain ⟨t241, A20, H⟩ := H
  replace H : (if t241 = true then ((log_Append.f 0 t235).bind fun t242 => ((log_Read.f t242).bind fun bt245 => (if (t242.length : Int) = 20 then (if (bt245.1.length : Int) = 1 then (if 0 < (bt245.1.length : Int) then ((screelaw7_same.f (rd_L1 bt245.1 0) t235).bind fun t251 => (if t251 = true then (if bt245.2.1 = 20 then ((screelaw7_num.f bt245.2.2).bind fun t252 => (screelaw7_known.j0 k y232 bt245.1 (t252 != 0))) else (screelaw7_known.j0 k y232 bt245.1 true)) else (screelaw7_known.j0 k y232 bt245.1 true))) else (none)) else (screelaw7_known.j0 k y232 bt245.1 true)) else (screelaw7_known.j0 k y232 bt245.1 true)))) else (some false)) = some r := H
  have A2 := Aside0.mk A20
  clear A20
  by_cases c3 : t241 = true
  · subst c3
    have H1 : ((log_Append.f 0 t235).bind fun t242 => ((log_Read.f t242).bind fun bt245 => (if (t242.length : Int) = 20 then (if (bt245.1.length : Int) = 1 then (if 0 < (bt245.1.length : Int) then ((screelaw7_same.f (rd_L1 bt245.1 0) t235).bind fun t251 => (if t251 = true then (if bt245.2.1 = 20 then ((screelaw7_num.f bt245.2.2).bind fun t252 => (screelaw7_known.j0 k y232 bt245.1 (t252 != 0))) else (screelaw7_known.j0 k y232 bt245.1 true)) else (screelaw7_known.j0 k y232 bt245.1 true))) else (none)) else (screelaw7_known.j0 k y232 bt245.1 true)) else (screelaw7_known.j0 k y232 bt245.1 true)))) = some r := by rw [if_pos rfl] at H; exact H
    clear H
    have H := H1
    clear H1
    replace H := Option.bind_eq_some_iff.mp H
    obtain ⟨t242, A40, H⟩ := H
    replace H : ((log_Read.f t242).bind fun bt245 => (if (t242.length : Int) = 20 then (if (bt245.1.length : Int) = 1 then (if 0 < (bt245.1.length : Int) then ((screelaw7_same.f (rd_L1 bt245.1 0) t235).bind fun t251 => (if t251 = true then (if bt245.2.1 = 20 then ((screelaw7_num.f bt245.2.2).bind fun t252 => (screelaw7_known.j0 k y232 bt245.1 (t252 != 0))) else (screelaw7_known.j0 k y232 bt245.1 true)) else (screelaw7_known.j0 k y232 bt245.1 true))) else (none)) else (screelaw7_known.j0 k y232 bt245.1 true)) else (screelaw7_known.j0 k y232 bt245.1 true))) = some r := H
    have A4 := Aside0.mk A40
    clear A40
    replace H := Option.bind_eq_some_iff.mp H
    obtain ⟨⟨t245, t246, t247⟩, A50, H⟩ := H
    replace H : (if (t242.length : Int) = 20 then (if (t245.length : Int) = 1 then (if 0 < (t245.length : Int) then ((screelaw7_same.f (rd_L1 t245 0) t235).bind fun t251 => (if t251 = true then (if t246 = 20 then ((screelaw7_num.f t247).bind fun t252 => (screelaw7_known.j0 k y232 t245 (t252 != 0))) else (screelaw7_known.j0 k y232 t245 true)) else (screelaw7_known.j0 k y232 t245 true))) else (none)) else (screelaw7_known.j0 k y232 t245 true)) else (screelaw7_known.j0 k y232 t245 true)) = some r := H
    have A5 := Aside0.mk A50
    clear A50
    have HC6 := Aside0.mk H
    clear H
    go_enter Tryd.func20, Tryd.ntmps20
    go_upto_region 7 with (first | ((with_reducible refine gate_dst (N := 12) rfl ?_); (try (refine gate_guard (by rfl) ?_; dsimp only)); refine Kd.R_lit k67 _ 67 ?hg (N := 12) ?hd (xs := ([(⟨(⟨#[97]⟩ : ByteArray), false, (⟨#[49]⟩ : ByteArray)⟩ : S67), (⟨(⟨#[98]⟩ : ByteArray), true, (⟨#[]⟩ : ByteArray)⟩ : S67)] : List (S67))) (inner := [.string (⟨#[97]⟩ : ByteArray), .bool false, .string (⟨#[49]⟩ : ByteArray), .string (⟨#[98]⟩ : ByteArray), .bool true, .string (⟨#[]⟩ : ByteArray)]) (ok := fun _ => True) (okp := fun _ => True) ?hr ?hp (fun _ hk => hk) trivial (Below.refl _ _) (Nat.le_refl _) (by simp) ?_; (case hd => rfl); (case hg => rfl); (case hr => first | (go_simp; done) | (go_simp; rfl)); (case hp => exact (Reps.c3 (show Kd.M k67 _ _ _ (⟨(⟨#[97]⟩ : ByteArray), false, (⟨#[49]⟩ : ByteArray)⟩ : S67) [.string (⟨#[97]⟩ : ByteArray), .bool false, .string (⟨#[49]⟩ : ByteArray)] from (k67_mkM _ _ _ (⟨(⟨#[97]⟩ : ByteArray), false, (⟨#[49]⟩ : ByteArray)⟩ : S67) )) (Reps.c3 (show Kd.M k67 _ _ _ (⟨(⟨#[98]⟩ : ByteArray), true, (⟨#[]⟩ : ByteArray)⟩ : S67) [.string (⟨#[98]⟩ : ByteArray), .bool true, .string (⟨#[]⟩ : ByteArray)] from (k67_mkM _ _ _ (⟨(⟨#[98]⟩ : ByteArray), true, (⟨#[]⟩ : ByteArray)⟩ : S67) )) (Reps.none _ _)))); intro v230 w7 ho8 hb hg_ hnew_; clear hg_ hnew_; (first | rw [← Ny229.out] at ho8 | (simp only [Int.reduceToNat] at ho8; rw [← Ny229.out] at ho8)); have n0_ := Aside0.mk (Kd.R_lower ho8 (below_size (by repeat (first | (with_reducible first | exact HB.out | apply below_alloc | apply pw_below_drewN | apply below_drew1) | exact HB.out)))); have n1_ := Aside0.mk (below_step (by repeat (first | (with_reducible first | exact HB.out | apply below_alloc | apply pw_below_drewN | apply below_drew1) | exact HB.out)) hb); clear HB; have HO231 := n0_; have HB := n1_; clear n0_ n1_; clear hb ho8; obtain ⟨Ao9, co9, eo9⟩ := Kd.R_slice HO231.out; subst eo9) | ((with_reducible refine gate_dst (N := 13) rfl ?_); (try (refine gate_guard (by rfl) ?_; dsimp only)); refine Kd.N_lit (Kd.slice 67 k67) _ 65 ?hg (N' := 13) ?hd (xs := ([y229, []] : List (List (S67)))) (inner := [.slice Ao9 y229.length co9, .slice none 0 0]) (ok := (fun _ => True)) (okp := (fun _ => True)) ?hr ?hp (fun _ hk => hk) ((show ∀ k_, w7.heap.size ≤ k_ → (fun _ => True) k_ from fun k_ hk => trivial) _ (Nat.le_refl _)) (Below.refl _ _) (Nat.le_refl _) (by simp) ?_; (case hd => rfl); (case hg => rfl); (case hr => first | (go_simp; done) | (go_simp; rfl)); (case hp => exact (Reps.one (show Kd.FK (Kd.slice 67 k67) _ _ y229 [.slice Ao9 y229.length co9] from (Kd.FK_slice_mk (Kd.R_reads' (Kd.R_mono (ok' := (fun _ => True)) (HO231.out) (fun k_ hk => trivial))).2.1 (Kd.R_F (Kd.R_mono (ok' := (fun _ => True)) (HO231.out) (fun k_ hk => trivial))))) (Reps.one (show Kd.FK (Kd.slice 67 k67) _ _ [] [.slice none 0 0] from (Kd.FK_slice_mk (Nat.le_refl _) (Kd.F_nil _ _ _))) (Reps.none _ _)))); intro v233 w10 ho11 hb hg_ hnew_; clear hg_ hnew_; (first | rw [← Ny232.out] at ho11 | (simp only [Int.reduceToNat] at ho11; rw [← Ny232.out] at ho11)); have n0_ := Aside0.mk (Kd.N_lower ho11 (below_size (by repeat (first | (with_reducible first | exact HB.out | apply below_alloc | apply pw_below_drewN | apply below_drew1) | exact HB.out)))); have n1_ := Aside0.mk (below_step (by repeat (first | (with_reducible first | exact HB.out | apply below_alloc | apply pw_below_drewN | apply below_drew1) | exact HB.out)) hb); clear HB; clear HO231; have HO234 := n0_; have HB := n1_; clear n0_ n1_; clear hb ho11; obtain ⟨Ao12, co12, eo12⟩ := Kd.N_slice HO234.out; subst eo12) | ((with_reducible refine gate_callee (f := 25) rfl ?_); refine goesL_ (some 15) rfl rfl Tryd.func25 (by kernel_rfl) rfl #[.int .u64 300, .slice Ao12 y232.length co12] rfl (by (try simp only [List.map_toArray, List.map_cons, List.map_nil]); first | done | rfl | (simp only [List.length_drop, List.length_take]; rfl)) ?_; (with_reducible refine (log_Put.calls k 300 _ _ y232 t235 _ ?side1 ?side2 A1.out).mono ?_); (case side1 => repeat (first | exact (Kd.N_reads' HO234.out).2.2 | (with_reducible refine Kd.C_alloc ?_ _) | (with_reducible refine Kd.C_drewN ?_ _) | (with_reducible refine Kd.C_drew ?_))); (case side2 => exact (Kd.N_reads' HO234.out).2.1); rintro e w13 ⟨v236, rfl, ho0, hb⟩; refine ⟨_, rfl, ?_⟩; have n0_ := Aside0.mk (Kd.N_elder' (by (with_reducible repeat (first | apply Kd.N_alloc | apply Kd.N_drewN | apply Kd.N_drew)); exact HO234.out) (Kd.R_base ho0) hb); have n1_ := Aside0.mk (Kd.R_lower ho0 (below_size (by repeat (first | (with_reducible first | exact HB.out | apply below_alloc | apply pw_below_drewN | apply below_drew1) | exact HB.out)))); have n2_ := Aside0.mk (below_step (by repeat (first | (with_reducible first | exact HB.out | apply below_alloc | apply pw_below_drewN | apply below_drew1) | exact HB.out)) hb); clear HO234; clear HB; have HO234 := n0_; have HO237 := n1_; have HB := n2_; clear n0_ n1_ n2_; (try clear hb); (try clear hb2); (try clear hk); (try clear hi); (try clear ho0)) | ((with_reducible refine gate_dst (N := 17) rfl ?_); (try (refine gate_guard (by rfl) ?_; dsimp only)); refine Kd.R_lit (Kd.int .u8) _ 5 ?hg (N := 17) ?hd (xs := ([172, 2, 2, 2, 0, 1, 97, 1, 49, 1, 1, 98, 0] : List Int)) (inner := [.int .u8 172, .int .u8 2, .int .u8 2, .int .u8 2, .int .u8 0, .int .u8 1, .int .u8 97, .int .u8 1, .int .u8 49, .int .u8 1, .int .u8 1, .int .u8 98, .int .u8 0]) (ok := fun _ => True) (okp := fun _ => True) ?hr ?hp (fun _ hk => hk) trivial (Below.refl _ _) (Nat.le_refl _) (by simp) ?_; (case hd => rfl); (case hg => rfl); (case hr => first | (go_simp; done) | (go_simp; rfl)); (case hp => exact (Reps.one (show Kd.M (Kd.int .u8) _ _ _ 172 [.int .u8 172] from rfl) (Reps.one (show Kd.M (Kd.int .u8) _ _ _ 2 [.int .u8 2] from rfl) (Reps.one (show Kd.M (Kd.int .u8) _ _ _ 2 [.int .u8 2] from rfl) (Reps.one (show Kd.M (Kd.int .u8) _ _ _ 2 [.int .u8 2] from rfl) (Reps.one (show Kd.M (Kd.int .u8) _ _ _ 0 [.int .u8 0] from rfl) (Reps.one (show Kd.M (Kd.int .u8) _ _ _ 1 [.int .u8 1] from rfl) (Reps.one (show Kd.M (Kd.int .u8) _ _ _ 97 [.int .u8 97] from rfl) (Reps.one (show Kd.M (Kd.int .u8) _ _ _ 1 [.int .u8 1] from rfl) (Reps.one (show Kd.M (Kd.int .u8) _ _ _ 49 [.int .u8 49] from rfl) (Reps.one (show Kd.M (Kd.int .u8) _ _ _ 1 [.int .u8 1] from rfl) (Reps.one (show Kd.M (Kd.int .u8) _ _ _ 1 [.int .u8 1] from rfl) (Reps.one (show Kd.M (Kd.int .u8) _ _ _ 98 [.int .u8 98] from rfl) (Reps.one (show Kd.M (Kd.int .u8) _ _ _ 0 [.int .u8 0] from rfl) (Reps.none _ _))))))))))))))); intro v239 w14 ho15 hb hg_ hnew_; clear hg_ hnew_; (first | rw [← Ny238.out] at ho15 | (simp only [Int.reduceToNat] at ho15; rw [← Ny238.out] at ho15)); have n0_ := Aside0.mk (Kd.N_elder' (by (with_reducible repeat (first | apply Kd.N_alloc | apply Kd.N_drewN | apply Kd.N_drew)); exact HO234.out) (Kd.R_base ho15) hb); have n1_ := Aside0.mk (Kd.R_elder' (by (with_reducible repeat (first | apply Kd.R_alloc | apply Kd.R_drewN | apply Kd.R_drew)); exact HO237.out) (Kd.R_base ho15) hb); have n2_ := Aside0.mk (Kd.R_lower (Kd.R_new' ho15 (Kd.R_lt (by (with_reducible repeat (first | apply Kd.R_alloc | apply Kd.R_drewN | apply Kd.R_drew)); exact HO237.out))) (below_size (by repeat (first | (with_reducible first | exact HB.out | apply below_alloc | apply pw_below_drewN | apply below_drew1) | exact HB.out)))); have n3_ := Aside0.mk (below_step (by repeat (first | (with_reducible first | exact HB.out | apply below_alloc | apply pw_below_drewN | apply below_drew1) | exact HB.out)) hb); clear HO234; clear HO237; clear HB; have HO234 := n0_; have HO237 := n1_; have HO240 := n2_; have HB := n3_; clear n0_ n1_ n2_ n3_; clear hb ho15; obtain ⟨Ao16, co16, eo16⟩ := Kd.R_slice HO237.out; subst eo16; obtain ⟨Ao17, co17, eo17⟩ := Kd.R_slice HO240.out; subst eo17) | ((with_reducible refine gate_callee (f := 10) rfl ?_); refine goesL_ (some 18) rfl rfl Tryd.func10 (by kernel_rfl) rfl #[.slice Ao16 t235.length co16, .slice Ao17 y238.length co17] rfl (by (try simp only [List.map_toArray, List.map_cons, List.map_nil]); first | done | rfl | (simp only [List.length_drop, List.length_take]; rfl)) ?_; (with_reducible refine (screelaw7_same.calls _ _ t235 _ _ y238 true _ ?side1 ?side2 ?side3 ?side4 A2.out).mono ?_); (case side1 => repeat (first | exact (Kd.R_reads' HO237.out).2.2 | (with_reducible refine Kd.C_alloc ?_ _) | (with_reducible refine Kd.C_drewN ?_ _) | (with_reducible refine Kd.C_drew ?_))); (case side2 => exact (Kd.R_reads' HO237.out).2.1); (case side3 => repeat (first | exact (Kd.R_reads' HO240.out).2.2 | (with_reducible refine Kd.C_alloc ?_ _) | (with_reducible refine Kd.C_drewN ?_ _) | (with_reducible refine Kd.C_drew ?_))); (case side4 => exact (Kd.R_reads' HO240.out).2.1); rintro e w' ⟨rfl, ⟨nd, rfl⟩⟩; refine ⟨_, rfl, ?_⟩) | ((with_reducible refine gate_callee (f := 11) rfl ?_); refine goesL_ (some 21) rfl rfl Tryd.func11 (by kernel_rfl) rfl #[.int .i64 0, .slice Ao16 t235.length co16] rfl (by (try simp only [List.map_toArray, List.map_cons, List.map_nil]); first | done | rfl | (simp only [List.length_drop, List.length_take]; rfl)) ?_; (with_reducible refine (log_Append.calls 0 _ _ t235 t242 _ ?side1 ?side2 A4.out ?side3).mono ?_); (case side1 => repeat (first | exact (Kd.R_reads' HO237.out).2.2 | (with_reducible refine Kd.C_alloc ?_ _) | (with_reducible refine Kd.C_drewN ?_ _) | (with_reducible refine Kd.C_drew ?_))); (case side2 => exact (Kd.R_reads' HO237.out).2.1); (case side3 => first | (with_reducible exact HT_.out) | exact GT.below HT_.out (by repeat (first | (with_reducible first | exact HB.out | apply below_alloc | apply pw_below_drewN | apply below_drew1) | exact HB.out))); rintro e w18 ⟨v243, rfl, ho0, hb⟩; refine ⟨_, rfl, ?_⟩; have n0_ := Aside0.mk (Kd.N_elder' (by (with_reducible repeat (first | apply Kd.N_alloc | apply Kd.N_drewN | apply Kd.N_drew)); exact HO234.out) (Kd.R_base ho0) hb); have n1_ := Aside0.mk (Kd.R_elder' (by (with_reducible repeat (first | apply Kd.R_alloc | apply Kd.R_drewN | apply Kd.R_drew)); exact HO237.out) (Kd.R_base ho0) hb); have n2_ := Aside0.mk (Kd.R_elder' (by (with_reducible repeat (first | apply Kd.R_alloc | apply Kd.R_drewN | apply Kd.R_drew)); exact HO240.out) (Kd.R_base ho0) hb); have n3_ := Aside0.mk (Kd.R_lower (Kd.R_new' (Kd.R_new' ho0 (Kd.R_lt (by (with_reducible repeat (first | apply Kd.R_alloc | apply Kd.R_drewN | apply Kd.R_drew)); exact HO237.out))) (Kd.R_lt (by (with_reducible repeat (first | apply Kd.R_alloc | apply Kd.R_drewN | apply Kd.R_drew)); exact HO240.out))) (below_size (by repeat (first | (with_reducible first | exact HB.out | apply below_alloc | apply pw_below_drewN | apply below_drew1) | exact HB.out)))); have n4_ := Aside0.mk (below_step (by repeat (first | (with_reducible first | exact HB.out | apply below_alloc | apply pw_below_drewN | apply below_drew1) | exact HB.out)) hb); clear HO234; clear HO237; clear HO240; clear HB; have HO234 := n0_; have HO237 := n1_; have HO240 := n2_; have HO244 := n3_; have HB := n4_; clear n0_ n1_ n2_ n3_ n4_; (try clear hb); (try clear hb2); (try clear hk); (try clear hi); (try clear ho0); obtain ⟨Ao19, co19, eo19⟩ := Kd.R_slice HO244.out; subst eo19) | ((with_reducible refine gate_callee (f := 17) rfl ?_); refine goesL_ (some 24) rfl rfl Tryd.func17 (by kernel_rfl) rfl #[.slice Ao19 t242.length co19] rfl (by (try simp only [List.map_toArray, List.map_cons, List.map_nil]); first | done | rfl | (simp only [List.length_drop, List.length_take]; rfl)) ?_; (with_reducible refine (log_Read.calls _ _ t242 t245 t246 t247 _ ?side1 ?side2 A5.out ?side3).mono ?_); (case side1 => repeat (first | exact (Kd.R_reads' HO244.out).2.2 | (with_reducible refine Kd.C_alloc ?_ _) | (with_reducible refine Kd.C_drewN ?_ _) | (with_reducible refine Kd.C_drew ?_))); (case side2 => exact (Kd.R_reads' HO244.out).2.1); (case side3 => first | (with_reducible exact HT_.out) | exact GT.below HT_.out (by repeat (first | (with_reducible first | exact HB.out | apply below_alloc | apply pw_below_drewN | apply below_drew1) | exact HB.out))); rintro e w20 ⟨v248, rfl, ho0, hb⟩; refine ⟨_, rfl, ?_⟩; have n0_ := Aside0.mk (Kd.N_elder' (by (with_reducible repeat (first | apply Kd.N_alloc | apply Kd.N_drewN | apply Kd.N_drew)); exact HO234.out) (Kd.S_base ho0) hb); have n1_ := Aside0.mk (Kd.R_below (by (with_reducible repeat (first | apply Kd.R_alloc | apply Kd.R_drewN | apply Kd.R_drew)); exact HO237.out) hb); have n2_ := Aside0.mk (Kd.R_below (by (with_reducible repeat (first | apply Kd.R_alloc | apply Kd.R_drewN | apply Kd.R_drew)); exact HO240.out) hb); have n3_ := Aside0.mk (Kd.R_below (by (with_reducible repeat (first | apply Kd.R_alloc | apply Kd.R_drewN | apply Kd.R_drew)); exact HO244.out) hb); have n4_ := Aside0.mk (Kd.N_lower (Kd.N_mono (ok' := fun k_ => some k_ ≠ (.slice Ao12 y232.length co12 : Value).ownBlock ∧ some k_ ≠ (.slice Ao16 t235.length co16 : Value).ownBlock ∧ some k_ ≠ (.slice Ao17 y238.length co17 : Value).ownBlock ∧ some k_ ≠ (.slice Ao19 t242.length co19 : Value).ownBlock) (Kd.S_N (Kd.S_bound ho0)) (fun k_ hk_ => ⟨(Kd.fresh' (Kd.N_lt (by (with_reducible repeat (first | apply Kd.N_alloc | apply Kd.N_drewN | apply Kd.N_drew)); exact HO234.out)) k_ hk_.2.1), (Kd.fresh' (Kd.R_lt (by (with_reducible repeat (first | apply Kd.R_alloc | apply Kd.R_drewN | apply Kd.R_drew)); exact HO237.out)) k_ hk_.2.1), (Kd.fresh' (Kd.R_lt (by (with_reducible repeat (first | apply Kd.R_alloc | apply Kd.R_drewN | apply Kd.R_drew)); exact HO240.out)) k_ hk_.2.1), (Kd.fresh' (Kd.R_lt (by (with_reducible repeat (first | apply Kd.R_alloc | apply Kd.R_drewN | apply Kd.R_drew)); exact HO244.out)) k_ hk_.2.1)⟩)) (below_size (by repeat (first | (with_reducible first | exact HB.out | apply below_alloc | apply pw_below_drewN | apply below_drew1) | exact HB.out)))); have n5_ := Aside0.mk (below_step (by repeat (first | (with_reducible first | exact HB.out | apply below_alloc | apply pw_below_drewN | apply below_drew1) | exact HB.out)) hb); clear HO234; clear HO237; clear HO240; clear HO244; clear HB; have HO234 := n0_; have HO237 := n1_; have HO240 := n2_; have HO244 := n3_; have HO249 := n4_; have HB := n5_; clear n0_ n1_ n2_ n3_ n4_ n5_; (try clear hb); (try clear hb2); (try clear hk); (try clear hi); (try clear ho0)))
    (try simp only [Act.put, List.setIfInBounds_toArray, List.set_cons_zero, List.set_cons_succ])
    (try (obtain ⟨tb1_, hTB1_⟩ : ∃ tb_ : Bool, (((t242.length : Int) == 20)) = tb_ := ⟨_, rfl⟩; simp only [hTB1_]; have TB1_ := Aside0.mk hTB1_; clear hTB1_))
    go_cut [52] (fun v52 wc => ∃ (kq : Nat) (x52_5 : Bool), v52 = .bool x52_5 ∧ Aside0 (screelaw7_known.j0 kq y232 t245 x52_5 = some r) ∧ Aside0 (kq ≤ k) ∧ Aside0 (Kd.N (Kd.slice 67 k67) 65 wc w.heap.size (fun k_ => some k_ ≠ (v248 : Value).ownBlock) (.slice Ao12 y232.length co12) y232) ∧ Aside0 (Kd.N (Kd.slice 5 (Kd.int .u8)) 22 wc w.heap.size (fun k_ => some k_ ≠ ((.slice Ao12 y232.length co12) : Value).ownBlock) v248 t245) ∧ Aside0 (Below w.heap.size w wc))
    case first =>
      have H := HC6.out
      clear HC6
      by_cases c21 : (t242.length : Int) = 20
      · rw [if_pos c21] at H
        have c21b0 : ((t242.length : Int) == 20) = true := beq_iff_eq.mpr c21
        (try (obtain rfl := TB1_.out.symm.trans c21b0))
        have c21b1 : ((t242.length : Int) != 20) = false := bne_eq_false_iff_eq.mpr c21
        clear c21
        (first | rw [c21b0] | (simp only [i64_w, i32_w]; rw [c21b0]) | skip)
        by_cases c22 : (t245.length : Int) = 1
        · rw [if_pos c22] at H
          have c22b0 : ((t245.length : Int) == 1) = true := beq_iff_eq.mpr c22
          have c22b1 : ((t245.length : Int) != 1) = false := bne_eq_false_iff_eq.mpr c22
          clear c22
          by_cases c23 : 0 < (t245.length : Int)
          · rw [if_pos c23] at H
            have c23b0 : decide (0 < (t245.length : Int)) = true := decide_eq_true c23
            have c23b1 : decide (0 < t245.length) = true := decide_eq_true (by omega)
            clear c23
            replace H := Option.bind_eq_some_iff.mp H
            obtain ⟨t251, A240, H⟩ := H
            replace H : (if t251 = true then (if t246 = 20 then ((screelaw7_num.f t247).bind fun t252 => (screelaw7_known.j0 k y232 t245 (t252 != 0))) else (screelaw7_known.j0 k y232 t245 true)) else (screelaw7_known.j0 k y232 t245 true)) = some r := H
            have A24 := Aside0.mk A240
            clear A240
            by_cases c25 : t251 = true
            · subst c25
              have H1 : (if t246 = 20 then ((screelaw7_num.f t247).bind fun t252 => (screelaw7_known.j0 k y232 t245 (t252 != 0))) else (screelaw7_known.j0 k y232 t245 true)) = some r := by rw [if_pos rfl] at H; exact H
              clear H
              have H := H1
              clear H1
              by_cases c26 : t246 = 20
              · rw [if_pos c26] at H
                have c26b0 : (t246 == 20) = true := beq_iff_eq.mpr c26
                have c26b1 : (t246 != 20) = false := bne_eq_false_iff_eq.mpr c26
                clear c26
                replace H := Option.bind_eq_some_iff.mp H
                obtain ⟨t252, A270, H⟩ := H
                replace H : (screelaw7_known.j0 k y232 t245 (t252 != 0)) = some r := H
                have A27 := Aside0.mk A270
                clear A270
                have H' := Aside0.mk H
                clear H
                obtain ⟨Ao28, co28, eo28⟩ := Kd.N_slice HO249.out
                subst eo28
                have p250 : 0 ≤ (0 : Int) := (by omega)
                have q250 : 0 < (t245.length : Int) := of_decide_eq_true (by first | (with_reducible assumption) | assumption)
                obtain ⟨ad250, A250_0, c250_0, e250, hx250_0, hl250_0, hi250_0⟩ := at_L1 (Kd.N_reads' HO249.out).2.2 0 p250 q250
                cases e250
                obtain ⟨ce250, hce250, hMe250, hcc250⟩ := Kd.N_get HO249.out [] 0 p250 (by first | exact q250 | exact of_decide_eq_true (by first | (with_reducible assumption) | assumption) | (have e_ := (Kd.N_reads' HO249.out).1; omega))
                obtain ⟨ua250_0, uc250_0, rfl, ul250_0, ge250_0⟩ := Kd.FK_slice_open hMe250
                have hv250_0 := hcc250 0 _ rfl
                rw [Nat.add_zero, show ((Kd.slice 5 (Kd.int .u8))).sz = 1 from rfl, Nat.mul_one] at hv250_0
                replace hv250_0 := Option.some.inj (hv250_0.symm.trans hx250_0)
                injection hv250_0 with hva_ hvn_ hvc_
                rw [hva_] at ge250_0
                rw [hvc_] at ul250_0
                have HL250_0 := Aside0.mk (show Kd.V (Kd.int .u8) 5 _ w.heap.size _ _ (rd_L1 t245 0) from Kd.V_mk ul250_0 ge250_0)
                clear hva_ hvn_ hvc_ ge250_0 ul250_0
                clear hcc250 hce250
                have qi250 : (0 < t245.length) = True := eq_true (by omega)
                (try rw [show ((0 : Int)).toNat = 0 from rfl] at hx250_0)
                (try rw [Addr.add_zero'] at hx250_0)
                have HR250_0 := Aside0.mk hi250_0
                have HC250_0 := Aside0.mk hl250_0
                clear hi250_0 hl250_0
                replace p250 := eq_true p250
                replace q250 := eq_true q250
                go_wp2_with (first | (go_at_call 10; (with_reducible refine (screelaw7_same.calls _ _ (rd_L1 t245 0) _ _ t235 true _ ?side1 ?side2 ?side3 ?side4 A24.out).mono ?_); (case side1 => repeat (first | exact (by repeat (first | (with_reducible exact HR250_0.out) | (with_reducible refine Kd.C_alloc ?_ _) | (with_reducible refine Kd.C_drewN ?_ _) | (with_reducible refine Kd.C_drew ?_) | exact HR250_0.out)) | (with_reducible refine Kd.C_alloc ?_ _) | (with_reducible refine Kd.C_drewN ?_ _) | (with_reducible refine Kd.C_drew ?_))); (case side2 => exact HC250_0.out); (case side3 => repeat (first | exact (Kd.R_reads' HO237.out).2.2 | (with_reducible refine Kd.C_alloc ?_ _) | (with_reducible refine Kd.C_drewN ?_ _) | (with_reducible refine Kd.C_drew ?_))); (case side4 => exact (Kd.R_reads' HO237.out).2.1); rintro e w' ⟨rfl, ⟨nd, rfl⟩⟩) | (go_at_call 18; (with_reducible refine (screelaw7_num.calls t247 t252 _ A27.out).mono ?_); rintro e w' ⟨rfl, ⟨nd, rfl⟩⟩))
                go_meet
                case rel => exact ⟨_, ((t252 != 0)), (by first | rfl | (simp; done) | (simp [*]; done)), H', ⟨by first | omega | exact Nat.le_refl _⟩, ⟨by (with_reducible repeat (first | apply Kd.N_alloc | apply Kd.N_drewN | apply Kd.N_drew)); exact Kd.N_mono HO234.out (fun _ hk => hk.2)⟩, ⟨by (with_reducible repeat (first | apply Kd.N_alloc | apply Kd.N_drewN | apply Kd.N_drew)); exact Kd.N_mono HO249.out (fun _ hk => hk.1)⟩, ⟨by repeat (first | (with_reducible first | exact HB.out | apply below_alloc | apply pw_below_drewN | apply below_drew1) | exact HB.out)⟩⟩
              · rw [if_neg c26] at H
                have c26b0 : (t246 == 20) = false := beq_eq_false_iff_ne.mpr c26
                have c26b1 : (t246 != 20) = true := bne_iff_ne.mpr c26
                have H' := Aside0.mk H
                clear H
                obtain ⟨Ao29, co29, eo29⟩ := Kd.N_slice HO249.out
                subst eo29
                have p250 : 0 ≤ (0 : Int) := (by omega)
                have q250 : 0 < (t245.length : Int) := of_decide_eq_true (by first | (with_reducible assumption) | assumption)
                obtain ⟨ad250, A250_0, c250_0, e250, hx250_0, hl250_0, hi250_0⟩ := at_L1 (Kd.N_reads' HO249.out).2.2 0 p250 q250
                cases e250
                obtain ⟨ce250, hce250, hMe250, hcc250⟩ := Kd.N_get HO249.out [] 0 p250 (by first | exact q250 | exact of_decide_eq_true (by first | (with_reducible assumption) | assumption) | (have e_ := (Kd.N_reads' HO249.out).1; omega))
                obtain ⟨ua250_0, uc250_0, rfl, ul250_0, ge250_0⟩ := Kd.FK_slice_open hMe250
                have hv250_0 := hcc250 0 _ rfl
                rw [Nat.add_zero, show ((Kd.slice 5 (Kd.int .u8))).sz = 1 from rfl, Nat.mul_one] at hv250_0
                replace hv250_0 := Option.some.inj (hv250_0.symm.trans hx250_0)
                injection hv250_0 with hva_ hvn_ hvc_
                rw [hva_] at ge250_0
                rw [hvc_] at ul250_0
                have HL250_0 := Aside0.mk (show Kd.V (Kd.int .u8) 5 _ w.heap.size _ _ (rd_L1 t245 0) from Kd.V_mk ul250_0 ge250_0)
                clear hva_ hvn_ hvc_ ge250_0 ul250_0
                clear hcc250 hce250
                have qi250 : (0 < t245.length) = True := eq_true (by omega)
                (try rw [show ((0 : Int)).toNat = 0 from rfl] at hx250_0)
                (try rw [Addr.add_zero'] at hx250_0)
                have HR250_0 := Aside0.mk hi250_0
                have HC250_0 := Aside0.mk hl250_0
                clear hi250_0 hl250_0
                replace p250 := eq_true p250
                replace q250 := eq_true q250
                go_wp2_with (first | (go_at_call 10; (with_reducible refine (screelaw7_same.calls _ _ (rd_L1 t245 0) _ _ t235 true _ ?side1 ?side2 ?side3 ?side4 A24.out).mono ?_); (case side1 => repeat (first | exact (by repeat (first | (with_reducible exact HR250_0.out) | (with_reducible refine Kd.C_alloc ?_ _) | (with_reducible refine Kd.C_drewN ?_ _) | (with_reducible refine Kd.C_drew ?_) | exact HR250_0.out)) | (with_reducible refine Kd.C_alloc ?_ _) | (with_reducible refine Kd.C_drewN ?_ _) | (with_reducible refine Kd.C_drew ?_))); (case side2 => exact HC250_0.out); (case side3 => repeat (first | exact (Kd.R_reads' HO237.out).2.2 | (with_reducible refine Kd.C_alloc ?_ _) | (with_reducible refine Kd.C_drewN ?_ _) | (with_reducible refine Kd.C_drew ?_))); (case side4 => exact (Kd.R_reads' HO237.out).2.1); rintro e w' ⟨rfl, ⟨nd, rfl⟩⟩))
                go_meet
                case rel => exact ⟨_, (true), (by first | rfl | (simp; done) | (simp [*]; done)), H', ⟨by first | omega | exact Nat.le_refl _⟩, ⟨by (with_reducible repeat (first | apply Kd.N_alloc | apply Kd.N_drewN | apply Kd.N_drew)); exact Kd.N_mono HO234.out (fun _ hk => hk.2)⟩, ⟨by (with_reducible repeat (first | apply Kd.N_alloc | apply Kd.N_drewN | apply Kd.N_drew)); exact Kd.N_mono HO249.out (fun _ hk => hk.1)⟩, ⟨by repeat (first | (with_reducible first | exact HB.out | apply below_alloc | apply pw_below_drewN | apply below_drew1) | exact HB.out)⟩⟩
            · replace c25 := Bool.eq_false_iff.mpr c25
              subst c25
              have H1 : (screelaw7_known.j0 k y232 t245 true) = some r := by rw [if_neg (show ¬ (false = true) by decide)] at H; exact H
              clear H
              have H := H1
              clear H1
              have H' := Aside0.mk H
              clear H
              obtain ⟨Ao30, co30, eo30⟩ := Kd.N_slice HO249.out
              subst eo30
              have p250 : 0 ≤ (0 : Int) := (by omega)
              have q250 : 0 < (t245.length : Int) := of_decide_eq_true (by first | (with_reducible assumption) | assumption)
              obtain ⟨ad250, A250_0, c250_0, e250, hx250_0, hl250_0, hi250_0⟩ := at_L1 (Kd.N_reads' HO249.out).2.2 0 p250 q250
              cases e250
              obtain ⟨ce250, hce250, hMe250, hcc250⟩ := Kd.N_get HO249.out [] 0 p250 (by first | exact q250 | exact of_decide_eq_true (by first | (with_reducible assumption) | assumption) | (have e_ := (Kd.N_reads' HO249.out).1; omega))
              obtain ⟨ua250_0, uc250_0, rfl, ul250_0, ge250_0⟩ := Kd.FK_slice_open hMe250
              have hv250_0 := hcc250 0 _ rfl
              rw [Nat.add_zero, show ((Kd.slice 5 (Kd.int .u8))).sz = 1 from rfl, Nat.mul_one] at hv250_0
              replace hv250_0 := Option.some.inj (hv250_0.symm.trans hx250_0)
              injection hv250_0 with hva_ hvn_ hvc_
              rw [hva_] at ge250_0
              rw [hvc_] at ul250_0
              have HL250_0 := Aside0.mk (show Kd.V (Kd.int .u8) 5 _ w.heap.size _ _ (rd_L1 t245 0) from Kd.V_mk ul250_0 ge250_0)
              clear hva_ hvn_ hvc_ ge250_0 ul250_0
              clear hcc250 hce250
              have qi250 : (0 < t245.length) = True := eq_true (by omega)
              (try rw [show ((0 : Int)).toNat = 0 from rfl] at hx250_0)
              (try rw [Addr.add_zero'] at hx250_0)
              have HR250_0 := Aside0.mk hi250_0
              have HC250_0 := Aside0.mk hl250_0
              clear hi250_0 hl250_0
              replace p250 := eq_true p250
              replace q250 := eq_true q250
              go_wp2_with (first | (go_at_call 10; (with_reducible refine (screelaw7_same.calls _ _ (rd_L1 t245 0) _ _ t235 false _ ?side1 ?side2 ?side3 ?side4 A24.out).mono ?_); (case side1 => repeat (first | exact (by repeat (first | (with_reducible exact HR250_0.out) | (with_reducible refine Kd.C_alloc ?_ _) | (with_reducible refine Kd.C_drewN ?_ _) | (with_reducible refine Kd.C_drew ?_) | exact HR250_0.out)) | (with_reducible refine Kd.C_alloc ?_ _) | (with_reducible refine Kd.C_drewN ?_ _) | (with_reducible refine Kd.C_drew ?_))); (case side2 => exact HC250_0.out); (case side3 => repeat (first | exact (Kd.R_reads' HO237.out).2.2 | (with_reducible refine Kd.C_alloc ?_ _) | (with_reducible refine Kd.C_drewN ?_ _) | (with_reducible refine Kd.C_drew ?_))); (case side4 => exact (Kd.R_reads' HO237.out).2.1); rintro e w' ⟨rfl, ⟨nd, rfl⟩⟩))
              go_meet
              case rel => exact ⟨_, (true), (by first | rfl | (simp; done) | (simp [*]; done)), H', ⟨by first | omega | exact Nat.le_refl _⟩, ⟨by (with_reducible repeat (first | apply Kd.N_alloc | apply Kd.N_drewN | apply Kd.N_drew)); exact Kd.N_mono HO234.out (fun _ hk => hk.2)⟩, ⟨by (with_reducible repeat (first | apply Kd.N_alloc | apply Kd.N_drewN | apply Kd.N_drew)); exact Kd.N_mono HO249.out (fun _ hk => hk.1)⟩, ⟨by repeat (first | (with_reducible first | exact HB.out | apply below_alloc | apply pw_below_drewN | apply below_drew1) | exact HB.out)⟩⟩
          · rw [if_neg c23] at H
            exact absurd H (by simp)
        · rw [if_neg c22] at H
          have c22b0 : ((t245.length : Int) == 1) = false := beq_eq_false_iff_ne.mpr c22
          have c22b1 : ((t245.length : Int) != 1) = true := bne_iff_ne.mpr c22
          have H' := Aside0.mk H
          clear H
          obtain ⟨Ao31, co31, eo31⟩ := Kd.N_slice HO249.out
          subst eo31
          go_wp2
          go_meet
          case rel => exact ⟨_, (true), (by first | rfl | (simp; done) | (simp [*]; done)), H', ⟨by first | omega | exact Nat.le_refl _⟩, ⟨by (with_reducible repeat (first | apply Kd.N_alloc | apply Kd.N_drewN | apply Kd.N_drew)); exact Kd.N_mono HO234.out (fun _ hk => hk.2)⟩, ⟨by (with_reducible repeat (first | apply Kd.N_alloc | apply Kd.N_drewN | apply Kd.N_drew)); exact Kd.N_mono HO249.out (fun _ hk => hk.1)⟩, ⟨by repeat (first | (with_reducible first | exact HB.out | apply below_alloc | apply pw_below_drewN | apply below_drew1) | exact HB.out)⟩⟩
      · rw [if_neg c21] at H
        have c21b0 : ((t242.length : Int) == 20) = false := beq_eq_false_iff_ne.mpr c21
        (try (obtain rfl := TB1_.out.symm.trans c21b0))
        have c21b1 : ((t242.length : Int) != 20) = true := bne_iff_ne.mpr c21
        (first | rw [c21b0] | (simp only [i64_w, i32_w]; rw [c21b0]) | skip)
        have H' := Aside0.mk H
        clear H
        go_wp2
        go_meet
        case rel => exact ⟨_, (true), (by first | rfl | (simp; done) | (simp [*]; done)), H', ⟨by first | omega | exact Nat.le_refl _⟩, ⟨by (with_reducible repeat (first | apply Kd.N_alloc | apply Kd.N_drewN | apply Kd.N_drew)); exact Kd.N_mono HO234.out (fun _ hk => hk.2)⟩, ⟨by (with_reducible repeat (first | apply Kd.N_alloc | apply Kd.N_drewN | apply Kd.N_drew)); exact Kd.N_mono HO249.out (fun _ hk => hk.1)⟩, ⟨by repeat (first | (with_reducible first | exact HB.out | apply below_alloc | apply pw_below_drewN | apply below_drew1) | exact HB.out)⟩⟩
    case rest =>
      clear HC6
      try clear c1
      try clear c2
      try clear p2
      try clear q2
      try clear hx2
      try clear qi2
      try clear c3
      try clear c10
      try clear c11
      try clear c17
      try clear c20
      try clear c21
      try clear c21b0
      try clear c21b1
      try clear c22
      try clear c22b0
      try clear c22b1
      try clear c23
      try clear c23b0
      try clear c23b1
      try clear c25
      try clear p25
      try clear q25
      try clear hx25
      try clear qi25
      try clear c26
      try clear c26b0
      try clear c26b1
      try clear hx250_0
      try clear p250
      try clear q250
      obtain ⟨kq, x52_5, rfl, HA, HJ5, HO_1, HO_4, HB⟩ := hcut
      cases kq with
      | zero => exact absurd HA.out (by simp [screelaw7_known.j0])
      | succ kj5 =>
        have H := HA.out
        clear HA
        simp only [screelaw7_known.j0] at H
        by_cases c32 : x52_5 = true
        · subst c32
          have H1 : (some false) = some r := by rw [if_pos rfl] at H; exact H
          clear H
          have H := H1
          clear H1
          obtain rfl := Option.some.inj H
          go_wp2
          go_ret
          exact ⟨by first | rfl | (simp [errW_none, errW_some] <;> rfl) | (simp [*, errW_none, errW_some] <;> rfl), by repeat (first | (with_reducible first | exact HB.out | apply below_alloc | apply pw_below_drewN | apply below_drew1) | exact HB.out)⟩
        · replace c32 := Bool.eq_false_iff.mpr c32
          subst c32
          have H1 : (if 0 < (t245.length : Int) then ((log_Get.f (rd_L1 t245 0)).bind fun bt254 => (if bt254.1 = 300 then ((screelaw7_sameGroups.f kj5 bt254.2.1 y232).bind fun t259 => (if t259 = true then ((screelaw7_num.f bt254.2.2).bind fun t260 => (some (t260 == 0))) else (some false))) else (some false))) else (none)) = some r := by rw [if_neg (show ¬ (false = true) by decide)] at H; exact H
          clear H
          have H := H1
          clear H1
          by_cases c33 : 0 < (t245.length : Int)
          · rw [if_pos c33] at H
            have c33b0 : decide (0 < (t245.length : Int)) = true := decide_eq_true c33
            have c33b1 : decide (0 < t245.length) = true := decide_eq_true (by omega)
            clear c33
            replace H := Option.bind_eq_some_iff.mp H
            obtain ⟨⟨t254, t255, t256⟩, A340, H⟩ := H
            replace H : (if t254 = 300 then ((screelaw7_sameGroups.f kj5 t255 y232).bind fun t259 => (if t259 = true then ((screelaw7_num.f t256).bind fun t260 => (some (t260 == 0))) else (some false))) else (some false)) = some r := H
            have A34 := Aside0.mk A340
            clear A340
            by_cases c35 : t254 = 300
            · rw [if_pos c35] at H
              have c35b0 : (t254 == 300) = true := beq_iff_eq.mpr c35
              have c35b1 : (t254 != 300) = false := bne_eq_false_iff_eq.mpr c35
              clear c35
              replace H := Option.bind_eq_some_iff.mp H
              obtain ⟨t259, A360, H⟩ := H
              replace H : (if t259 = true then ((screelaw7_num.f t256).bind fun t260 => (some (t260 == 0))) else (some false)) = some r := H
              have A36 := Aside0.mk A360
              clear A360
              by_cases c37 : t259 = true
              · subst c37
                have H1 : ((screelaw7_num.f t256).bind fun t260 => (some (t260 == 0))) = some r := by rw [if_pos rfl] at H; exact H
                clear H
                have H := H1
                clear H1
                replace H := Option.bind_eq_some_iff.mp H
                obtain ⟨t260, A380, H⟩ := H
                replace H : (some (t260 == 0)) = some r := H
                have A38 := Aside0.mk A380
                clear A380
                obtain rfl := Option.some.inj H
                obtain ⟨Ao39, co39, eo39⟩ := Kd.N_slice HO_4.out
                subst eo39
                have p253 : 0 ≤ (0 : Int) := (by omega)
                have q253 : 0 < (t245.length : Int) := of_decide_eq_true (by first | (with_reducible assumption) | assumption)
                obtain ⟨ad253, A253_0, c253_0, e253, hx253_0, hl253_0, hi253_0⟩ := at_L1 (Kd.N_reads' HO_4.out).2.2 0 p253 q253
                cases e253
                obtain ⟨ce253, hce253, hMe253, hcc253⟩ := Kd.N_get HO_4.out [] 0 p253 (by first | exact q253 | exact of_decide_eq_true (by first | (with_reducible assumption) | assumption) | (have e_ := (Kd.N_reads' HO_4.out).1; omega))
                obtain ⟨ua253_0, uc253_0, rfl, ul253_0, ge253_0⟩ := Kd.FK_slice_open hMe253
                have hv253_0 := hcc253 0 _ rfl
                rw [Nat.add_zero, show ((Kd.slice 5 (Kd.int .u8))).sz = 1 from rfl, Nat.mul_one] at hv253_0
                replace hv253_0 := Option.some.inj (hv253_0.symm.trans hx253_0)
                injection hv253_0 with hva_ hvn_ hvc_
                rw [hva_] at ge253_0
                rw [hvc_] at ul253_0
                have HL253_0 := Aside0.mk (show Kd.V (Kd.int .u8) 5 _ w.heap.size _ _ (rd_L1 t245 0) from Kd.V_mk ul253_0 ge253_0)
                clear hva_ hvn_ hvc_ ge253_0 ul253_0
                clear hcc253 hce253
                have qi253 : (0 < t245.length) = True := eq_true (by omega)
                (try rw [show ((0 : Int)).toNat = 0 from rfl] at hx253_0)
                (try rw [Addr.add_zero'] at hx253_0)
                have HR253_0 := Aside0.mk hi253_0
                have HC253_0 := Aside0.mk hl253_0
                clear hi253_0 hl253_0
                replace p253 := eq_true p253
                replace q253 := eq_true q253
                go_wp2_with (first | ((with_reducible refine gate_callee (f := 24) rfl ?_); refine goesL_ (some 57) rfl rfl Tryd.func24 (by kernel_rfl) rfl #[.slice A253_0 (rd_L1 t245 0).length c253_0] rfl (by (try simp only [List.map_toArray, List.map_cons, List.map_nil]); first | done | rfl | (simp only [List.length_drop, List.length_take]; rfl)) ?_; (with_reducible refine (log_Get.calls _ _ (rd_L1 t245 0) t254 t255 t256 _ ?side1 ?side2 A34.out).mono ?_); (case side1 => repeat (first | exact (by repeat (first | (with_reducible exact HR253_0.out) | (with_reducible refine Kd.C_alloc ?_ _) | (with_reducible refine Kd.C_drewN ?_ _) | (with_reducible refine Kd.C_drew ?_) | exact HR253_0.out)) | (with_reducible refine Kd.C_alloc ?_ _) | (with_reducible refine Kd.C_drewN ?_ _) | (with_reducible refine Kd.C_drew ?_))); (case side2 => exact HC253_0.out); rintro e w40 ⟨v257, rfl, ho0, hb⟩; refine ⟨_, rfl, ?_⟩; have n0_ := Aside0.mk (Kd.N_elder' (by (with_reducible repeat (first | apply Kd.N_alloc | apply Kd.N_drewN | apply Kd.N_drew)); exact HO_1.out) (Kd.S_base ho0) hb); have n1_ := Aside0.mk (Kd.N_elder' (by (with_reducible repeat (first | apply Kd.N_alloc | apply Kd.N_drewN | apply Kd.N_drew)); exact HO_4.out) (Kd.S_base ho0) hb); have n2_ := Aside0.mk (Kd.V_elder' (by (with_reducible repeat (first | apply Kd.V_alloc | apply Kd.V_drewN | apply Kd.V_drew)); exact HL253_0.out) (Kd.S_base ho0) hb); have n3_ := Aside0.mk (Kd.N_lower (Kd.N_mono (ok' := fun k_ => some k_ ≠ (.slice Ao12 y232.length co12 : Value).ownBlock ∧ some k_ ≠ (.slice (some ad253) t245.length co39 : Value).ownBlock) (Kd.S_N (Kd.S_bound ho0)) (fun k_ hk_ => ⟨(Kd.fresh' (Kd.N_lt (by (with_reducible repeat (first | apply Kd.N_alloc | apply Kd.N_drewN | apply Kd.N_drew)); exact HO_1.out)) k_ hk_.2.1), (Kd.fresh' (Kd.N_lt (by (with_reducible repeat (first | apply Kd.N_alloc | apply Kd.N_drewN | apply Kd.N_drew)); exact HO_4.out)) k_ hk_.2.1)⟩)) (below_size (by repeat (first | (with_reducible first | exact HB.out | apply below_alloc | apply pw_below_drewN | apply below_drew1) | exact HB.out)))); have n4_ := Aside0.mk (Kd.C_below (by repeat (first | (with_reducible exact HR253_0.out) | (with_reducible refine Kd.C_alloc ?_ _) | (with_reducible refine Kd.C_drewN ?_ _) | (with_reducible refine Kd.C_drew ?_) | exact HR253_0.out)) hb); have n5_ := Aside0.mk (below_step (by repeat (first | (with_reducible first | exact HB.out | apply below_alloc | apply pw_below_drewN | apply below_drew1) | exact HB.out)) hb); clear HO_1; clear HO_4; clear HL253_0; clear HR253_0; clear HB; have HO_1 := n0_; have HO_4 := n1_; have HL253_0 := n2_; have HO258 := n3_; have HR253_0 := n4_; have HB := n5_; clear n0_ n1_ n2_ n3_ n4_ n5_; (try clear hb); (try clear hb2); (try clear hk); (try clear hi); (try clear ho0); obtain ⟨Ao41, co41, eo41⟩ := Kd.N_slice HO258.out; subst eo41) | (go_at_call 26; (with_reducible refine (screelaw7_sameGroups.calls kj5 _ _ t255 _ _ y232 true _ ?side1 ?side2 ?side3 ?side4 A36.out).mono ?_); (case side1 => repeat (first | exact (Kd.N_reads' HO258.out).2.2 | (with_reducible refine Kd.C_alloc ?_ _) | (with_reducible refine Kd.C_drewN ?_ _) | (with_reducible refine Kd.C_drew ?_))); (case side2 => exact (Kd.N_reads' HO258.out).2.1); (case side3 => repeat (first | exact (Kd.N_reads' HO_1.out).2.2 | (with_reducible refine Kd.C_alloc ?_ _) | (with_reducible refine Kd.C_drewN ?_ _) | (with_reducible refine Kd.C_drew ?_))); (case side4 => exact (Kd.N_reads' HO_1.out).2.1); rintro e w' ⟨rfl, ⟨nd, rfl⟩⟩) | (go_at_call 18; (with_reducible refine (screelaw7_num.calls t256 t260 _ A38.out).mono ?_); rintro e w' ⟨rfl, ⟨nd, rfl⟩⟩))
                go_ret
                exact ⟨by first | rfl | (simp [errW_none, errW_some] <;> rfl) | (simp [*, errW_none, errW_some] <;> rfl), by repeat (first | (with_reducible first | exact HB.out | apply below_alloc | apply pw_below_drewN | apply below_drew1) | exact HB.out)⟩
              · replace c37 := Bool.eq_false_iff.mpr c37
                subst c37
                have H1 : (some false) = some r := by rw [if_neg (show ¬ (false = true) by decide)] at H; exact H
                clear H
                have H := H1
                clear H1
                obtain rfl := Option.some.inj H
                obtain ⟨Ao42, co42, eo42⟩ := Kd.N_slice HO_4.out
                subst eo42
                have p253 : 0 ≤ (0 : Int) := (by omega)
                have q253 : 0 < (t245.length : Int) := of_decide_eq_true (by first | (with_reducible assumption) | assumption)
                obtain ⟨ad253, A253_0, c253_0, e253, hx253_0, hl253_0, hi253_0⟩ := at_L1 (Kd.N_reads' HO_4.out).2.2 0 p253 q253
                cases e253
                obtain ⟨ce253, hce253, hMe253, hcc253⟩ := Kd.N_get HO_4.out [] 0 p253 (by first | exact q253 | exact of_decide_eq_true (by first | (with_reducible assumption) | assumption) | (have e_ := (Kd.N_reads' HO_4.out).1; omega))
                obtain ⟨ua253_0, uc253_0, rfl, ul253_0, ge253_0⟩ := Kd.FK_slice_open hMe253
                have hv253_0 := hcc253 0 _ rfl
                rw [Nat.add_zero, show ((Kd.slice 5 (Kd.int .u8))).sz = 1 from rfl, Nat.mul_one] at hv253_0
                replace hv253_0 := Option.some.inj (hv253_0.symm.trans hx253_0)
                injection hv253_0 with hva_ hvn_ hvc_
                rw [hva_] at ge253_0
                rw [hvc_] at ul253_0
                have HL253_0 := Aside0.mk (show Kd.V (Kd.int .u8) 5 _ w.heap.size _ _ (rd_L1 t245 0) from Kd.V_mk ul253_0 ge253_0)
                clear hva_ hvn_ hvc_ ge253_0 ul253_0
                clear hcc253 hce253
                have qi253 : (0 < t245.length) = True := eq_true (by omega)
                (try rw [show ((0 : Int)).toNat = 0 from rfl] at hx253_0)
                (try rw [Addr.add_zero'] at hx253_0)
                have HR253_0 := Aside0.mk hi253_0
                have HC253_0 := Aside0.mk hl253_0
                clear hi253_0 hl253_0
                replace p253 := eq_true p253
                replace q253 := eq_true q253
                go_wp2_with (first | ((with_reducible refine gate_callee (f := 24) rfl ?_); refine goesL_ (some 57) rfl rfl Tryd.func24 (by kernel_rfl) rfl #[.slice A253_0 (rd_L1 t245 0).length c253_0] rfl (by (try simp only [List.map_toArray, List.map_cons, List.map_nil]); first | done | rfl | (simp only [List.length_drop, List.length_take]; rfl)) ?_; (with_reducible refine (log_Get.calls _ _ (rd_L1 t245 0) t254 t255 t256 _ ?side1 ?side2 A34.out).mono ?_); (case side1 => repeat (first | exact (by repeat (first | (with_reducible exact HR253_0.out) | (with_reducible refine Kd.C_alloc ?_ _) | (with_reducible refine Kd.C_drewN ?_ _) | (with_reducible refine Kd.C_drew ?_) | exact HR253_0.out)) | (with_reducible refine Kd.C_alloc ?_ _) | (with_reducible refine Kd.C_drewN ?_ _) | (with_reducible refine Kd.C_drew ?_))); (case side2 => exact HC253_0.out); rintro e w43 ⟨v257, rfl, ho0, hb⟩; refine ⟨_, rfl, ?_⟩; have n0_ := Aside0.mk (Kd.N_elder' (by (with_reducible repeat (first | apply Kd.N_alloc | apply Kd.N_drewN | apply Kd.N_drew)); exact HO_1.out) (Kd.S_base ho0) hb); have n1_ := Aside0.mk (Kd.N_elder' (by (with_reducible repeat (first | apply Kd.N_alloc | apply Kd.N_drewN | apply Kd.N_drew)); exact HO_4.out) (Kd.S_base ho0) hb); have n2_ := Aside0.mk (Kd.V_elder' (by (with_reducible repeat (first | apply Kd.V_alloc | apply Kd.V_drewN | apply Kd.V_drew)); exact HL253_0.out) (Kd.S_base ho0) hb); have n3_ := Aside0.mk (Kd.N_lower (Kd.N_mono (ok' := fun k_ => some k_ ≠ (.slice Ao12 y232.length co12 : Value).ownBlock ∧ some k_ ≠ (.slice (some ad253) t245.length co42 : Value).ownBlock) (Kd.S_N (Kd.S_bound ho0)) (fun k_ hk_ => ⟨(Kd.fresh' (Kd.N_lt (by (with_reducible repeat (first | apply Kd.N_alloc | apply Kd.N_drewN | apply Kd.N_drew)); exact HO_1.out)) k_ hk_.2.1), (Kd.fresh' (Kd.N_lt (by (with_reducible repeat (first | apply Kd.N_alloc | apply Kd.N_drewN | apply Kd.N_drew)); exact HO_4.out)) k_ hk_.2.1)⟩)) (below_size (by repeat (first | (with_reducible first | exact HB.out | apply below_alloc | apply pw_below_drewN | apply below_drew1) | exact HB.out)))); have n4_ := Aside0.mk (Kd.C_below (by repeat (first | (with_reducible exact HR253_0.out) | (with_reducible refine Kd.C_alloc ?_ _) | (with_reducible refine Kd.C_drewN ?_ _) | (with_reducible refine Kd.C_drew ?_) | exact HR253_0.out)) hb); have n5_ := Aside0.mk (below_step (by repeat (first | (with_reducible first | exact HB.out | apply below_alloc | apply pw_below_drewN | apply below_drew1) | exact HB.out)) hb); clear HO_1; clear HO_4; clear HL253_0; clear HR253_0; clear HB; have HO_1 := n0_; have HO_4 := n1_; have HL253_0 := n2_; have HO258 := n3_; have HR253_0 := n4_; have HB := n5_; clear n0_ n1_ n2_ n3_ n4_ n5_; (try clear hb); (try clear hb2); (try clear hk); (try clear hi); (try clear ho0); obtain ⟨Ao44, co44, eo44⟩ := Kd.N_slice HO258.out; subst eo44) | (go_at_call 26; (with_reducible refine (screelaw7_sameGroups.calls kj5 _ _ t255 _ _ y232 false _ ?side1 ?side2 ?side3 ?side4 A36.out).mono ?_); (case side1 => repeat (first | exact (Kd.N_reads' HO258.out).2.2 | (with_reducible refine Kd.C_alloc ?_ _) | (with_reducible refine Kd.C_drewN ?_ _) | (with_reducible refine Kd.C_drew ?_))); (case side2 => exact (Kd.N_reads' HO258.out).2.1); (case side3 => repeat (first | exact (Kd.N_reads' HO_1.out).2.2 | (with_reducible refine Kd.C_alloc ?_ _) | (with_reducible refine Kd.C_drewN ?_ _) | (with_reducible refine Kd.C_drew ?_))); (case side4 => exact (Kd.N_reads' HO_1.out).2.1); rintro e w' ⟨rfl, ⟨nd, rfl⟩⟩))
                go_ret
                exact ⟨by first | rfl | (simp [errW_none, errW_some] <;> rfl) | (simp [*, errW_none, errW_some] <;> rfl), by repeat (first | (with_reducible first | exact HB.out | apply below_alloc | apply pw_below_drewN | apply below_drew1) | exact HB.out)⟩
            · rw [if_neg c35] at H
              have c35b0 : (t254 == 300) = false := beq_eq_false_iff_ne.mpr c35
              have c35b1 : (t254 != 300) = true := bne_iff_ne.mpr c35
              obtain rfl := Option.some.inj H
              obtain ⟨Ao45, co45, eo45⟩ := Kd.N_slice HO_4.out
              subst eo45
              have p253 : 0 ≤ (0 : Int) := (by omega)
              have q253 : 0 < (t245.length : Int) := of_decide_eq_true (by first | (with_reducible assumption) | assumption)
              obtain ⟨ad253, A253_0, c253_0, e253, hx253_0, hl253_0, hi253_0⟩ := at_L1 (Kd.N_reads' HO_4.out).2.2 0 p253 q253
              cases e253
              obtain ⟨ce253, hce253, hMe253, hcc253⟩ := Kd.N_get HO_4.out [] 0 p253 (by first | exact q253 | exact of_decide_eq_true (by first | (with_reducible assumption) | assumption) | (have e_ := (Kd.N_reads' HO_4.out).1; omega))
              obtain ⟨ua253_0, uc253_0, rfl, ul253_0, ge253_0⟩ := Kd.FK_slice_open hMe253
              have hv253_0 := hcc253 0 _ rfl
              rw [Nat.add_zero, show ((Kd.slice 5 (Kd.int .u8))).sz = 1 from rfl, Nat.mul_one] at hv253_0
              replace hv253_0 := Option.some.inj (hv253_0.symm.trans hx253_0)
              injection hv253_0 with hva_ hvn_ hvc_
              rw [hva_] at ge253_0
              rw [hvc_] at ul253_0
              have HL253_0 := Aside0.mk (show Kd.V (Kd.int .u8) 5 _ w.heap.size _ _ (rd_L1 t245 0) from Kd.V_mk ul253_0 ge253_0)
              clear hva_ hvn_ hvc_ ge253_0 ul253_0
              clear hcc253 hce253
              have qi253 : (0 < t245.length) = True := eq_true (by omega)
              (try rw [show ((0 : Int)).toNat = 0 from rfl] at hx253_0)
              (try rw [Addr.add_zero'] at hx253_0)
              have HR253_0 := Aside0.mk hi253_0
              have HC253_0 := Aside0.mk hl253_0
              clear hi253_0 hl253_0
              replace p253 := eq_true p253
              replace q253 := eq_true q253
              go_wp2_with (first | ((with_reducible refine gate_callee (f := 24) rfl ?_); refine goesL_ (some 57) rfl rfl Tryd.func24 (by kernel_rfl) rfl #[.slice A253_0 (rd_L1 t245 0).length c253_0] rfl (by (try simp only [List.map_toArray, List.map_cons, List.map_nil]); first | done | rfl | (simp only [List.length_drop, List.length_take]; rfl)) ?_; (with_reducible refine (log_Get.calls _ _ (rd_L1 t245 0) t254 t255 t256 _ ?side1 ?side2 A34.out).mono ?_); (case side1 => repeat (first | exact (by repeat (first | (with_reducible exact HR253_0.out) | (with_reducible refine Kd.C_alloc ?_ _) | (with_reducible refine Kd.C_drewN ?_ _) | (with_reducible refine Kd.C_drew ?_) | exact HR253_0.out)) | (with_reducible refine Kd.C_alloc ?_ _) | (with_reducible refine Kd.C_drewN ?_ _) | (with_reducible refine Kd.C_drew ?_))); (case side2 => exact HC253_0.out); rintro e w46 ⟨v257, rfl, ho0, hb⟩; refine ⟨_, rfl, ?_⟩; have n0_ := Aside0.mk (Kd.N_elder' (by (with_reducible repeat (first | apply Kd.N_alloc | apply Kd.N_drewN | apply Kd.N_drew)); exact HO_1.out) (Kd.S_base ho0) hb); have n1_ := Aside0.mk (Kd.N_elder' (by (with_reducible repeat (first | apply Kd.N_alloc | apply Kd.N_drewN | apply Kd.N_drew)); exact HO_4.out) (Kd.S_base ho0) hb); have n2_ := Aside0.mk (Kd.V_elder' (by (with_reducible repeat (first | apply Kd.V_alloc | apply Kd.V_drewN | apply Kd.V_drew)); exact HL253_0.out) (Kd.S_base ho0) hb); have n3_ := Aside0.mk (Kd.N_lower (Kd.N_mono (ok' := fun k_ => some k_ ≠ (.slice Ao12 y232.length co12 : Value).ownBlock ∧ some k_ ≠ (.slice (some ad253) t245.length co45 : Value).ownBlock) (Kd.S_N (Kd.S_bound ho0)) (fun k_ hk_ => ⟨(Kd.fresh' (Kd.N_lt (by (with_reducible repeat (first | apply Kd.N_alloc | apply Kd.N_drewN | apply Kd.N_drew)); exact HO_1.out)) k_ hk_.2.1), (Kd.fresh' (Kd.N_lt (by (with_reducible repeat (first | apply Kd.N_alloc | apply Kd.N_drewN | apply Kd.N_drew)); exact HO_4.out)) k_ hk_.2.1)⟩)) (below_size (by repeat (first | (with_reducible first | exact HB.out | apply below_alloc | apply pw_below_drewN | apply below_drew1) | exact HB.out)))); have n4_ := Aside0.mk (Kd.C_below (by repeat (first | (with_reducible exact HR253_0.out) | (with_reducible refine Kd.C_alloc ?_ _) | (with_reducible refine Kd.C_drewN ?_ _) | (with_reducible refine Kd.C_drew ?_) | exact HR253_0.out)) hb); have n5_ := Aside0.mk (below_step (by repeat (first | (with_reducible first | exact HB.out | apply below_alloc | apply pw_below_drewN | apply below_drew1) | exact HB.out)) hb); clear HO_1; clear HO_4; clear HL253_0; clear HR253_0; clear HB; have HO_1 := n0_; have HO_4 := n1_; have HL253_0 := n2_; have HO258 := n3_; have HR253_0 := n4_; have HB := n5_; clear n0_ n1_ n2_ n3_ n4_ n5_; (try clear hb); (try clear hb2); (try clear hk); (try clear hi); (try clear ho0)))
              go_ret
              exact ⟨by first | rfl | (simp [errW_none, errW_some] <;> rfl) | (simp [*, errW_none, errW_some] <;> rfl), by repeat (first | (with_reducible first | exact HB.out | apply below_alloc | apply pw_below_drewN | apply below_drew1) | exact HB.out)⟩
          · rw [if_neg c33] at H
            exact absurd H (by simp)
  · replace c3 := Bool.eq_false_iff.mpr c3
    subst c3
    have H1 : (some false) = some r := by rw [if_neg (show ¬ (false = true) by decide)] at H; exact H
    clear H
    have H := H1
    clear H1
    obtain rfl := Option.some.inj H
    go_enter Tryd.func20, Tryd.ntmps20
    go_wp2_with (first | ((with_reducible refine gate_dst (N := 12) rfl ?_); (try (refine gate_guard (by rfl) ?_; dsimp only)); refine Kd.R_lit k67 _ 67 ?hg (N := 12) ?hd (xs := ([(⟨(⟨#[97]⟩ : ByteArray), false, (⟨#[49]⟩ : ByteArray)⟩ : S67), (⟨(⟨#[98]⟩ : ByteArray), true, (⟨#[]⟩ : ByteArray)⟩ : S67)] : List (S67))) (inner := [.string (⟨#[97]⟩ : ByteArray), .bool false, .string (⟨#[49]⟩ : ByteArray), .string (⟨#[98]⟩ : ByteArray), .bool true, .string (⟨#[]⟩ : ByteArray)]) (ok := fun _ => True) (okp := fun _ => True) ?hr ?hp (fun _ hk => hk) trivial (Below.refl _ _) (Nat.le_refl _) (by simp) ?_; (case hd => rfl); (case hg => rfl); (case hr => first | (go_simp; done) | (go_simp; rfl)); (case hp => exact (Reps.c3 (show Kd.M k67 _ _ _ (⟨(⟨#[97]⟩ : ByteArray), false, (⟨#[49]⟩ : ByteArray)⟩ : S67) [.string (⟨#[97]⟩ : ByteArray), .bool false, .string (⟨#[49]⟩ : ByteArray)] from (k67_mkM _ _ _ (⟨(⟨#[97]⟩ : ByteArray), false, (⟨#[49]⟩ : ByteArray)⟩ : S67) )) (Reps.c3 (show Kd.M k67 _ _ _ (⟨(⟨#[98]⟩ : ByteArray), true, (⟨#[]⟩ : ByteArray)⟩ : S67) [.string (⟨#[98]⟩ : ByteArray), .bool true, .string (⟨#[]⟩ : ByteArray)] from (k67_mkM _ _ _ (⟨(⟨#[98]⟩ : ByteArray), true, (⟨#[]⟩ : ByteArray)⟩ : S67) )) (Reps.none _ _)))); intro v230 w47 ho48 hb hg_ hnew_; clear hg_ hnew_; (first | rw [← Ny229.out] at ho48 | (simp only [Int.reduceToNat] at ho48; rw [← Ny229.out] at ho48)); have n0_ := Aside0.mk (Kd.R_lower ho48 (below_size (by repeat (first | (with_reducible first | exact HB.out | apply below_alloc | apply pw_below_drewN | apply below_drew1) | exact HB.out)))); have n1_ := Aside0.mk (below_step (by repeat (first | (with_reducible first | exact HB.out | apply below_alloc | apply pw_below_drewN | apply below_drew1) | exact HB.out)) hb); clear HB; have HO231 := n0_; have HB := n1_; clear n0_ n1_; clear hb ho48; obtain ⟨Ao49, co49, eo49⟩ := Kd.R_slice HO231.out; subst eo49) | ((with_reducible refine gate_dst (N := 13) rfl ?_); (try (refine gate_guard (by rfl) ?_; dsimp only)); refine Kd.N_lit (Kd.slice 67 k67) _ 65 ?hg (N' := 13) ?hd (xs := ([y229, []] : List (List (S67)))) (inner := [.slice Ao49 y229.length co49, .slice none 0 0]) (ok := (fun _ => True)) (okp := (fun _ => True)) ?hr ?hp (fun _ hk => hk) ((show ∀ k_, w47.heap.size ≤ k_ → (fun _ => True) k_ from fun k_ hk => trivial) _ (Nat.le_refl _)) (Below.refl _ _) (Nat.le_refl _) (by simp) ?_; (case hd => rfl); (case hg => rfl); (case hr => first | (go_simp; done) | (go_simp; rfl)); (case hp => exact (Reps.one (show Kd.FK (Kd.slice 67 k67) _ _ y229 [.slice Ao49 y229.length co49] from (Kd.FK_slice_mk (Kd.R_reads' (Kd.R_mono (ok' := (fun _ => True)) (HO231.out) (fun k_ hk => trivial))).2.1 (Kd.R_F (Kd.R_mono (ok' := (fun _ => True)) (HO231.out) (fun k_ hk => trivial))))) (Reps.one (show Kd.FK (Kd.slice 67 k67) _ _ [] [.slice none 0 0] from (Kd.FK_slice_mk (Nat.le_refl _) (Kd.F_nil _ _ _))) (Reps.none _ _)))); intro v233 w50 ho51 hb hg_ hnew_; clear hg_ hnew_; (first | rw [← Ny232.out] at ho51 | (simp only [Int.reduceToNat] at ho51; rw [← Ny232.out] at ho51)); have n0_ := Aside0.mk (Kd.N_lower ho51 (below_size (by repeat (first | (with_reducible first | exact HB.out | apply below_alloc | apply pw_below_drewN | apply below_drew1) | exact HB.out)))); have n1_ := Aside0.mk (below_step (by repeat (first | (with_reducible first | exact HB.out | apply below_alloc | apply pw_below_drewN | apply below_drew1) | exact HB.out)) hb); clear HB; clear HO231; have HO234 := n0_; have HB := n1_; clear n0_ n1_; clear hb ho51; obtain ⟨Ao52, co52, eo52⟩ := Kd.N_slice HO234.out; subst eo52) | ((with_reducible refine gate_callee (f := 25) rfl ?_); refine goesL_ (some 15) rfl rfl Tryd.func25 (by kernel_rfl) rfl #[.int .u64 300, .slice Ao52 y232.length co52] rfl (by (try simp only [List.map_toArray, List.map_cons, List.map_nil]); first | done | rfl | (simp only [List.length_drop, List.length_take]; rfl)) ?_; (with_reducible refine (log_Put.calls k 300 _ _ y232 t235 _ ?side1 ?side2 A1.out).mono ?_); (case side1 => repeat (first | exact (Kd.N_reads' HO234.out).2.2 | (with_reducible refine Kd.C_alloc ?_ _) | (with_reducible refine Kd.C_drewN ?_ _) | (with_reducible refine Kd.C_drew ?_))); (case side2 => exact (Kd.N_reads' HO234.out).2.1); rintro e w53 ⟨v236, rfl, ho0, hb⟩; refine ⟨_, rfl, ?_⟩; have n0_ := Aside0.mk (Kd.N_elder' (by (with_reducible repeat (first | apply Kd.N_alloc | apply Kd.N_drewN | apply Kd.N_drew)); exact HO234.out) (Kd.R_base ho0) hb); have n1_ := Aside0.mk (Kd.R_lower ho0 (below_size (by repeat (first | (with_reducible first | exact HB.out | apply below_alloc | apply pw_below_drewN | apply below_drew1) | exact HB.out)))); have n2_ := Aside0.mk (below_step (by repeat (first | (with_reducible first | exact HB.out | apply below_alloc | apply pw_below_drewN | apply below_drew1) | exact HB.out)) hb); clear HO234; clear HB; have HO234 := n0_; have HO237 := n1_; have HB := n2_; clear n0_ n1_ n2_; (try clear hb); (try clear hb2); (try clear hk); (try clear hi); (try clear ho0)) | ((with_reducible refine gate_dst (N := 17) rfl ?_); (try (refine gate_guard (by rfl) ?_; dsimp only)); refine Kd.R_lit (Kd.int .u8) _ 5 ?hg (N := 17) ?hd (xs := ([172, 2, 2, 2, 0, 1, 97, 1, 49, 1, 1, 98, 0] : List Int)) (inner := [.int .u8 172, .int .u8 2, .int .u8 2, .int .u8 2, .int .u8 0, .int .u8 1, .int .u8 97, .int .u8 1, .int .u8 49, .int .u8 1, .int .u8 1, .int .u8 98, .int .u8 0]) (ok := fun _ => True) (okp := fun _ => True) ?hr ?hp (fun _ hk => hk) trivial (Below.refl _ _) (Nat.le_refl _) (by simp) ?_; (case hd => rfl); (case hg => rfl); (case hr => first | (go_simp; done) | (go_simp; rfl)); (case hp => exact (Reps.one (show Kd.M (Kd.int .u8) _ _ _ 172 [.int .u8 172] from rfl) (Reps.one (show Kd.M (Kd.int .u8) _ _ _ 2 [.int .u8 2] from rfl) (Reps.one (show Kd.M (Kd.int .u8) _ _ _ 2 [.int .u8 2] from rfl) (Reps.one (show Kd.M (Kd.int .u8) _ _ _ 2 [.int .u8 2] from rfl) (Reps.one (show Kd.M (Kd.int .u8) _ _ _ 0 [.int .u8 0] from rfl) (Reps.one (show Kd.M (Kd.int .u8) _ _ _ 1 [.int .u8 1] from rfl) (Reps.one (show Kd.M (Kd.int .u8) _ _ _ 97 [.int .u8 97] from rfl) (Reps.one (show Kd.M (Kd.int .u8) _ _ _ 1 [.int .u8 1] from rfl) (Reps.one (show Kd.M (Kd.int .u8) _ _ _ 49 [.int .u8 49] from rfl) (Reps.one (show Kd.M (Kd.int .u8) _ _ _ 1 [.int .u8 1] from rfl) (Reps.one (show Kd.M (Kd.int .u8) _ _ _ 1 [.int .u8 1] from rfl) (Reps.one (show Kd.M (Kd.int .u8) _ _ _ 98 [.int .u8 98] from rfl) (Reps.one (show Kd.M (Kd.int .u8) _ _ _ 0 [.int .u8 0] from rfl) (Reps.none _ _))))))))))))))); intro v239 w54 ho55 hb hg_ hnew_; clear hg_ hnew_; (first | rw [← Ny238.out] at ho55 | (simp only [Int.reduceToNat] at ho55; rw [← Ny238.out] at ho55)); have n0_ := Aside0.mk (Kd.N_elder' (by (with_reducible repeat (first | apply Kd.N_alloc | apply Kd.N_drewN | apply Kd.N_drew)); exact HO234.out) (Kd.R_base ho55) hb); have n1_ := Aside0.mk (Kd.R_elder' (by (with_reducible repeat (first | apply Kd.R_alloc | apply Kd.R_drewN | apply Kd.R_drew)); exact HO237.out) (Kd.R_base ho55) hb); have n2_ := Aside0.mk (Kd.R_lower (Kd.R_new' ho55 (Kd.R_lt (by (with_reducible repeat (first | apply Kd.R_alloc | apply Kd.R_drewN | apply Kd.R_drew)); exact HO237.out))) (below_size (by repeat (first | (with_reducible first | exact HB.out | apply below_alloc | apply pw_below_drewN | apply below_drew1) | exact HB.out)))); have n3_ := Aside0.mk (below_step (by repeat (first | (with_reducible first | exact HB.out | apply below_alloc | apply pw_below_drewN | apply below_drew1) | exact HB.out)) hb); clear HO234; clear HO237; clear HB; have HO234 := n0_; have HO237 := n1_; have HO240 := n2_; have HB := n3_; clear n0_ n1_ n2_ n3_; clear hb ho55; obtain ⟨Ao56, co56, eo56⟩ := Kd.R_slice HO237.out; subst eo56; obtain ⟨Ao57, co57, eo57⟩ := Kd.R_slice HO240.out; subst eo57) | ((with_reducible refine gate_callee (f := 10) rfl ?_); refine goesL_ (some 18) rfl rfl Tryd.func10 (by kernel_rfl) rfl #[.slice Ao56 t235.length co56, .slice Ao57 y238.length co57] rfl (by (try simp only [List.map_toArray, List.map_cons, List.map_nil]); first | done | rfl | (simp only [List.length_drop, List.length_take]; rfl)) ?_; (with_reducible refine (screelaw7_same.calls _ _ t235 _ _ y238 false _ ?side1 ?side2 ?side3 ?side4 A2.out).mono ?_); (case side1 => repeat (first | exact (Kd.R_reads' HO237.out).2.2 | (with_reducible refine Kd.C_alloc ?_ _) | (with_reducible refine Kd.C_drewN ?_ _) | (with_reducible refine Kd.C_drew ?_))); (case side2 => exact (Kd.R_reads' HO237.out).2.1); (case side3 => repeat (first | exact (Kd.R_reads' HO240.out).2.2 | (with_reducible refine Kd.C_alloc ?_ _) | (with_reducible refine Kd.C_drewN ?_ _) | (with_reducible refine Kd.C_drew ?_))); (case side4 => exact (Kd.R_reads' HO240.out).2.1); rintro e w' ⟨rfl, ⟨nd, rfl⟩⟩; refine ⟨_, rfl, ?_⟩))
    go_ret
    exact ⟨by first | rfl | (simp [errW_none, errW_some] <;> rfl) | (simp [*, errW_none, errW_some] <;> rfl), by repeat (first | (with_reducible first | exact HB.out | apply below_alloc | apply pw_below_drewN | apply below_drew1) | exact HB.out)⟩

end Go.Proofs.YtnamanalacjhnaaDoor.QBk
