/- Plain functions of the log: how a record is laid in pieces (this claim's own definitions; no program in sight). -/
import Derived.Test.YtnamanalacjhnaaDoorFour
namespace Go.Proofs.YtnamanalacjhnaaDoor.Lg
open Go.RowKit Go.Proofs.YtnamanalacjhnaaDoorW.PrintWords Go.Proofs.YtnamanalacjhnaaDoor.Own Go.Proofs.YtnamanalacjhnaaDoor.G
set_option linter.unusedVariables false
/-- What a piece's sum is taken of. -/
def bodyL (kind : Int) (part : List Int) : List Int := [((part.length % 256 : Nat) : Int), ((part.length / 256 % 256 : Nat) : Int), kind] ++ part
def pieceL (kind : Int) (part : List Int) : List Int := fourL (sumF (bodyL kind part)) ++ bodyL kind part
def kindL (first last : Bool) : Int := if first then (if last then 1 else 2) else if last then 4 else 3
/-- The pieces of a record, the first one at a place of its block. -/
def piecesL (first : Bool) (place : Nat) (rec : List Int) : List Int :=
  if h : rec.length ≤ 505 - place ∨ 505 ≤ place then pieceL (kindL first true) rec
  else pieceL (kindL first false) (rec.take (505 - place)) ++ piecesL false 0 (rec.drop (505 - place))
termination_by rec.length
decreasing_by simp only [List.length_drop]; omega
def appendL (at' : Int) (rec : List Int) : List Int :=
  let a := (max at' 0).toNat % 512
  if 505 ≤ a then List.replicate (512 - a) 0 ++ piecesL true 0 rec else piecesL true a rec
theorem pieces_last {first : Bool} {place : Nat} {rec : List Int} (h : rec.length ≤ 505 - place) : piecesL first place rec = pieceL (kindL first true) rec := by rw [piecesL, dif_pos (.inl h)]
theorem pieces_more {first : Bool} {place : Nat} {rec : List Int} (h : 505 - place < rec.length) (hp : place ≤ 504) : piecesL first place rec = pieceL (kindL first false) (rec.take (505 - place)) ++ piecesL false 0 (rec.drop (505 - place)) := by rw [piecesL, dif_neg (by omega)]
theorem body_len (kind : Int) (part : List Int) : (bodyL kind part).length = part.length + 3 := by simp [bodyL]
theorem piece_len (kind : Int) (part : List Int) : (pieceL kind part).length = part.length + 7 := by
  unfold pieceL
  rw [List.length_append, body_len, four_len]
  omega
theorem body_bytes {kind : Int} {part : List Int} (hk : 0 ≤ kind ∧ kind ≤ 255) (h : Bytes part) : Bytes (bodyL kind part) := by
  refine bytes_app (fun y hy => ?_) h
  simp only [List.mem_cons, List.not_mem_nil, or_false] at hy
  rcases hy with rfl | rfl | rfl
  · omega
  · omega
  · exact hk
theorem piece_bytes {kind : Int} {part : List Int} (hk : 0 ≤ kind ∧ kind ≤ 255) (h : Bytes part) : Bytes (pieceL kind part) := bytes_app (bytes_four (sumF_range (body_bytes hk h))) (body_bytes hk h)
theorem kind_range (f l : Bool) : 0 ≤ kindL f l ∧ kindL f l ≤ 255 := by cases f <;> cases l <;> decide
theorem pieces_bytes (n : Nat) : ∀ (first : Bool) (place : Nat) (rec : List Int), rec.length ≤ n → place ≤ 504 → Bytes rec → Bytes (piecesL first place rec) := by
  induction n with
  | zero =>
    intro f p r hn hp h
    rw [pieces_last (by omega)]
    exact piece_bytes (kind_range _ _) h
  | succ n ih =>
    intro f p r hn hp h
    by_cases hl : r.length ≤ 505 - p
    · rw [pieces_last hl]
      exact piece_bytes (kind_range _ _) h
    · rw [pieces_more (by omega) hp]
      exact bytes_app (piece_bytes (kind_range _ _) (bytes_take h _)) (ih _ _ _ (by rw [List.length_drop]; omega) (by omega) (bytes_drop h _))
/-- How long the pieces are, at most. -/
theorem pieces_len (n : Nat) : ∀ (first : Bool) (place : Nat) (rec : List Int), rec.length ≤ n → place ≤ 504 → (piecesL first place rec).length ≤ rec.length + 7 * rec.length + 7 := by
  induction n with
  | zero =>
    intro f p r hn hp
    rw [pieces_last (by omega), piece_len]
    omega
  | succ n ih =>
    intro f p r hn hp
    by_cases hl : r.length ≤ 505 - p
    · rw [pieces_last hl, piece_len]
      omega
    · rw [pieces_more (by omega) hp, List.length_append, piece_len]
      have := ih false 0 (r.drop (505 - p)) (by rw [List.length_drop]; omega) (by omega)
      rw [List.length_drop] at this
      rw [List.length_take]
      omega
end Go.Proofs.YtnamanalacjhnaaDoor.Lg
